import Derived.Test.YtpahalfiiahddaaGAbsXToSSDefs
import Derived.Test.YtpahalfiiahddaaGHADefsToFIDefs

namespace RC
open Go
theorem BI {n:Int} (h1:-9223372036854775808≤n) (h2:n≤9223372036854775807):Sh.w n=n:=Abs.wrap_i64 h1 h2
theorem AT {α:Type} (l:List α):Sh.len l=(l.length:Int):=rfl
theorem TY {α:Type} (l:List α) (i:Nat):Sh.get l (i:Int)=l[i]?:=by
 unfold Sh.get;rw[if_pos (Int.natCast_nonneg i)];simp
theorem BB {α:Type} {l:List α} {i:Nat} {x:α} (h:l[i]?=some x):Sh.get l (i:Int)=some x:=by rw[TY,h]
theorem OC {α:Type} {l:List α} {j:Int} (h0:0≤j) (h1:j < l.length) :∃x,Sh.get l j=some x∧l[j.toNat]?=some x:=by
 have h:l[j.toNat]?=some (l[j.toNat]'(by omega)):=List.getElem?_eq_getElem (by omega)
 exact⟨_,by unfold Sh.get;rw[if_pos h0,h],h⟩
theorem Rz {α:Type} {l:List α} {j:Int} (h0:0≤j):Sh.get l j=l[j.toNat]?:=by unfold Sh.get;rw[if_pos h0]
theorem QC {α:Type} (l:List α) (i:Nat) (x:α):Sh.put l (i:Int) x=l.set i x:=by simp[Sh.put]
theorem Lo {α:Type} (x:α) (n b:Nat) (h:n * b≤281474976710656) (h2:n≤9223372036854775807):Sh.mk x (n:Int) b=some (List.replicate n x):=by
 unfold Sh.mk
 rw[if_pos ⟨by omega,by rw[← Int.natCast_mul];omega,by omega⟩];simp
theorem Ep {α:Type} (l m:List α) (b:Nat) (h:(l.length+m.length) * b≤140737488355328) (h2:l.length+m.length≤9223372036854775807):Sh.app l m b=some (l ++ m):=by
 unfold Sh.app;rw[if_pos ⟨h,h2⟩]
theorem Vq {α:Type} {l:List α} {j:Nat} (h:j≤l.length):Sh.hi l (j:Int)=some (l.take j):=by
 unfold Sh.hi;rw[if_pos ⟨by omega,by omega⟩];simp
theorem BX (len:Nat) (P:Nat→Nat→Prop) (h0 :∀n,P (n+1) len) (hs :∀n i,i < len→P n (i+1)→P (n+1) i) :∀{N i:Nat},i≤len→len - i < N→P N i:=by
 intro N i hi hN
 obtain⟨k,hk⟩ :∃k,len - i=k:=⟨_,rfl⟩
 induction k generalizing N i with
 | zero=>
  obtain⟨n,rfl⟩ :∃n,N=n+1:=⟨N - 1,by omega⟩
  have:i=len:=by omega
  subst this;exact h0 n
 | succ k ih=>
  obtain⟨n,rfl⟩ :∃n,N=n+1:=⟨N - 1,by omega⟩
  exact hs n i (by omega) (ih (by omega) (by omega) (by omega))
theorem Bj {α:Type} {l:List α} {i:Nat} (h:i < l.length) :∃x,l[i]?=some x∧x∈l:=⟨l[i],List.getElem?_eq_getElem h,List.getElem_mem h⟩
theorem G2 {α:Type} {l:List α} {j:Nat} {x:α} (h:l[j]?=some x):l.take (j+1)=l.take j ++ [x]:=by rw[List.take_add_one,h];rfl
theorem drop_cons {α:Type} {l:List α} {j:Nat} {x:α} (h:l[j]?=some x):l.drop j=x :: l.drop (j+1):=by
 obtain⟨hj,rfl⟩:=List.getElem?_eq_some_iff.1 h
 exact List.drop_eq_getElem_cons hj
def ZP (h:List Cell):Nat:=(h.map fun c=>c.fields.length).sum
def Dt (h:List Cell):Nat:=h.length+ZP h
end RC



namespace RC
open Go
def Aj {α:Type} (x:Option α) (Q:α→Prop):Prop:=∃v,x=some v∧Q v
theorem Aj.some {α:Type} {v:α} {Q:α→Prop} (h:Q v):Aj (some v) Q:=⟨v,rfl,h⟩
theorem Aj.mono {α:Type} {x:Option α} {Q R:α→Prop} (h:Aj x Q) (g :∀v,Q v→R v):Aj x R:=
 let ⟨v,e,q⟩:=h;⟨v,e,g v q⟩
theorem Aj.bind {α β:Type} {x:Option α} {f:α→Option β} {R:α→Prop} {Q:β→Prop} (h:Aj x R) (k :∀v,R v→Aj (f v) Q):Aj (Option.bind x f) Q:=by
 obtain⟨v,rfl,hv⟩:=h;exact k v hv
theorem AY {α β:Type} {x:Option α} {f:α→Option β} {v:α} {Q:β→Prop} (h:x=Option.some v) (k:Aj (f v) Q):Aj (Option.bind x f) Q:=by
 subst h;exact k
theorem B2 {α:Type} {b:Bool} {x y:Option α} {Q:α→Prop} (h1:b=true→Aj x Q) (h2:b=false→Aj y Q):Aj (if b=true then x else y) Q:=by
 cases b
 ·exact h2 rfl
 ·exact h1 rfl
theorem A0 {α:Type} {p:Prop} [Decidable p] {x y:Option α} {Q:α→Prop} (h1:p→Aj x Q) (h2:¬ p→Aj y Q):Aj (if decide p=true then x else y) Q:=by
 by_cases h:p
 ·rw[if_pos (by simpa using h)];exact h1 h
 ·rw[if_neg (by simpa using h)];exact h2 h
theorem Aj.cont {ρ σ β:Type} {o:Option (ρ ⊕ σ)} {g:ρ→β} {f:σ→Option β} {R:ρ→Prop} {S:σ→Prop} {Q:β→Prop} (h:Aj o fun v=>match v with | .inl r=>R r | .inr s=>S s) (h1 :∀r,R r→Q (g r)) (h2 :∀s,S s→Aj (f s) Q):Aj (Sh.cont o g f) Q:=by
 obtain⟨v,rfl,hv⟩:=h
 cases v with
 | inl r=>exact⟨g r,rfl,h1 r hv⟩
 | inr s=>exact h2 s hv
theorem Aj.get {α β:Type} {l:List α} {j:Int} {f:α→Option β} {Q:β→Prop} (h0:0≤j) (h1:j < l.length) (k :∀x,l[j.toNat]?=Option.some x→x∈l→Aj (f x) Q):Aj (Option.bind (Sh.get l j) f) Q:=by
 obtain⟨x,e,hx⟩:=OC h0 h1
 exact AY e (k x hx (List.mem_of_getElem? hx))
theorem Aj.app {α β:Type} {l m:List α} {b:Nat} {f:List α→Option β} {Q:β→Prop} (h:(l.length+m.length) * b≤140737488355328) (h2:l.length+m.length≤9223372036854775807) (k:Aj (f (l ++ m)) Q):Aj (Option.bind (Sh.app l m b) f) Q:=AY (Ep l m b h h2) k
theorem Tu {n:Int} (h1:-9223372036854775808≤n) (h2:n≤9223372036854775807):Sh.wk .i64 n=n:=Abs.wrap_i64 h1 h2
theorem XU {a b:Int} (ha:0≤a) (ha':a < 4611686018427387904) (hb:0≤b) (hb':b < 4611686018427387904):0≤Sh.xor a b∧Sh.xor a b < 4611686018427387904:=by
 obtain⟨x,rfl⟩:=Int.eq_ofNat_of_zero_le ha
 obtain⟨y,rfl⟩:=Int.eq_ofNat_of_zero_le hb
 have e:Sh.xor (x:Int) (y:Int)=((x ^^^ y:Nat):Int):=by
  unfold Sh.xor
  have h1:(BitVec.ofInt 64 (x:Int) ^^^ BitVec.ofInt 64 (y:Int)).toNat=x ^^^ y:=by
   rw[BitVec.toNat_xor]
   simp only[BitVec.ofInt_natCast,BitVec.toNat_ofNat]
   rw[Nat.mod_eq_of_lt (by omega),Nat.mod_eq_of_lt (by omega)]
  rw[h1]
  have h2:x ^^^ y < 2 ^ 62:=Nat.xor_lt_two_pow (by omega) (by omega)
  exact Abs.wrap_i64 (by omega) (by omega)
 have h2:x ^^^ y < 2 ^ 62:=Nat.xor_lt_two_pow (by omega) (by omega)
 rw[e];omega
end RC



namespace RC
open Go
structure Bk (b:List Int):Prop where
 u8 :∀x∈b,U8 x
 len:b.length≤2000
def At (p K:Int):Prop:=0≤p∧p≤K
theorem QO {code:List Int} (h8 :∀x∈code,U8 x) (hl:code.length≤1048576):Aj (GC code) fun q=>Bk q.1∧q.2=0:=by
 unfold GC
 refine Aj.bind (R:=fun b=>Bk b) (A0 (fun h=>?_) fun h=>?_) fun b hb=>Aj.some ⟨hb,rfl⟩
 ·rw[AT] at h
  have e:Sh.sl code 0 2000=some (code.take 2000):=by
   unfold Sh.sl
   rw[if_pos ⟨by decide,by decide,by omega⟩];rfl
  exact AY e (Aj.some ⟨fun x hx=>h8 x (List.mem_of_mem_take hx),by simp;omega⟩)
 ·rw[AT] at h
  exact Aj.some ⟨h8,by omega⟩
theorem ML {a n:Int} (ha:0≤a) (hn:1≤n):0≤a.tmod n∧a.tmod n < n∧a.tmod n≤a:=by
 rw[Int.tmod_eq_emod_of_nonneg ha]
 refine⟨Int.emod_nonneg _ (by omega),Int.emod_lt_of_pos _ (by omega),?_⟩
 have:=Int.mul_ediv_add_emod a n
 have h2:0≤n * (a / n):=Int.mul_nonneg (by omega) (Int.ediv_nonneg ha (by omega))
 omega
theorem Rm {a n:Int} (ha:0≤a) (hn:1≤n):0≤a.tdiv n∧a.tdiv n≤a:=by
 rw[Int.tdiv_eq_ediv_of_nonneg ha]
 exact⟨Int.ediv_nonneg ha (by omega),Int.ediv_le_self _ ha⟩
theorem P3 {a n:Int} (hn:n≠0):Sh.rem a n=some (a.tmod n):=by unfold Sh.rem;rw[if_neg hn]
theorem Us {a n:Int} (hn:n≠0):Sh.quo a n=some (Sh.w (a.tdiv n)):=by unfold Sh.quo;rw[if_neg hn]
structure Pk (n p:Int) (q:Int×Int):Prop where
 pos:q.2=p+1
 nn:0≤q.1
 lt:1≤n→q.1 < n
 zero:n < 1→q.1=0
theorem Bu {b:List Int} (B:Bk b) {p n:Int} (hp:At p 1000000):Aj (Aw b p n) (Pk n p):=by
 obtain⟨p0,p1⟩:=hp
 have hlen:=B.len
 have ew:Sh.w (p+1)=p+1:=BI (by omega) (by omega)
 have ew2:Sh.w (p+1 - 1)=p:=by rw[BI (by omega) (by omega)];omega
 unfold Aw
 rw[ew,ew2,AT]
 refine Aj.bind (R:=fun t=>t=true↔n < 1∨b.length=0) (A0 (fun h=>Aj.some (by simp[h])) fun h=>Aj.some (by simp[h])) fun t ht=>?_
 refine B2 (fun h=>?_) fun h=>?_
 ·refine Aj.some ⟨rfl,by show (0:Int)≤0;decide,fun h1=>?_,fun _=>rfl⟩
  show (0:Int) < n
  omega
 ·have hn:¬ (n < 1∨b.length=0):=fun h1=>by rw[ht.2 h1] at h;cases h
  have hn1:1≤n:=by omega
  have hb1:1≤b.length:=by omega
  refine A0 (fun h1=>?_) fun h1=>?_
  ·refine Aj.get p0 h1 fun c _ hc=>?_
   obtain⟨c0,c1⟩:=B.u8 c hc
   rw[Tu (by omega) (by omega)]
   obtain⟨m0,m1,_⟩:=ML c0 hn1
   exact AY (P3 (by omega)) (Aj.some ⟨rfl,m0,fun _=>m1,fun h=>absurd h (by omega)⟩)
  ·have k1:(1:Int)≤b.length:=by omega
   obtain⟨a0,a1,_⟩:=ML p0 k1
   have e7:Sh.w (p * 7)=p * 7:=BI (by omega) (by omega)
   have e73:Sh.w (p * 7+3)=p * 7+3:=BI (by omega) (by omega)
   obtain⟨d0,d1,_⟩:=ML (a:=p * 7+3) (by omega) k1
   obtain⟨f0,f1⟩:=Rm p0 k1
   rw[e7,e73]
   refine AY (P3 (by omega)) ?_
   refine Aj.get a0 a1 fun c _ hc=>?_
   obtain⟨c0,c1⟩:=B.u8 c hc
   refine AY (P3 (by omega)) ?_
   refine Aj.get d0 d1 fun c' _ hc'=>?_
   obtain⟨c0',c1'⟩:=B.u8 c' hc'
   refine AY (Us (by omega)) ?_
   rw[Tu (n:=c) (by omega) (by omega),Tu (n:=c') (by omega) (by omega),BI (n:=p.tdiv b.length) (by omega) (by omega),BI (n:=c * 131) (by omega) (by omega),BI (n:=c' * 1117) (by omega) (by omega),
    BI (n:=c * 131+c' * 1117) (by omega) (by omega),BI (n:=p * 29) (by omega) (by omega),BI (n:=c * 131+c' * 1117+p * 29) (by omega) (by omega),BI (n:=p.tdiv b.length * 53) (by omega) (by omega),
    BI (n:=c * 131+c' * 1117+p * 29+p.tdiv b.length * 53) (by omega) (by omega)]
   obtain⟨x,hx⟩ :∃x,x=c * 131+c' * 1117+p * 29+p.tdiv b.length * 53:=⟨_,rfl⟩
   rw[← hx]
   have x0:0≤x:=by omega
   have x1:x≤1000000000000:=by omega
   obtain⟨y0,y1⟩:=Rm x0 (by decide:(1:Int)≤64)
   rw[BI (n:=x.tdiv 64) (by omega) (by omega)]
   obtain⟨z0,z1⟩:=XU x0 (by omega) y0 (by omega)
   obtain⟨m0,m1,_⟩:=ML z0 hn1
   exact AY (P3 (by omega)) (Aj.some ⟨rfl,m0,fun _=>m1,fun h=>absurd h (by omega)⟩)
structure On (l:List Int) (p:Int) (q:Int×Int):Prop where
 pos:q.2=p+1
 mem:q.1∈l
theorem Ew {b:List Int} (B:Bk b) {p:Int} {l:List Int} (hp:At p 1000000) (hl:1≤l.length) (hl2:l.length≤1000):Aj (BY b p l) (On l p):=by
 unfold BY
 rw[AT]
 refine Aj.bind (Bu B hp) fun q ⟨h1,h2,h3,_⟩=>?_
 exact Aj.get h2 (h3 (by omega)) fun x _ hx=>Aj.some ⟨h1,hx⟩
end RC



namespace RC
open Go
def Ch {α:Type} (f:Nat→α→Bool):Nat→List α→Bool
 | _,[]=>true
 | k,x :: r=>f k x && Ch f (k+1) r
theorem OJ {α:Type} {f g:Nat→α→Bool} :∀(l:List α) (k:Nat),(∀(i:Nat) x,l[i]?=some x→f (k+i) x=g (k+i) x)→Ch f k l=Ch g k l
 | [],_,_=>rfl
 | x :: r,k,h=>by
  have h0:=h 0 x rfl
  rw[Nat.add_zero] at h0
  have h1:=OJ r (k+1) fun i y hy=>(show k+(i+1)=k+1+i by omega) ▸ h (i+1) y hy
  rw[Ch,Ch,h0,h1]
theorem ET {α:Type} {p:α→Bool} :∀(l:List α) (k:Nat),Ch (fun _ x=>p x) k l=l.all p
 | [],_=>rfl
 | x :: r,k=>by rw[Ch,ET r (k+1),List.all_cons]
theorem DF {α:Type} {l:List α} (L:Nat→Int→Option (Bool ⊕ Unit)) (f:Nat→α→Bool) (h0 :∀n,L (n+1) (l.length:Int)=some (.inr ()))
  (hs :∀n (i:Nat) x,l[i]?=some x→L (n+1) (i:Int)=if f i x=true then L n ((i+1:Nat):Int) else some (.inl false)) {N:Nat} (hN:l.length < N) :
  L N 0=some (if Ch f 0 l=true then .inr () else .inl false):=by
 have key :∀{N i:Nat},i≤l.length→l.length - i < N→L N (i:Int)=some (if Ch f i (l.drop i)=true then .inr () else .inl false):=by
  intro N i hi hN
  refine BX l.length (fun N i=>L N (i:Int)=some (if Ch f i (l.drop i)=true then .inr () else .inl false)) ?_ ?_ hi hN
  ·intro n;rw[h0 n];simp[Ch]
  ·intro n i hi ih
   obtain⟨x,hx,_⟩:=Bj hi
   rw[hs n i x hx,ih,drop_cons hx,Ch]
   cases h:f i x <;> simp
 have:=key (Nat.zero_le _) (by omega:l.length - 0 < N)
 simpa using this
theorem DE {β:Type} {b:Bool} {g:Bool→β} {K:Unit→Option β}:Sh.cont (some (if b=true then Sum.inr () else Sum.inl false)) g K=if b=true then K () else some (g false):=by
 cases b <;> rfl
theorem S7 {α:Type} {l:List α} {j:Nat} (h:j≤l.length) (h2:l.length≤9223372036854775807):Sh.sl l 0 (j:Int)=some (l.take j):=by
 unfold Sh.sl
 rw[if_pos ⟨by omega,by omega,by omega⟩];simp
end RC


namespace RC
open Go
end RC


namespace RC
open Go
def Yd (h:List Cell) (w:Int):Bool:=decide (1000≤w) && (match h[(w - 1000).toNat]? with | some c=>decide (0 < c.count) | none=>false)
theorem DL (a b c:Int):CD a b c=some (decide (b≤a) && decide (a≤c)):=by
 unfold CD
 by_cases h:b≤a <;> simp[h]
end RC



namespace RC
open Go
def Dm (D:List Ac) (t:Int):Bool:=decide (0≤t) && decide (t≤(D.length:Int))
theorem Jj {D:List Ac} {x:Int}:CD x 0 (Sh.len D)=some (Dm D x):=by rw[DL];rfl
theorem Ji {D:List Ac} {l:List Int} (hl:l.length≤1048576) {N:Nat} (hN:l.length < N):Fw N D l=some (l.all (Dm D)):=by
 unfold Fw
 rw[DF (l:=l) (Du D l) (fun _ x=>Dm D x) (fun n=>by rw[Du,if_neg (by simp[AT])]) (fun n i x hx=>?_) hN,DE,ET]
 ·cases l.all (Dm D) <;> rfl
 ·have hi:=(List.getElem?_eq_some_iff.1 hx).1
  rw[Du,if_pos (by simp[AT];omega),BB hx]
  simp only[Option.bind_some]
  rw[Jj,BI (by omega) (by omega),show ((i:Int) + 1)=((i+1:Nat):Int) by omega]
  simp only[Option.bind_some]
  cases Dm D x <;> rfl
theorem HX {D:List Ac} {t:Int}:FY D t=some (Dm D t):=by
 unfold FY Dm
 by_cases h:0≤t <;> by_cases h2:t≤(D.length:Int) <;> simp[h,h2,AT]
theorem H9 {D:List Ac} {l:List Int} (hl:l.length≤1048576) {N:Nat} (hN:l.length < N):FJ N D l=some (l.all (Dm D)):=by
 unfold FJ
 rw[DF (l:=l) (Dy D l) (fun _ x=>Dm D x) (fun n=>by rw[Dy,if_neg (by simp[AT])]) (fun n i x hx=>?_) hN,DE,ET]
 ·cases l.all (Dm D) <;> rfl
 ·have hi:=(List.getElem?_eq_some_iff.1 hx).1
  rw[Dy,if_pos (by simp[AT];omega),BB hx]
  simp only[Option.bind_some]
  rw[HX,BI (by omega) (by omega),show ((i:Int) + 1)=((i+1:Nat):Int) by omega]
  simp only[Option.bind_some]
  cases Dm D x <;> rfl
def Mo (D:List Ac) (c:Gl):Bool:=decide (c.fields.length≤3) && c.fields.all (Dm D)
def Fk (a b:Ac):Bool:=decide (a.cons.length=0) && (decide (a.from_=b.from_) && decide (a.to=b.to))
def Is (D:List Ac) (i:Nat) (d:Ac):Bool:=
 if 0 < d.cons.length then (decide (d.cons.length≤3) && (decide (d.from_=0) && decide (d.to=0))) && d.cons.all (Mo D)
 else (D.take i).all (fun e=>!Fk e d) && (Dm D d.from_ && Dm D d.to)
def Oi (D:List Ac) (i:Nat) (d:Ac):Bool:=
 ((Dm D d.from_ && (Dm D d.to && (decide (d.cons.length≤3) && (!(decide (0 < d.cons.length) && (!decide (d.from_=0) || !decide (d.to=0))))))) && d.cons.all (Mo D)) && (D.take i).all (fun e=>!(decide (d.cons.length=0) && Fk e d))
theorem UA (D:List Ac) (i:Nat) (d:Ac):Oi D i d=Is D i d:=by
 unfold Oi Is
 by_cases h:0 < d.cons.length
 ·have h0:¬ d.cons.length=0:=by omega
  have ha:(D.take i).all (fun e=>!(decide (d.cons.length=0) && Fk e d))=true:=by simp[h0]
  rw[if_pos h,ha]
  by_cases h1:d.from_=0 <;> by_cases h2:d.to=0 <;> simp[h,h1,h2,Dm]
 ·have h0:d.cons.length=0:=by omega
  have hc:d.cons=[]:=List.eq_nil_of_length_eq_zero h0
  rw[if_neg h]
  simp only[hc,h0,List.length_nil,List.all_nil,decide_true,Bool.true_and,Bool.and_true]
  cases Dm D d.from_ <;> cases Dm D d.to <;> simp
structure MH (D:List Ac):Prop where
 len:D.length≤1048576
 cons :∀d∈D,d.cons.length≤1048576
 Lq :∀d∈D,∀c∈d.cons,c.fields.length≤1048576
theorem Mv {D:List Ac} (hD:MH D) {i:Nat} {d:Ac} (hd:D[i]?=some d) {N:Nat} (hN:2000000≤N):GK N D i=some (Is D i d):=by
 have hm:=List.mem_of_getElem? hd
 have hi:=(List.getElem?_eq_some_iff.1 hd).1
 have hlen:=hD.len
 have hc:=hD.cons d hm
 unfold GK Is
 rw[BB hd]
 simp only[Option.bind_some]
 by_cases h:0 < d.cons.length
 ·rw[if_pos (by simp[AT];omega),if_pos h]
  rw[DF (l:=d.cons) (Dd N d D) (fun _ c=>Mo D c) (fun n=>by rw[Dd,if_neg (by simp[AT])]) (fun n j c hj=>?_) (by omega),DE,ET]
  ·simp only[AT]
   by_cases h3:d.cons.length≤3
   ·have e3:¬ (3:Int) < (d.cons.length:Int):=by omega
    generalize d.cons.all (Mo D)=z
    cases z <;> by_cases h1:d.from_=0 <;> by_cases h2:d.to=0 <;> simp[h1,h2,h3,e3]
   ·have e3:(3:Int) < (d.cons.length:Int):=by omega
    simp[h3,e3]
  ·have hj':=(List.getElem?_eq_some_iff.1 hj).1
   have hf:=hD.Lq d hm c (List.mem_of_getElem? hj)
   rw[Dd,if_pos (by simp[AT];omega),BB hj]
   simp only[Option.bind_some]
   rw[Ji hf (by omega),BI (by omega) (by omega),show ((j:Int) + 1)=((j+1:Nat):Int) by omega]
   unfold Mo
   by_cases h3:c.fields.length≤3
   ·have e3:¬ (3:Int) < (c.fields.length:Int):=by omega
    simp only[AT]
    cases c.fields.all (Dm D) <;> simp[h3,e3]
   ·have e3:(3:Int) < (c.fields.length:Int):=by omega
    simp[h3,e3,AT]
 ·have h0:d.cons.length=0:=by omega
  have e0:¬ decide ((0:Int) < Sh.len d.cons)=true:=by rw[AT,h0];simp
  rw[if_neg e0,if_neg h]
  have hlt:(D.take i).length=i:=by simp;omega
  rw[DF (l:=D.take i) (Df d D i) (fun _ e=>!Fk e d) (fun n=>by rw[Df,if_neg (by simp;omega)]) (fun n j e hj=>?_) (by omega),DE,ET]
  ·rw[Jj,Jj]
   simp only[Option.bind_some]
   cases (D.take i).all (fun e=>!Fk e d) <;> cases Dm D d.from_ <;> simp
  ·have hj':=(List.getElem?_eq_some_iff.1 hj).1
   have hje:D[j]?=some e:=by rw[List.getElem?_take] at hj;split at hj <;> first | exact hj | cases hj
   rw[Df,if_pos (by simp;omega),BB hje]
   simp only[Option.bind_some]
   rw[BI (by omega) (by omega),show ((j:Int) + 1)=((j+1:Nat):Int) by omega]
   unfold Fk
   simp only[AT]
   by_cases a0:e.cons.length=0 <;> by_cases a1:e.from_=d.from_ <;> by_cases a2:e.to=d.to <;> simp[a0,a1,a2]
def Jk (D:List Ac):Bool:=decide (D.length≤4) && Ch (Is D) 0 D
theorem MZ {D:List Ac} (hD:MH D) {N:Nat} (hN:2000000≤N):Fx N D=some (Jk D):=by
 have hlen:=hD.len
 unfold Fx Jk
 rw[DF (l:=D) (DK N D) (Is D) (fun n=>by rw[DK,if_neg (by simp[AT])]) (fun n i d hd=>?_) (by omega),DE]
 ·simp only[AT]
  by_cases h:D.length≤4
  ·have e4:¬ (4:Int) < (D.length:Int):=by omega
   cases Ch (Is D) 0 D <;> simp[h,e4]
  ·have e4:(4:Int) < (D.length:Int):=by omega
   simp[h,e4]
 ·have hi:=(List.getElem?_eq_some_iff.1 hd).1
  rw[DK,if_pos (by simp[AT];omega),Mv hD hd hN]
  simp only[Option.bind_some]
  rw[BI (by omega) (by omega),show ((i:Int) + 1)=((i+1:Nat):Int) by omega]
  cases Is D i d <;> rfl
theorem MU {D:List Ac} (hD:MH D) {N:Nat} (hN:2000000≤N):Fz N D=some (Jk D):=by
 have hlen:=hD.len
 unfold Fz Jk
 rw[← OJ (f:=Oi D) D 0 (fun i d _=>UA D _ d)]
 rw[DF (l:=D) (DM N D) (Oi D) (fun n=>by rw[DM,if_neg (by simp[AT])]) (fun n i d hd=>?_) (by omega),DE]
 ·simp only[AT]
  by_cases h:D.length≤4
  ·have e4:¬ (4:Int) < (D.length:Int):=by omega
   cases Ch (Oi D) 0 D <;> simp[h,e4]
  ·have e4:(4:Int) < (D.length:Int):=by omega
   simp[h,e4]
 ·have hi:=(List.getElem?_eq_some_iff.1 hd).1
  have hm:=List.mem_of_getElem? hd
  have hc:=hD.cons d hm
  have l2:Cn N d D N 0=some (if d.cons.all (Mo D)=true then .inr () else .inl false):=by
   rw[DF (l:=d.cons) (Cn N d D) (fun _ c=>Mo D c) (fun n=>by rw[Cn,if_neg (by simp[AT])]) (fun n j c hj=>?_) (by omega),ET]
   have hj':=(List.getElem?_eq_some_iff.1 hj).1
   have hf:=hD.Lq d hm c (List.mem_of_getElem? hj)
   rw[Cn,if_pos (by simp[AT];omega),BB hj]
   simp only[Option.bind_some]
   rw[H9 hf (by omega),BI (by omega) (by omega),show ((j:Int) + 1)=((j+1:Nat):Int) by omega]
   unfold Mo
   by_cases h3:c.fields.length≤3
   ·have e3:¬ (3:Int) < (c.fields.length:Int):=by omega
    simp only[AT]
    cases c.fields.all (Dm D) <;> simp[h3,e3]
   ·have e3:(3:Int) < (c.fields.length:Int):=by omega
    simp[h3,e3,AT]
  have hlt:(D.take i).length=i:=by simp;omega
  have l3:Co d (D.take i) N 0=some (if (D.take i).all (fun e=>!(decide (d.cons.length=0) && Fk e d))=true then .inr () else .inl false):=by
   rw[DF (l:=D.take i) (Co d (D.take i)) (fun _ e=>!(decide (d.cons.length=0) && Fk e d)) (fun n=>by rw[Co,if_neg (by simp[AT])]) (fun n j e hj=>?_) (by omega),ET]
   have hj':=(List.getElem?_eq_some_iff.1 hj).1
   rw[Co,if_pos (by simp only[AT];simp;omega),BB hj]
   simp only[Option.bind_some]
   rw[BI (by omega) (by omega),show ((j:Int) + 1)=((j+1:Nat):Int) by omega]
   unfold Fk
   simp only[AT]
   by_cases b0:d.cons.length=0 <;> by_cases a0:e.cons.length=0 <;> by_cases a1:e.from_=d.from_ <;> by_cases a2:e.to=d.to <;> simp[a0,a1,a2,b0]
  rw[DM,if_pos (by simp[AT];omega),BB hd]
  simp only[Option.bind_some]
  rw[HX,HX,l2,S7 (by omega) (by omega),BI (by omega) (by omega),show ((i:Int) + 1)=((i+1:Nat):Int) by omega]
  simp only[Option.bind_some]
  rw[l3,DE,DE]
  unfold Oi
  simp only[AT]
  generalize d.cons.all (Mo D)=z1
  generalize (D.take i).all (fun e=>!(decide (d.cons.length=0) && Fk e d))=z2
  by_cases h3:d.cons.length≤3
  ·have e3:¬ (3:Int) < (d.cons.length:Int):=by omega
   by_cases h0:0 < d.cons.length
   ·have e0:(0:Int) < (d.cons.length:Int):=by omega
    cases Dm D d.from_ <;> cases Dm D d.to <;> cases z1 <;> cases z2 <;> by_cases h1:d.from_=0 <;> by_cases h2:d.to=0 <;> simp[h1,h2,h3,e3,h0]
   ·have e0:¬ (0:Int) < (d.cons.length:Int):=by omega
    cases Dm D d.from_ <;> cases Dm D d.to <;> cases z1 <;> cases z2 <;> simp[h3,e3,h0]
  ·have e3:(3:Int) < (d.cons.length:Int):=by omega
   cases Dm D d.from_ <;> cases Dm D d.to <;> simp[h3,e3]
end RC



namespace RC
open Go
def It (ps ls:List Int) (i:Nat) (v:Int):Bool:=
 (decide (0≤v) && decide (v < (ps.length:Int))) && (!decide (ps[v.toNat]?=some 0) && !(decide (0 < i) && decide (v≤(ls[i - 1]?).getD 0)))
theorem VX {ls:List Int} {i:Nat} (h0:0 < i) (hi:i < ls.length) :∃x,ls[i - 1]?=some x∧Sh.get ls (((i:Nat):Int) - 1)=some x:=by
 obtain⟨x,hx,_⟩:=Bj (l:=ls) (i:=i - 1) (by omega)
 exact⟨x,hx,by rw[show ((i:Int) - 1)=((i - 1:Nat):Int) by omega,BB hx]⟩
theorem RZ {c:BW} (hp:c.params.length≤1048576) (hl:c.Ee.length≤1048576) {N:Nat} (hN:2000000≤N):C1 c N 0=some (if Ch (It c.params c.Ee) 0 c.Ee=true then .inr () else .inl false):=by
 refine DF (l:=c.Ee) (C1 c) (It c.params c.Ee) (fun n=>by rw[C1,if_neg (by simp[AT])]) (fun n i v hv=>?_) (by omega)
 have hi:=(List.getElem?_eq_some_iff.1 hv).1
 rw[C1,if_pos (by simp[AT];omega),BB hv]
 simp only[Option.bind_some]
 rw[AT,BI (n:=(i:Int) + 1) (by omega) (by omega),BI (n:=(i:Int) - 1) (by omega) (by omega),show ((i:Int) + 1)=((i+1:Nat):Int) by omega]
 unfold It
 by_cases h0:0≤v
 ·have h0':¬ v < 0:=by omega
  by_cases h1:v < (c.params.length:Int)
  ·have h1':¬ (c.params.length:Int)≤v:=by omega
   obtain⟨d,e1,e2⟩:=OC h0 h1
   rw[e1,e2]
   by_cases hi0:0 < i
   ·obtain⟨x,g1,g2⟩:=VX hi0 hi
    rw[g1,g2]
    by_cases hc:d=0 <;> by_cases hx:v≤x <;> simp[h0,h0',h1,h1',hc,hi0,hx]
   ·by_cases hc:d=0 <;> simp[h0,h0',h1,h1',hc,hi0]
  ·have h1':(c.params.length:Int)≤v:=by omega
   simp[h0,h0',h1,h1']
 ·have h0':v < 0:=by omega
  simp[h0,h0']
def KY (D:List Ac) (ps:List Int) (r:Int):Bool:=decide (ps.length≤3) && (ps.all (Dm D) && Dm D r)
theorem Ow {p:Af} (hf:p.funcs.length≤1048576) (hp :∀f∈p.funcs,f.params.length≤1048576) {N:Nat} (hN:2000000≤N):C6 N p N 0=some (if (p.funcs.all fun f=>KY p.decls f.params f.result)=true then .inr () else .inl false):=by
 rw[← ET _ 0]
 refine DF (l:=p.funcs) (C6 N p) (fun _ f=>KY p.decls f.params f.result) (fun n=>by rw[C6,if_neg (by simp[AT])]) (fun n i f hi=>?_) (by omega)
 have hi':=(List.getElem?_eq_some_iff.1 hi).1
 have hpf:=hp f (List.mem_of_getElem? hi)
 rw[C6,if_pos (by simp[AT];omega),BB hi]
 simp only[Option.bind_some]
 rw[Ji hpf (by omega),Jj,BI (by omega) (by omega),show ((i:Int) + 1)=((i+1:Nat):Int) by omega]
 unfold KY
 simp only[AT]
 by_cases h3:f.params.length≤3
 ·have e3:¬ (3:Int) < (f.params.length:Int):=by omega
  generalize f.params.all (Dm p.decls)=z
  cases z <;> cases Dm p.decls f.result <;> simp[h3,e3]
 ·have e3:(3:Int) < (f.params.length:Int):=by omega
  simp[h3,e3]
theorem Oe {D:List Ac} {l:List BW} (hf:l.length≤1048576) (hp :∀f∈l,f.params.length≤1048576∧f.Ee.length≤1048576) {N:Nat} (hN:2000000≤N):C5 N D l N 0=some (if (l.all fun f=>KY D f.params f.result && Ch (It f.params f.Ee) 0 f.Ee)=true then .inr () else .inl false):=by
 rw[← ET _ 0]
 refine DF (l:=l) (C5 N D l) (fun _ f=>KY D f.params f.result && Ch (It f.params f.Ee) 0 f.Ee) (fun n=>by rw[C5,if_neg (by simp[AT])]) (fun n i f hi=>?_) (by omega)
 have hi':=(List.getElem?_eq_some_iff.1 hi).1
 have hpf:=hp f (List.mem_of_getElem? hi)
 rw[C5,if_pos (by simp[AT];omega),BB hi]
 simp only[Option.bind_some]
 rw[H9 hpf.1 (by omega),HX,RZ hpf.1 hpf.2 hN,DE,BI (by omega) (by omega),show ((i:Int) + 1)=((i+1:Nat):Int) by omega]
 unfold KY
 simp only[AT]
 generalize Ch (It f.params f.Ee) 0 f.Ee=y
 by_cases h3:f.params.length≤3
 ·have e3:¬ (3:Int) < (f.params.length:Int):=by omega
  generalize f.params.all (Dm D)=z
  cases z <;> cases Dm D f.result <;> cases y <;> simp[h3,e3]
 ·have e3:(3:Int) < (f.params.length:Int):=by omega
  simp[h3,e3]
end RC
namespace RC
open Go
def SF (D:List (List Int×Int)):Bool:=match D with | []=>false | (ps,r) :: _=>decide (ps.length=0) && decide (r=0)
def Kt (D:List Ac) (l:List (List Int×Int)):Bool:=Jk D && ((decide (1≤l.length) && decide (l.length≤4)) && (l.all (fun s=>KY D s.1 s.2) && SF l))
theorem NH {p:Af} (hD:MH p.decls) (hf:p.funcs.length≤1048576) (hp :∀f∈p.funcs,f.params.length≤1048576) {N:Nat} (hN:2000000≤N):FQ N p=some (Kt p.decls (p.funcs.map fun f=>(f.params,f.result))):=by
 unfold FQ Kt
 rw[MZ hD hN,Ow hf hp hN,DE,DL]
 simp only[Option.bind_some,List.length_map,List.all_map,Function.comp_def]
 cases Jk p.decls with
 | false=>simp
 | true=>
  cases hl:p.funcs with
  | nil=>simp[AT]
  | cons f r=>
   have e0:Sh.get (f :: r) 0=some f:=rfl
   rw[e0]
   generalize (f :: r).all (fun f=>KY p.decls f.params f.result)=z
   simp only[List.map_cons,SF]
   have q1:decide ((1:Int)≤Sh.len (f :: r))=true:=decide_eq_true (by rw[AT,List.length_cons];omega)
   have q2:decide (1≤(f :: r).length)=true:=by simp
   have q3:decide (Sh.len (f :: r)≤4)=decide ((f :: r).length≤4):=decide_eq_decide.2 (by rw[AT];omega)
   have q4:decide (Sh.len f.params=0)=decide (f.params.length=0):=decide_eq_decide.2 (by rw[AT];omega)
   simp only[q1,q2,q3,q4,Option.bind_some]
   cases decide ((f :: r).length≤4) <;> cases z <;> by_cases a1:f.params.length=0 <;> by_cases a2:f.result=0 <;> simp[a1,a2]
theorem NQ {D:List Ac} {l:List BW} (hD:MH D) (hf:l.length≤1048576) (hp :∀f∈l,f.params.length≤1048576∧f.Ee.length≤1048576) {N:Nat} (hN:2000000≤N) :
  GI N D l=some (Kt D (l.map fun f=>(f.params,f.result)) && l.all (fun f=>Ch (It f.params f.Ee) 0 f.Ee)):=by
 unfold GI Kt
 rw[MU hD hN,Oe hf hp hN,DE]
 have hsplit:(l.all fun f=>KY D f.params f.result && Ch (It f.params f.Ee) 0 f.Ee)=((l.all fun f=>KY D f.params f.result) && (l.all fun f=>Ch (It f.params f.Ee) 0 f.Ee)):=by
  clear hf hp
  induction l with
  | nil=>rfl
  | cons f r ih=>
   simp only[List.all_cons,ih]
   cases KY D f.params f.result <;> cases Ch (It f.params f.Ee) 0 f.Ee <;> simp
 rw[hsplit]
 simp only[Option.bind_some,List.length_map,List.all_map,Function.comp_def]
 cases Jk D with
 | false=>simp
 | true=>
  cases hl:l with
  | nil=>simp[AT]
  | cons f r=>
   have e0:Sh.get (f :: r) 0=some f:=rfl
   rw[e0]
   generalize (f :: r).all (fun f=>KY D f.params f.result)=z
   generalize (f :: r).all (fun f=>Ch (It f.params f.Ee) 0 f.Ee)=y
   simp only[List.map_cons,SF]
   have q1:decide (Sh.len (f :: r) < 1)=false:=decide_eq_false (by rw[AT,List.length_cons];omega)
   have q2:decide (1≤(f :: r).length)=true:=by simp
   have q3:decide ((4:Int) < Sh.len (f :: r))=!decide ((f :: r).length≤4):=by rw[← decide_not];exact decide_eq_decide.2 (by rw[AT];omega)
   have q4:decide ((0:Int) < Sh.len f.params)=!decide (f.params.length=0):=by rw[← decide_not];exact decide_eq_decide.2 (by rw[AT];omega)
   simp only[q1,q2,q3,q4,Option.bind_some]
   cases decide ((f :: r).length≤4) <;> cases z <;> cases y <;> by_cases a1:f.params.length=0 <;> by_cases a2:f.result=0 <;> simp[a1,a2]
end RC



namespace RC
open Go
def nc (D:List Ac):Nat:=(D.map (·.cons.length)).sum
theorem Ig {D:List Ac} {i:Nat} {d:Ac} (h:D[i]?=some d):nc (D.take (i+1))=nc (D.take i) + d.cons.length:=by
 rw[G2 h];simp[nc]
theorem NT {D:List Ac} {i:Nat} {d:Ac} (h:D[i]?=some d):nc (D.drop i)=d.cons.length+nc (D.drop (i+1)):=by
 rw[drop_cons h];simp[nc]
theorem FU (D:List Ac) (i:Nat):nc D=nc (D.take i) + nc (D.drop i):=by
 unfold nc
 rw[← List.sum_append_nat,← List.map_append,List.take_append_drop]
theorem Gm {D:List Ac} (hD:D.length≤1048576) (hn:nc D≤1048576) {i:Nat} (hi:i≤D.length) {N:Nat} (hN:2000000≤N):FI N D i=some (nc (D.take i):Int):=by
 unfold FI
 have key :∀{N j:Nat},j≤i→i - j < N→DT D i N (nc (D.take j)) j=some (nc (D.take i):Int):=by
  intro N j hj hN
  refine BX i (fun N j=>DT D i N (nc (D.take j)) j=some (nc (D.take i):Int)) ?_ ?_ hj hN
  ·intro n;rw[DT,if_neg (by simp)]
  ·intro n j hj ih
   obtain⟨d,hd,_⟩:=Bj (l:=D) (i:=j) (by omega)
   have hs:=FU D (j+1)
   have ht:=Ig hd
   rw[DT,if_pos (by simp;omega),BB hd]
   simp only[Option.bind_some]
   rw[AT,BI (n:=(j:Int) + 1) (by omega) (by omega),BI (by omega) (by omega),show ((nc (D.take j):Int) + (d.cons.length:Int))=((nc (D.take (j+1)):Nat):Int) by omega,show ((j:Int) + 1)=((j+1:Nat):Int) by omega]
   exact ih
 have:=key (Nat.zero_le _) (by omega:i - 0 < N)
 rw[show (((nc (D.take 0):Nat):Int))=0 from rfl,show (((0:Nat):Int))=0 from rfl] at this
 rw[this];rfl
theorem NV {D:List Ac} (hD:D.length≤1048576) (hn:nc D≤1048576) {N:Nat} (hN:2000000≤N):G0 N D=some (nc D:Int):=by
 unfold G0
 have key :∀{N j:Nat},j≤D.length→D.length - j < N→DX D N (nc (D.take j)) j=some (nc D:Int):=by
  intro N j hj hN
  refine BX D.length (fun N j=>DX D N (nc (D.take j)) j=some (nc D:Int)) ?_ ?_ hj hN
  ·intro n;rw[DX,if_neg (by simp[AT]),List.take_length]
  ·intro n j hj ih
   obtain⟨d,hd,_⟩:=Bj hj
   have hs:=FU D (j+1)
   have ht:=Ig hd
   rw[DX,if_pos (by simp[AT];omega),BB hd]
   simp only[Option.bind_some]
   rw[AT,BI (n:=(j:Int) + 1) (by omega) (by omega),BI (by omega) (by omega),show ((nc (D.take j):Int) + (d.cons.length:Int))=((nc (D.take (j+1)):Nat):Int) by omega,show ((j:Int) + 1)=((j+1:Nat):Int) by omega]
   exact ih
 have:=key (Nat.zero_le _) (by omega:D.length - 0 < N)
 rw[show (((nc (D.take 0):Nat):Int))=0 from rfl,show (((0:Nat):Int))=0 from rfl] at this
 rw[this];rfl
def Fl:List Ac→Nat→Nat→Option (Nat×Gl)
 | [],_,_=>none
 | d :: r,k,c=>match d.cons[c]? with
  | some x=>some (k+1,x)
  | none=>Fl r (k+1) (c - d.cons.length)
theorem L0 {D:List Ac} (hD:D.length≤1048576) (hn:nc D≤1048576) {c:Nat} (hc:c < nc D) {N:Nat} (hN:2000000≤N) :∃t x,Fl D 0 c=some (t,x)∧F4 N D c=some ((t:Int),x):=by
 have key :∀(m j N c:Nat),D.length - j=m→j≤D.length→m < N→c < nc (D.drop j)→∃t x,Fl (D.drop j) j c=some (t,x)∧D5 D N c j=some (.inl ((t:Int),x)):=by
  intro m
  induction m with
  | zero=>
   intro j N c h1 h2 _ h3
   rw[List.drop_eq_nil_of_le (by omega)] at h3;simp[nc] at h3
  | succ m ih=>
   intro j N c h1 h2 h3 h4
   obtain⟨N,rfl⟩ :∃n,N=n+1:=⟨N - 1,by omega⟩
   obtain⟨d,hd,_⟩:=Bj (l:=D) (i:=j) (by omega)
   have hs:=FU D j
   rw[NT hd] at h4 hs
   rw[drop_cons hd]
   unfold Fl
   rw[D5,if_pos (by simp[AT];omega),BB hd]
   simp only[Option.bind_some]
   rw[if_pos (by simp),AT,BI (n:=(j:Int) + 1) (by omega) (by omega),BI (by omega) (by omega)]
   cases hx:d.cons[c]? with
   | some x=>
    have hlt:=(List.getElem?_eq_some_iff.1 hx).1
    refine⟨j+1,x,rfl,?_⟩
    have e:((c:Int) < (d.cons.length:Int)):=by omega
    simp[e,BB hx]
   | none=>
    have hle:d.cons.length≤c:=by simpa using hx
    obtain⟨t,x,g1,g2⟩:=ih (j+1) N (c - d.cons.length) (by omega) (by omega) (by omega) (by omega)
    refine⟨t,x,g1,?_⟩
    have e:¬ ((c:Int) < (d.cons.length:Int)):=by omega
    rw[← g2,show ((c:Int) - (d.cons.length:Int))=((c - d.cons.length:Nat):Int) by omega,show ((j:Int) + 1)=((j+1:Nat):Int) by omega]
    simp[e]
 obtain⟨t,x,g1,g2⟩:=key D.length 0 N c (by omega) (by omega) (by omega) (by simpa using hc)
 refine⟨t,x,by simpa using g1,?_⟩
 unfold F4
 rw[show (((0:Nat):Int))=0 from rfl] at g2
 rw[g2];rfl
end RC
namespace RC
open Go
theorem KL {D:List Ac} (hD:D.length≤1048576) (hn:nc D≤1048576) {c:Nat} (hc:c < nc D) {N:Nat} (hN:2000000≤N) :∃t x,Fl D 0 c=some (t,x)∧Er N D c=some (t:Int):=by
 have key :∀(m j M c:Nat),D.length - j=m→j≤D.length→m < M→c < nc (D.drop j)→∃t x,Fl (D.drop j) j c=some (t,x)∧Cs N D ((nc (D.take j) + c:Nat):Int) M j=some (.inl (t:Int)):=by
  intro m
  induction m with
  | zero=>
   intro j M c h1 h2 _ h3
   rw[List.drop_eq_nil_of_le (by omega)] at h3;simp[nc] at h3
  | succ m ih=>
   intro j M c h1 h2 h3 h4
   obtain⟨M,rfl⟩ :∃n,M=n+1:=⟨M - 1,by omega⟩
   obtain⟨d,hd,_⟩:=Bj (l:=D) (i:=j) (by omega)
   have hs:=FU D j
   rw[NT hd] at h4 hs
   have ht:=Ig hd
   rw[drop_cons hd]
   unfold Fl
   rw[Cs,if_pos (by simp[AT];omega),Gm hD hn (by omega) hN,BB hd]
   simp only[Option.bind_some]
   rw[AT,BI (n:=(j:Int) + 1) (by omega) (by omega),BI (n:=(nc (D.take j):Int) + (d.cons.length:Int)) (by omega) (by omega),BI (by omega) (by omega),DL]
   simp only[Option.bind_some]
   cases hx:d.cons[c]? with
   | some x=>
    have hlt:=(List.getElem?_eq_some_iff.1 hx).1
    refine⟨j+1,x,rfl,?_⟩
    rw[if_pos (by simp;omega)]
    rfl
   | none=>
    have hle:d.cons.length≤c:=by simpa using hx
    obtain⟨t,x,g1,g2⟩:=ih (j+1) M (c - d.cons.length) (by omega) (by omega) (by omega) (by omega)
    refine⟨t,x,g1,?_⟩
    rw[if_neg (by simp;omega),← g2,show nc (D.take j) + c=nc (D.take (j+1)) + (c - d.cons.length) by omega]
    rfl
 obtain⟨t,x,g1,g2⟩:=key D.length 0 N c (by omega) (by omega) (by omega) (by simpa using hc)
 refine⟨t,x,by simpa using g1,?_⟩
 unfold Er
 rw[show nc (D.take 0) + c=c by simp[nc],show (((0:Nat):Int))=0 from rfl] at g2
 rw[g2];rfl
theorem Nq {D:List Ac} (hD:D.length≤1048576) (hn:nc D≤1048576) {c:Int} (hc:c < 0∨(nc D:Int)≤c) {N:Nat} (hN:2000000≤N):Er N D c=some (-1):=by
 unfold Er
 have key :∀{M j:Nat},j≤D.length→D.length - j < M→Cs N D c M j=some (.inr ()):=by
  intro M j hj hM
  refine BX D.length (fun M j=>Cs N D c M j=some (.inr ())) ?_ ?_ hj hM
  ·intro n;rw[Cs,if_neg (by simp[AT])]
  ·intro n j hj ih
   obtain⟨d,hd,_⟩:=Bj hj
   have hs:=FU D (j+1)
   have ht:=Ig hd
   rw[Cs,if_pos (by simp[AT];omega),Gm hD hn (by omega) hN,BB hd]
   simp only[Option.bind_some]
   rw[AT,BI (n:=(j:Int) + 1) (by omega) (by omega),BI (n:=(nc (D.take j):Int) + (d.cons.length:Int)) (by omega) (by omega),BI (by omega) (by omega),DL]
   simp only[Option.bind_some]
   rw[if_neg (by simp;omega)]
   exact ih
 have:=key (Nat.zero_le _) (by omega:D.length - 0 < N)
 rw[show (((0:Nat):Int))=0 from rfl] at this
 rw[this];rfl
end RC
namespace RC
open Go
theorem US {D:List Ac} :∀(m j c t:Nat) (x:Gl),D.length - j=m→j≤D.length→Fl (D.drop j) j c=some (t,x)→∃d,1≤t∧D[t - 1]?=some d∧nc (D.take (t - 1))≤nc (D.take j) + c∧d.cons[nc (D.take j) + c - nc (D.take (t - 1))]?=some x:=by
 intro m
 induction m with
 | zero=>
  intro j c t x h1 h2 h
  rw[List.drop_eq_nil_of_le (by omega)] at h;simp[Fl] at h
 | succ m ih=>
  intro j c t x h1 h2 h
  obtain⟨d,hd,_⟩:=Bj (l:=D) (i:=j) (by omega)
  have ht:=Ig hd
  rw[drop_cons hd] at h
  unfold Fl at h
  cases hx:d.cons[c]? with
  | some y=>
   rw[hx] at h
   simp only[Option.some.injEq,Prod.mk.injEq] at h
   obtain⟨rfl,rfl⟩:=h
   exact⟨d,by omega,by simpa using hd,by simp,by simpa using hx⟩
  | none=>
   rw[hx] at h
   have hle:d.cons.length≤c:=by simpa using hx
   obtain⟨e,g1,g2,g3,g4⟩:=ih (j+1) (c - d.cons.length) t x (by omega) (by omega) h
   rw[show nc (D.take (j+1)) + (c - d.cons.length)=nc (D.take j) + c by omega] at g3 g4
   exact⟨e,g1,g2,g3,g4⟩
theorem F7 {D:List Ac} (hD:D.length≤1048576) (hn:nc D≤1048576) {c:Nat} (hc:c < nc D) {N:Nat} (hN:2000000≤N) :∃t x,Fl D 0 c=some (t,x)∧Bf N D c=some x.fields:=by
 obtain⟨t,x,e1,e2⟩:=KL hD hn hc hN
 obtain⟨d,g1,g2,g3,g4⟩:=US (D:=D) D.length 0 c t x (by omega) (by omega) (by simpa using e1)
 have hlt:=(List.getElem?_eq_some_iff.1 g2).1
 have hs:=FU D (t - 1)
 rw[show nc (D.take 0) + c=c by simp[nc]] at g3 g4
 refine⟨t,x,e1,?_⟩
 unfold Bf
 rw[e2]
 simp only[Option.bind_some]
 rw[if_neg (by simp;omega),BI (n:=(t:Int) - 1) (by omega) (by omega),show ((t:Int) - 1)=((t - 1:Nat):Int) by omega,BB g2,Gm hD hn (by omega) hN]
 simp only[Option.bind_some]
 rw[BI (by omega) (by omega),show ((c:Int) - (nc (D.take (t - 1)):Int))=((c - nc (D.take (t - 1)):Nat):Int) by omega,BB g4]
 rfl
theorem N6 {D:List Ac} (hD:D.length≤1048576) (hn:nc D≤1048576) {c:Nat} (hc:c < nc D) {N:Nat} (hN:2000000≤N) :∃t x,Fl D 0 c=some (t,x)∧Ea N D c=some x.fields:=by
 obtain⟨t,x,e1,e2⟩:=L0 hD hn hc hN
 exact⟨t,x,e1,by unfold Ea;rw[e2];rfl⟩
end RC
namespace RC
open Go
def C7 (D:List Ac) (t:Int):List Int:=
 if 1≤t∧t≤(D.length:Int) then (List.range ((D[(t - 1).toNat]?).elim 0 (·.cons.length))).map fun (i:Nat)=>(nc (D.take (t - 1).toNat):Int) + (i:Int) else []
theorem PB {f:Nat→Int} {i:Nat}:(List.range (i+1)).map f=(List.range i).map f ++ [f i]:=by rw[List.range_succ,List.map_append];rfl
theorem LG {D:List Ac} (hD:D.length≤1048576) (hn:nc D≤1048576) {t:Int} {N:Nat} (hN:2000000≤N):E7 N D t=some (C7 D t):=by
 unfold E7 C7
 rw[DL,AT]
 simp only[Option.bind_some]
 by_cases h:1≤t∧t≤(D.length:Int)
 ·obtain⟨a,ha⟩ :∃a:Nat,t=(a:Int) + 1:=⟨(t - 1).toNat,by omega⟩
  subst ha
  obtain⟨d,hd,_⟩:=Bj (l:=D) (i:=a) (by omega)
  have hs:=FU D (a+1)
  have ht:=Ig hd
  rw[if_neg (by simp;omega),if_pos h,show (((a:Int) + 1) - 1).toNat=a by omega,hd]
  simp only[Option.elim_some]
  have key :∀{M i:Nat},i≤d.cons.length→d.cons.length - i < M→D7 N D ((a:Int) + 1) M i ((List.range i).map fun (i:Nat)=>(nc (D.take a):Int) + (i:Int))=some ((List.range d.cons.length).map fun (i:Nat)=>(nc (D.take a):Int) + (i:Int)):=by
   intro M i hi hM
   refine BX d.cons.length (fun M i=>D7 N D ((a:Int) + 1) M i ((List.range i).map fun (i:Nat)=>(nc (D.take a):Int) + (i:Int))=some ((List.range d.cons.length).map fun (i:Nat)=>(nc (D.take a):Int) + (i:Int))) ?_ ?_ hi hM
   ·intro n
    rw[D7,BI (by omega) (by omega),show ((a:Int) + 1 - 1)=((a:Nat):Int) by omega,BB hd]
    simp only[Option.bind_some]
    rw[if_neg (by simp[AT])]
   ·intro n i hi ih
    rw[D7,BI (n:=(a:Int) + 1 - 1) (by omega) (by omega),show ((a:Int) + 1 - 1)=((a:Nat):Int) by omega,BB hd]
    simp only[Option.bind_some]
    rw[if_pos (by simp[AT];omega),Gm hD hn (by omega) hN]
    simp only[Option.bind_some]
    rw[Ep _ _ _ (by simp;omega) (by simp;omega),BI (n:=(i:Int) + 1) (by omega) (by omega),BI (by omega) (by omega),show ((i:Int) + 1)=((i+1:Nat):Int) by omega]
    simp only[Option.bind_some]
    rw[← ih,PB]
  have:=key (Nat.zero_le _) (by omega:d.cons.length - 0 < N)
  rw[show (((0:Nat):Int))=0 from rfl,List.range_zero,List.map_nil] at this
  rw[this];rfl
 ·rw[if_pos (by simp;omega),if_neg h]
theorem LC {D:List Ac} (hD:D.length≤1048576) (hn:nc D≤1048576) {t:Int} {N:Nat} (hN:2000000≤N):Hs N D t=some (C7 D t):=by
 unfold Hs C7
 rw[AT]
 by_cases h:1≤t∧t≤(D.length:Int)
 ·obtain⟨a,ha⟩ :∃a:Nat,t=(a:Int) + 1:=⟨(t - 1).toNat,by omega⟩
  subst ha
  obtain⟨d,hd,_⟩:=Bj (l:=D) (i:=a) (by omega)
  have hs:=FU D (a+1)
  have hs0:=FU D a
  have ht:=Ig hd
  have e1:¬ ((a:Int) + 1 < 1):=by omega
  have e2:¬ ((D.length:Int) < (a:Int) + 1):=by omega
  rw[if_pos h,show (((a:Int) + 1) - 1).toNat=a by omega,hd,BI (by omega) (by omega),show ((a:Int) + 1 - 1)=((a:Nat):Int) by omega,S7 (by omega) (by omega),BB hd]
  simp only[Option.elim_some,e1,e2,decide_false,Bool.false_eq_true,if_false,Option.bind_some]
  rw[NV (by simp;omega) (by omega) hN]
  simp only[Option.bind_some]
  have key :∀{M i:Nat},i≤d.cons.length→d.cons.length - i < M→EA d (nc (D.take a):Int) M i ((List.range i).map fun (i:Nat)=>(nc (D.take a):Int) + (i:Int))=some ((List.range d.cons.length).map fun (i:Nat)=>(nc (D.take a):Int) + (i:Int)):=by
   intro M i hi hM
   refine BX d.cons.length (fun M i=>EA d (nc (D.take a):Int) M i ((List.range i).map fun (i:Nat)=>(nc (D.take a):Int) + (i:Int))=some ((List.range d.cons.length).map fun (i:Nat)=>(nc (D.take a):Int) + (i:Int))) ?_ ?_ hi hM
   ·intro n;rw[EA,if_neg (by simp[AT])]
   ·intro n i hi ih
    rw[EA,if_pos (by simp[AT];omega)]
    rw[Ep _ _ _ (by simp;omega) (by simp;omega),BI (n:=(i:Int) + 1) (by omega) (by omega),BI (by omega) (by omega),show ((i:Int) + 1)=((i+1:Nat):Int) by omega]
    simp only[Option.bind_some]
    rw[← ih,PB]
  have:=key (Nat.zero_le _) (by omega:d.cons.length - 0 < N)
  rw[show (((0:Nat):Int))=0 from rfl,List.range_zero,List.map_nil] at this
  rw[this];rfl
 ·rw[if_neg h]
  by_cases e1:t < 1
  ·simp[e1]
  ·have e2:(D.length:Int) < t:=by omega
   simp[e1,e2]
end RC



namespace RC
open Go
end RC



namespace RC
open Go
def Yx (left:Int) (s:Nat):Int:=if left - s < 0 then -1 else left - s
theorem Nw {left:Int} {s:Nat} (h:left - s < 0):Yx left s=-1:=if_pos h
theorem Qn {left:Int} {s:Nat} (h:¬ left - s < 0):Yx left s=left - s:=if_neg h
def cz (c:Gl):Nat:=c.fields.length
def dz (d:Ac):Nat:=d.cons.length+(d.cons.map cz).sum
end RC
namespace RC
open Go
end RC



namespace RC
open Go
end RC


namespace RC
open Go
end RC



namespace RC
open Go
section
variable {im : W4} {p : Wr} {at_ : Nat} {i : U4} {N : Nat}
end
end RC



namespace RC
open Go
theorem Qt {α:Type} (f:α→Nat) {l:List α} {x:α} (h:x∈l):f x≤(l.map f).sum:=by
 induction l with
 | nil=>cases h
 | cons y r ih=>
  rw[List.map_cons,List.sum_cons]
  rcases List.mem_cons.1 h with rfl | h
  ·omega
  ·have:=ih h;omega
end RC



namespace RC
open Go
end RC



namespace RC
open Go
end RC



namespace RC
open Go
mutual
def en:AP→Nat | .mk _ _ k=>1+B4 k
def B4:List AP→Nat | []=>0 | e :: l=>en e+B4 l
end
theorem IL (e:AP):en e=1+B4 e.kids:=by cases e;simp[en,AP.kids]
theorem Rt {k:List AP} {i:Nat} {e:AP} (h:k[i]?=some e):B4 (k.drop i)=en e+B4 (k.drop (i+1)):=by rw[drop_cons h];simp[B4]
theorem MR (e:AP):1≤en e:=by rw[IL];omega
theorem Ls {k:List AP} {e:AP} (h:e∈k):en e≤B4 k:=by
 induction k with
 | nil=>cases h
 | cons c k ih=>
  simp only[B4]
  rcases List.mem_cons.1 h with rfl | h
  ·omega
  ·have:=ih h;omega
theorem JT (k:List AP):k.length≤B4 k:=by
 induction k with
 | nil=>simp
 | cons c k ih=>have:=MR c;simp only[B4,List.length_cons];omega
theorem Eb {e k:AP} (h:k∈e.kids):en k < en e:=by have:=Ls h;rw[IL e];omega
def XC (f:Ar):Nat:=f.params.length+B4 f.body.kids
def WB (p:Af):Nat:=(p.decls.length+(p.decls.map dz).sum) + (p.funcs.length+(p.funcs.map XC).sum)
theorem Pg {N:Nat} (hN:2000000≤N) :∀(n:Nat) (e:AP) (left:Int),left≤1000→0≤left→left < n→B4 e.kids≤1048576→Dx N n e left=some (Yx left (en e)):=by
 intro n
 induction n with
 | zero=>intro e left _ _ h;omega
 | succ n ih=>
  intro e left h0 hl0 h1 hz
  rw[Dx]
  unfold Gk
  have hp:=IL e
  have hle:=JT e.kids
  by_cases h2:left < 1
  ·rw[if_pos (by simpa using h2),Nw (by omega)]
  ·rw[if_neg (by simpa using h2),BI (by omega) (by omega)]
   have key :∀{M i:Nat},i≤e.kids.length→e.kids.length - i < M→∀l:Int,0≤l→l < left→CY e (Dx N n) M l i=some (if l - (B4 (e.kids.drop i):Int) < 0 then .inl (-1) else .inr (l - (B4 (e.kids.drop i):Int))):=by
    intro M i hi hM
    refine BX e.kids.length (fun M i=>∀l:Int,0≤l→l < left→CY e (Dx N n) M l i=some (if l - (B4 (e.kids.drop i):Int) < 0 then .inl (-1) else .inr (l - (B4 (e.kids.drop i):Int)))) ?_ ?_ hi hM
    ·intro m l l0 l1
     rw[CY,if_neg (by simp[AT])]
     simp[B4];omega
    ·intro m i hi ih2 l l0 l1
     obtain⟨x,hx,hxm⟩:=Bj hi
     have hz2:=Ls hxm
     have e1:=IL x
     rw[CY,if_pos (by simp[AT];omega),BB hx]
     simp only[Option.bind_some]
     rw[ih x l (by omega) l0 (by omega) (by omega),Rt hx]
     simp only[Option.bind_some]
     by_cases h3:l - (en x:Int) < 0
     ·rw[Nw h3,if_pos (by simp),if_pos (by omega)]
     ·rw[Qn h3,if_neg (by simpa using h3),BI (by omega) (by omega),show ((i:Int) + 1)=((i+1:Nat):Int) by omega,ih2 (l - (en x:Int)) (by omega) (by omega)]
      rw[show l - (en x:Int) - (B4 (e.kids.drop (i+1)):Int)=l - ((en x+B4 (e.kids.drop (i+1)):Nat):Int) by omega]
   have:=key (Nat.zero_le _) (by omega:e.kids.length - 0 < N) (left - 1) (by omega) (by omega)
   rw[show ((0:Nat):Int)=0 from rfl,List.drop_zero] at this
   rw[this]
   by_cases h3:left - 1 - (B4 e.kids:Int) < 0
   ·rw[if_pos h3,Nw (by omega)];rfl
   ·rw[if_neg h3,Qn (by omega)]
    simp only[Sh.KI]
    congr 1;omega
theorem HB {e:AP} (hz:B4 e.kids≤1048576) {N:Nat} (hN:2000000≤N):Fi N e=some (if en e≤30 then (en e:Int) else -1):=by
 unfold Fi Iv
 rw[Pg hN N e 30 (by omega) (by omega) (by omega) hz]
 simp only[Option.bind_some]
 by_cases h:en e≤30
 ·rw[Qn (by omega),if_pos h,if_neg (by simp;omega),BI (by omega) (by omega)]
  congr 1;omega
 ·rw[Nw (by omega),if_neg h];rfl
theorem Oy {N:Nat} (hN:2000000≤N) :∀(n:Nat) (e:AP) (c:Nat),c≤30→31 - c < n→B4 e.kids≤1048576→Dc N n c e=some (if c+en e≤30 then (true,((c+en e:Nat):Int)) else (false,31)):=by
 intro n
 induction n with
 | zero=>intro e c _ h;omega
 | succ n ih=>
  intro e c h0 h1 hz
  rw[Dc]
  unfold F9
  have hp:=IL e
  have hle:=JT e.kids
  rw[BI (by omega) (by omega)]
  by_cases h2:c=30
  ·subst h2
   rw[if_pos (by simp),if_neg (by omega)];rfl
  ·rw[if_neg (by simp;omega)]
   have key :∀{M i:Nat},i≤e.kids.length→e.kids.length - i < M→∀d:Nat,c < d→d≤30→CI e (Dc N n) M i d=some (if d+B4 (e.kids.drop i)≤30 then .inr ((d+B4 (e.kids.drop i):Nat):Int) else .inl (false,31)):=by
    intro M i hi hM
    refine BX e.kids.length (fun M i=>∀d:Nat,c < d→d≤30→CI e (Dc N n) M i d=some (if d+B4 (e.kids.drop i)≤30 then .inr ((d+B4 (e.kids.drop i):Nat):Int) else .inl (false,31))) ?_ ?_ hi hM
    ·intro m d l0 l1
     rw[CI,if_neg (by simp[AT])]
     simp[B4,l1]
    ·intro m i hi ih2 d l0 l1
     obtain⟨x,hx,hxm⟩:=Bj hi
     have hz2:=Ls hxm
     have e1:=IL x
     rw[CI,if_pos (by simp[AT];omega),BB hx]
     simp only[Option.bind_some]
     rw[ih x d l1 (by omega) (by omega),Rt hx]
     simp only[Option.bind_some]
     by_cases h3:d+en x≤30
     ·rw[if_pos h3]
      simp only[Bool.not_true,Bool.false_eq_true,if_false]
      rw[BI (by omega) (by omega),show ((i:Int) + 1)=((i+1:Nat):Int) by omega,ih2 (d+en x) (by omega) h3,Nat.add_assoc]
     ·have h4:¬ (d+(en x+B4 (List.drop (i+1) e.kids))≤30):=by omega
      rw[if_neg h3,if_neg h4];rfl
   have:=key (Nat.zero_le _) (by omega:e.kids.length - 0 < N) (c+1) (by omega) (by omega)
   rw[show ((0:Nat):Int)=0 from rfl,List.drop_zero,show ((c+1:Nat):Int)=(c:Int) + 1 by omega] at this
   rw[this]
   by_cases h3:c+1+B4 e.kids≤30
   ·rw[if_pos h3,if_pos (by omega)]
    simp only[Sh.KI]
    rw[show c+1+B4 e.kids=c+en e by omega]
   ·rw[if_neg h3,if_neg (by omega)];rfl
theorem O0 {e:AP} (hz:B4 e.kids≤1048576) {N:Nat} (hN:2000000≤N):HQ N e=some (if en e≤30 then (en e:Int) else -1):=by
 unfold HQ IV
 have:=Oy hN N e 0 (by omega) (by omega) hz
 rw[show ((0:Nat):Int)=0 from rfl,Nat.zero_add] at this
 rw[this]
 simp only[Option.bind_some]
 by_cases h:en e≤30
 ·rw[if_pos h,if_pos h];rfl
 ·rw[if_neg h,if_neg h];rfl
end RC



namespace RC
open Go
theorem Ld {α:Type} {g:Nat→α→Bool} :∀(l:List α) (k:Nat),Ch g k l=true↔∀(i:Nat) x,l[i]?=some x→g (k+i) x=true
 | [],_=>by simp[Ch]
 | x :: r,k=>by
  rw[Ch,Bool.and_eq_true,Ld r (k+1)]
  constructor
  ·rintro⟨h1,h2⟩ i y hy
   cases i with
   | zero=>simp only[List.getElem?_cons_zero,Option.some.injEq] at hy;subst hy;exact h1
   | succ i=>have:=h2 i y hy;rw[show k+(i+1)=k+1+i by omega];exact this
  ·intro h
   exact⟨h 0 x rfl,fun i y hy=>by have:=h (i+1) y hy;rw[show k+(i+1)=k+1+i by omega] at this;exact this⟩
theorem N2 {a b:List Int} (h:a.length=b.length):Ch (fun i x=>decide (b[i]?=some x)) 0 a=decide (a=b):=by
 rw[Bool.eq_iff_iff,Ld,decide_eq_true_iff]
 constructor
 ·intro g
  refine List.ext_getElem? fun i=>?_
  by_cases hi:i < a.length
  ·obtain⟨x,hx,_⟩:=Bj hi
   have:=g i x hx
   rw[decide_eq_true_iff,Nat.zero_add] at this
   rw[hx,this]
  ·rw[List.getElem?_eq_none (by omega),List.getElem?_eq_none (by omega)]
 ·rintro rfl i x hx
  rw[decide_eq_true_iff,Nat.zero_add,hx]
theorem KX {a b:List Int} (ha:a.length≤1048576) {N:Nat} (hN:2000000≤N):CJ N a b=some (decide (a=b)):=by
 unfold CJ
 by_cases h:a.length=b.length
 ·rw[if_neg (by simp[AT,h]),DF (l:=a) (CE a b) (fun i x=>decide (b[i]?=some x)) (fun n=>by rw[CE,if_neg (by simp[AT])]) (fun n i x hx=>?_) (by omega),DE,N2 h]
  ·cases decide (a=b) <;> rfl
  ·have hi:=(List.getElem?_eq_some_iff.1 hx).1
   obtain⟨y,hy,_⟩:=Bj (l:=b) (i:=i) (by omega)
   rw[CE,if_pos (by simp[AT];omega),BB hx]
   simp only[Option.bind_some]
   rw[BB hy,hy,BI (by omega) (by omega),show ((i:Int) + 1)=((i+1:Nat):Int) by omega]
   simp only[Option.bind_some]
   by_cases e:x=y
   ·simp[e]
   ·have e':¬ y=x:=fun q=>e q.symm
    simp[e,e']
 ·have hne:¬ a=b:=fun e=>h (by rw[e])
  have h':¬ ((a.length:Int)=(b.length:Int)):=by omega
  simp[AT,h',hne]
structure GY (D:List Ac) (F:List Ar):Prop where
 Q2:D.length≤4
 WY :∀d∈D,d.cons.length≤3
 Lq :∀d∈D,∀c∈d.cons,c.fields.length≤3∧∀t∈c.fields,Dm D t=true
 Xt :∀d∈D,Dm D d.from_=true∧Dm D d.to=true
 Kw:F.length≤4
 Qx :∀f∈F,f.params.length≤3∧(∀t∈f.params,Dm D t=true)∧Dm D f.result=true
theorem WD {D:List Ac} (h :∀d∈D,d.cons.length≤3):nc D≤3 * D.length:=by
 induction D with
 | nil=>simp[nc]
 | cons d r ih=>
  have h1:=h d (by simp)
  have h2:=ih fun e he=>h e (by simp[he])
  simp only[nc,List.map_cons,List.sum_cons,List.length_cons] at h2 ⊢
  omega
theorem GY.nc {D:List Ac} {F:List Ar} (S:GY D F):nc D≤12:=by have:=WD S.WY;have:=S.Q2;omega
theorem Jx {D:List Ac} {t:Int} (h:Dm D t=true):0≤t∧t≤(D.length:Int):=by
 unfold Dm at h
 simpa using h
theorem GY.of {p:Af} (h:Kt p.decls (p.funcs.map fun f=>(f.params,f.result))=true):GY p.decls p.funcs:=by
 unfold Kt at h
 simp only[Bool.and_eq_true,List.length_map,List.all_map,decide_eq_true_eq] at h
 obtain⟨h1,⟨_,h2⟩,h3,_⟩:=h
 unfold Jk at h1
 simp only[Bool.and_eq_true,decide_eq_true_eq] at h1
 obtain⟨h4,h5⟩:=h1
 rw[Ld] at h5
 have hd :∀d∈p.decls,∃i,Is p.decls i d=true:=fun d hd=>by
  obtain⟨i,hi⟩:=List.mem_iff_getElem?.1 hd
  exact⟨_,h5 i d hi⟩
 refine⟨h4,fun d hm=>?_,fun d hm c hc=>?_,fun d hm=>?_,h2,fun f hf=>?_⟩
 ·obtain⟨i,hi⟩:=hd d hm
  unfold Is at hi
  split at hi
  ·simp only[Bool.and_eq_true,decide_eq_true_eq] at hi;exact hi.1.1
  ·omega
 ·obtain⟨i,hi⟩:=hd d hm
  unfold Is at hi
  split at hi
  ·simp only[Bool.and_eq_true,decide_eq_true_eq,List.all_eq_true] at hi
   have:=hi.2 c hc
   unfold Mo at this
   simp only[Bool.and_eq_true,decide_eq_true_eq,List.all_eq_true] at this
   exact this
  ·have:=List.length_pos_of_mem hc;omega
 ·obtain⟨i,hi⟩:=hd d hm
  unfold Is at hi
  split at hi
  ·simp only[Bool.and_eq_true,decide_eq_true_eq] at hi
   rw[hi.1.2.1,hi.1.2.2]
   have:Dm p.decls 0=true:=by unfold Dm;simp
   exact⟨this,this⟩
  ·simp only[Bool.and_eq_true] at hi;exact hi.2
 ·have:=List.all_eq_true.1 h3 f hf
  simp only[Function.comp,KY,Bool.and_eq_true,decide_eq_true_eq,List.all_eq_true] at this
  exact this
def KD (p:Af) (sg:BF) (R1:Af→List Int→AP→Option Int) (R2:List Int→BF→AP→Option Int) (T:List Int→AP→Int) (m:Nat):Prop:=
 ∀(v:List Int) (e:AP),A2 e→en e < m→v.length+3 * en e≤1000→(∀x∈v,Dm p.decls x=true)→R1 p v e=some (T v e)∧R2 v sg e=some (T v e)∧(T v e=-1∨Dm p.decls (T v e)=true)
section
variable {p : Af} {sg : BF} {R1 : Af → List Int → AP → Option Int} {R2 : List Int → BF → AP → Option Int} {T : List Int → AP → Int} {e : AP} {v : List Int} {N : Nat}
structure Hq (p:Af) (e:AP) (v:List Int):Prop where
 len:v.length+3 * en e≤1000
 Mf :∀x∈v,Dm p.decls x=true
 small:en e≤340
 Cu:A2 e
theorem Hq.Ou (V:Hq p e v) {k:AP} (hk:k∈e.kids):v.length+3 * en k≤1000:=by have:=V.len;have:=Eb hk;omega
theorem Hq.more (V:Hq p e v) {k:AP} (hk:k∈e.kids) {m:List Int} (hm:m.length≤3):(v ++ m).length+3 * en k≤1000:=by have:=V.len;have:=Eb hk;rw[List.length_append];omega
theorem Hq.Ry (V:Hq p e v) {m:List Int} (hm :∀x∈m,Dm p.decls x=true) :∀x∈v ++ m,Dm p.decls x=true:=fun x hx=>by
 rcases List.mem_append.1 hx with h | h
 ·exact V.Mf x h
 ·exact hm x h
theorem Hq.Kz (V:Hq p e v):e.kids.length≤340:=by have:=JT e.kids;have:=V.small;have:=IL e;omega
theorem PU (H:KD p sg R1 R2 T (en e)) (V:Hq p e v) (hN:2000000≤N) (m:Nat):GX N R1 p v e.kids m=some (decide (e.kids.map (T v)=List.replicate m 0)):=by
 unfold GX
 have hk:=V.Kz
 by_cases h:e.kids.length=m
 ·subst h
  rw[if_neg (by simp[AT]),DF (l:=e.kids) (EH p v e.kids e.kids.length R1) (fun _ x=>decide (T v x=0)) (fun n=>by rw[EH,if_neg (by simp)]) (fun n i x hx=>?_) (by omega),DE,ET]
  ·have e1:e.kids.all (fun x=>decide (T v x=0))=decide (e.kids.map (T v)=List.replicate e.kids.length 0):=by
    rw[Bool.eq_iff_iff,decide_eq_true_iff,List.all_eq_true,List.eq_replicate_iff]
    simp
   rw[e1]
   cases decide (e.kids.map (T v)=List.replicate e.kids.length 0) <;> rfl
  ·have hi:=(List.getElem?_eq_some_iff.1 hx).1
   have hm:=List.mem_of_getElem? hx
   rw[EH,if_pos (by simp;omega),BB hx]
   simp only[Option.bind_some]
   rw[(H v x (V.Cu.kids x hm) (Eb hm) (V.Ou hm) V.Mf).1,BI (by omega) (by omega),show ((i:Int) + 1)=((i+1:Nat):Int) by omega]
   simp only[Option.bind_some]
   by_cases e1:T v x=0 <;> simp[e1]
 ·have h1:¬ ((e.kids.length:Int)=(m:Int)):=by omega
  have h2:¬ e.kids.map (T v)=List.replicate m 0:=fun q=>h (by have:=congrArg List.length q;simpa using this)
  simp[AT,h1,h2]
theorem Ob (H:KD p sg R1 R2 T (en e)) (V:Hq p e v) (hN:2000000≤N) (l:List Int):G1 N R1 p v e.kids l=some (decide (e.kids.map (T v)=l)):=by
 unfold G1
 have hk:=V.Kz
 by_cases h:e.kids.length=l.length
 ·rw[if_neg (by simp[AT,h]),DF (l:=l) (Ev p v e.kids l R1) (fun i x=>decide ((e.kids.map (T v))[i]?=some x)) (fun n=>by rw[Ev,if_neg (by simp[AT])]) (fun n i x hx=>?_) (by omega),DE,N2 (by simp[h])]
  ·by_cases q:l=e.kids.map (T v)
   ·simp[q]
   ·have q':¬ e.kids.map (T v)=l:=fun z=>q z.symm
    simp[q,q']
  ·have hi:=(List.getElem?_eq_some_iff.1 hx).1
   obtain⟨y,hy,hm⟩:=Bj (l:=e.kids) (i:=i) (by omega)
   rw[Ev,if_pos (by simp[AT];omega),BB hy]
   simp only[Option.bind_some]
   rw[(H v y (V.Cu.kids y hm) (Eb hm) (V.Ou hm) V.Mf).1,BB hx,BI (by omega) (by omega),show ((i:Int) + 1)=((i+1:Nat):Int) by omega]
   simp only[Option.bind_some]
   rw[List.getElem?_map,hy,Option.map_some]
   by_cases e1:T v y=x <;> simp[e1]
 ·have h1:¬ ((e.kids.length:Int)=(l.length:Int)):=by omega
  have h2:¬ e.kids.map (T v)=l:=fun q=>h (by have:=congrArg List.length q;simpa using this)
  simp[AT,h1,h2]
theorem Sv (H:KD p sg R1 R2 T (en e)) (V:Hq p e v) (hN:2000000≤N) :
  Bh v sg e R2 N 0 (List.replicate e.kids.length 0)=some (if (e.kids.map (T v)).any (fun t=>decide (t < 0))=true then .inl (-1) else .inr (e.kids.map (T v))):=by
 have hk:=V.Kz
 have key :∀{N i:Nat},i≤e.kids.length→e.kids.length - i < N→∀m:List Int,m.length=e.kids.length→m.take i=(e.kids.map (T v)).take i→
   Bh v sg e R2 N i m=some (if ((e.kids.map (T v)).drop i).any (fun t=>decide (t < 0))=true then .inl (-1) else .inr (e.kids.map (T v))):=by
  intro N i hi hN
  refine BX e.kids.length (fun N i=>∀m:List Int,m.length=e.kids.length→m.take i=(e.kids.map (T v)).take i→
   Bh v sg e R2 N i m=some (if ((e.kids.map (T v)).drop i).any (fun t=>decide (t < 0))=true then .inl (-1) else .inr (e.kids.map (T v)))) ?_ ?_ hi hN
  ·intro n m a b
   rw[Bh,if_neg (by simp[AT])]
   rw[List.take_of_length_le (by omega),List.take_of_length_le (by simp)] at b
   rw[b,List.drop_of_length_le (by simp)];simp
  ·intro n i hi ih m a b
   obtain⟨x,hx,hxm⟩:=Bj hi
   obtain⟨y,hy,_⟩:=Bj (l:=m) (i:=i) (by omega)
   have hx2:(e.kids.map (T v))[i]?=some (T v x):=by rw[List.getElem?_map,hx];rfl
   have hi':(m.set i (T v x))[i]?=some (T v x):=by rw[List.getElem?_set_self (by omega)]
   rw[Bh,if_pos (by simp[AT];omega),BB hx]
   simp only[Option.bind_some]
   rw[(H v x (V.Cu.kids x hxm) (Eb hxm) (V.Ou hxm) V.Mf).2.1,BB hy]
   simp only[Option.bind_some]
   rw[QC,BB hi',drop_cons hx2]
   simp only[Option.bind_some,List.any_cons]
   by_cases h:T v x < 0
   ·simp[h]
   ·rw[if_neg (by simpa using h),BI (by omega) (by omega),show ((i:Int) + 1)=((i+1:Nat):Int) by omega,ih (m.set i (T v x)) (by simp[a]) (by rw[G2 hi',G2 hx2,← b,List.take_set_of_le (Nat.le_refl _)])]
    simp[h]
 have:=key (Nat.zero_le _) (by omega:e.kids.length - 0 < N) (List.replicate e.kids.length 0) (by simp) rfl
 simpa using this
theorem G8 {a b:List Int} (ha:a.length≤1000) (hb:b.length≤1000):DO a b=some (a ++ b):=by
 unfold DO Hv
 rw[Ep [] a 8 (by simp;omega) (by simp;omega)]
 simp only[Option.bind_some,List.nil_append]
 rw[Ep a b 8 (by omega) (by omega)];rfl
theorem UP {a b:List Int} (ha:a.length≤1000) (hb:b.length≤1000) (hN:2000000≤N):ES N [a,b]=some (a ++ b):=by
 obtain⟨n,rfl⟩ :∃n,N=n+3:=⟨N - 3,by omega⟩
 unfold ES
 have e1:By [a,b] (n+3) 0 0=some ((a.length+b.length:Nat):Int):=by
  rw[By,if_pos (by simp[AT]),show Sh.get [a,b] 0=some a from rfl]
  simp only[Option.bind_some]
  rw[AT,BI (n:=(0:Int) + 1) (by omega) (by omega),BI (by omega) (by omega),if_neg (by rw[decide_eq_true_eq];omega)]
  rw[By,if_pos (by simp[AT]),show Sh.get [a,b] (0+1)=some b from rfl]
  simp only[Option.bind_some]
  rw[AT,BI (n:=(0:Int) + 1+1) (by omega) (by omega),BI (by omega) (by omega),if_neg (by rw[decide_eq_true_eq];omega)]
  rw[By,if_neg (by simp[AT])]
  congr 1;omega
 have e2:Bx [a,b] (n+3) 0 []=some (a ++ b):=by
  rw[Bx,if_pos (by simp[AT]),show Sh.get [a,b] 0=some a from rfl]
  simp only[Option.bind_some]
  rw[Ep [] a 8 (by simp;omega) (by simp;omega),BI (n:=(0:Int) + 1) (by omega) (by omega)]
  simp only[Option.bind_some,List.nil_append]
  rw[Bx,if_pos (by simp[AT]),show Sh.get [a,b] (0+1)=some b from rfl]
  simp only[Option.bind_some]
  rw[Ep a b 8 (by omega) (by omega),BI (n:=(0:Int) + 1+1) (by omega) (by omega)]
  simp only[Option.bind_some]
  rw[Bx,if_neg (by simp[AT])]
 have e3:Es ((a.length+b.length:Nat):Int)=some []:=by
  unfold Es
  rw[if_neg (by simp;omega),BI (n:=(0:Int) - 0) (by omega) (by omega),BI (by omega) (by omega)]
  by_cases h:0 < a.length+b.length
  ·rw[if_pos (by simp;omega),show (((a.length+b.length:Nat):Int) - (0 - 0))=((a.length+b.length:Nat):Int) by omega,Lo _ _ _ (by omega) (by omega)]
   simp only[Option.bind_some]
   have:=Vq (l:=List.replicate (a.length+b.length) (0:Int)) (j:=0) (by omega)
   rw[show ((0:Nat):Int)=0 from rfl] at this
   rw[this];rfl
  ·rw[if_neg (by simp;omega)];rfl
 rw[e1]
 simp only[Option.bind_some]
 rw[e3]
 simp only[Option.bind_some]
 rw[e2];rfl
def LP:List Int→Int
 | []=>-1
 | t :: r=>if r.all (fun x=>decide (x=t))=true then t else -1
theorem Js (H:KD p sg R1 R2 T (en e)) (V:Hq p e v) (hN:2000000≤N) {ks:List AP} {ms:List (List Int)} (hks :∀k∈ks,k∈e.kids) (hkl:ks.length≤340) (hl:ms.length=ks.length) (hm :∀m∈ms,m.length≤3∧∀x∈m,Dm p.decls x=true) :
  DI N R2 sg v ks ms=some (LP (List.zipWith (fun m k=>T (v ++ m) k) ms ks)):=by
 unfold DI
 have hvl:v.length≤1000:=by have:=V.len;omega
 have step :∀(n i:Nat) (r:Int) k m,ks[i]?=some k→ms[i]?=some m→BT N sg v ks ms R2 (n+1) r i=if T (v ++ m) k < 0∨(0 < i∧T (v ++ m) k≠r) then some (.inl (-1)) else BT N sg v ks ms R2 n (T (v ++ m) k) ((i+1:Nat):Int):=by
  intro n i r k m hk hmm
  have hi:=(List.getElem?_eq_some_iff.1 hk).1
  have hmo:=hm m (List.mem_of_getElem? hmm)
  have hke:=hks k (List.mem_of_getElem? hk)
  rw[BT,if_pos (by simp[AT];omega),BB hk]
  simp only[Option.bind_some]
  rw[BB hmm]
  simp only[Option.bind_some]
  rw[UP hvl (by omega) hN]
  simp only[Option.bind_some]
  rw[(H (v ++ m) k (V.Cu.kids k hke) (Eb hke) (V.more hke hmo.1) (V.Ry hmo.2)).2.1]
  simp only[Option.bind_some]
  rw[BI (by omega) (by omega),show ((i:Int) + 1)=((i+1:Nat):Int) by omega]
  by_cases h1:T (v ++ m) k < 0
  ·simp[h1]
  ·by_cases h2:0 < i
   ·by_cases h3:T (v ++ m) k=r
    ·have h1':¬ r < 0:=h3 ▸ h1
     simp[h1',h2,h3]
    ·simp[h1,h2,h3]
   ·simp[h1,h2]
 have rest :∀(d i n:Nat) (r:Int),ks.length - i=d→0 < i→i≤ks.length→d < n→BT N sg v ks ms R2 n r i=some (if ((List.zipWith (fun m k=>T (v ++ m) k) ms ks).drop i).all (fun x=>decide (x=r))=true then (if ((List.zipWith (fun m k=>T (v ++ m) k) ms ks).drop i).any (fun x=>decide (x < 0))=true then .inl (-1) else .inr r) else .inl (-1)):=by
  intro d
  induction d with
  | zero=>
   intro i n r h1 h2 h3 h4
   obtain⟨n,rfl⟩ :∃q,n=q+1:=⟨n - 1,by omega⟩
   rw[BT,if_neg (by simp[AT];omega),List.drop_of_length_le (by simp;omega)];rfl
  | succ d ih=>
   intro i n r h1 h2 h3 h4
   obtain⟨n,rfl⟩ :∃q,n=q+1:=⟨n - 1,by omega⟩
   obtain⟨k,hk,_⟩:=Bj (l:=ks) (i:=i) (by omega)
   obtain⟨m,hmm,_⟩:=Bj (l:=ms) (i:=i) (by omega)
   have hz:(List.zipWith (fun m k=>T (v ++ m) k) ms ks)[i]?=some (T (v ++ m) k):=by rw[List.getElem?_zipWith,hk,hmm]
   rw[step n i r k m hk hmm,drop_cons hz,List.all_cons,List.any_cons]
   by_cases h5:T (v ++ m) k=r
   ·by_cases h6:T (v ++ m) k < 0
    ·rw[if_pos (.inl h6)]
     have h6':r < 0:=h5 ▸ h6
     simp[h5,h6']
    ·rw[if_neg (by rintro (h | h);exact h6 h;exact h.2 h5),ih (i+1) n _ (by omega) (by omega) (by omega) (by omega)]
     have h6':¬ r < 0:=h5 ▸ h6
     simp[h5,h6']
   ·rw[if_pos (.inr ⟨h2,h5⟩)]
    simp[h5]
 cases hks0:ks with
 | nil=>
  obtain⟨n,rfl⟩ :∃q,N=q+1:=⟨N - 1,by omega⟩
  rw[BT,if_neg (by simp[AT])]
  simp[LP]
 | cons k r=>
  cases hms0:ms with
  | nil=>rw[hks0,hms0] at hl;simp at hl
  | cons m s=>
   rw[← hks0,← hms0]
   obtain⟨n,hn⟩ :∃q,N=q+1:=⟨N - 1,by omega⟩
   have h0:=step n 0 (-1) k m (by rw[hks0];rfl) (by rw[hms0];rfl)
   rw[show ((0:Nat):Int)=0 from rfl] at h0
   have hke:=hks k (by rw[hks0];simp)
   have hmo:=hm m (by rw[hms0];simp)
   have hT:=(H (v ++ m) k (V.Cu.kids k hke) (Eb hke) (V.more hke hmo.1) (V.Ry hmo.2)).2.2
   rw[show BT N sg v ks ms R2 N (-1) 0=BT N sg v ks ms R2 (n+1) (-1) 0 by rw[← hn],h0]
   have hzc:List.zipWith (fun m k=>T (v ++ m) k) ms ks=T (v ++ m) k :: List.zipWith (fun m k=>T (v ++ m) k) s r:=by rw[hks0,hms0];rfl
   rw[hzc]
   unfold LP
   by_cases h1:T (v ++ m) k < 0
   ·rw[if_pos (.inl h1)]
    have:T (v ++ m) k=-1:=by
     rcases hT with h | h
     ·exact h
     ·have:=(Jx h).1;omega
    rw[this]
    simp
   ·rw[if_neg (by rintro (h | h);exact h1 h;omega),rest _ 1 n _ rfl (by omega) (by rw[hks0];simp) (by omega),hzc,List.drop_succ_cons,List.drop_zero]
    by_cases h2:(List.zipWith (fun m k=>T (v ++ m) k) s r).all (fun x=>decide (x=T (v ++ m) k))=true
    ·have h3:¬ (List.zipWith (fun m k=>T (v ++ m) k) s r).any (fun x=>decide (x < 0))=true:=fun h=>by
      obtain⟨x,hx,hx2⟩:=List.any_eq_true.1 h
      have:=List.all_eq_true.1 h2 x hx
      simp only[decide_eq_true_eq] at this hx2
      omega
     rw[if_pos h2,if_neg h3]
     dsimp only
     rw[if_pos h2];rfl
    ·rw[if_neg h2]
     dsimp only
     rw[if_neg h2];rfl
end
end RC



namespace RC
open Go
theorem Uq {n:Int} (h1:n < -9223372036854775808) (h2:-18446744073709551616≤n):Sh.w n=n+18446744073709551616:=by
 unfold Sh.w
 rw[IntKind.wrap_i64];omega
theorem Pf {D:List Ac} (hD:D.length≤1048576) (hn:nc D≤1048576) {c:Int} (hI:I6 c) (hc:c < 0∨(nc D:Int)≤c) {N:Nat} (hN:2000000≤N):F4 N D c=some (-1,⟨[]⟩):=by
 have key :∀(m j N:Nat) (c:Int),D.length - j=m→j≤D.length→m < N→I6 c→(c < 0∨(nc (D.drop j):Int)≤c)→D5 D N c j=some (.inr ()):=by
  intro m
  induction m with
  | zero=>
   intro j N c h1 h2 h3 _ _
   obtain⟨N,rfl⟩ :∃n,N=n+1:=⟨N - 1,by omega⟩
   rw[D5,if_neg (by simp[AT];omega)]
  | succ m ih=>
   intro j N c h1 h2 h3 hI h4
   obtain⟨N,rfl⟩ :∃n,N=n+1:=⟨N - 1,by omega⟩
   obtain⟨d,hd,_⟩:=Bj (l:=D) (i:=j) (by omega)
   have hs:=FU D j
   rw[NT hd] at h4 hs
   rw[D5,if_pos (by simp[AT];omega),BB hd]
   simp only[Option.bind_some]
   have hlo:=hI.1
   have hhi:=hI.2
   have e1:¬ (0≤c∧c < (d.cons.length:Int)):=by omega
   have e2:(if decide (0≤c)=true then some (decide (c < Sh.len d.cons)) else some false)=some false:=by
    by_cases h0:0≤c
    ·have:¬ c < (d.cons.length:Int):=by omega
     simp[h0,AT,this]
    ·simp[h0]
   rw[BI (n:=(j:Int) + 1) (by omega) (by omega),show ((j:Int) + 1)=((j+1:Nat):Int) by omega,AT]
   rw[AT] at e2
   by_cases h5:c - (d.cons.length:Int) < -9223372036854775808
   ·have:=ih (j+1) N (Sh.w (c - (d.cons.length:Int))) (by omega) (by omega) (by omega) (by rw[Uq h5 (by omega)];unfold I6;omega) (by rw[Uq h5 (by omega)];omega)
    rw[e2]
    simp only[Option.bind_some,Bool.false_eq_true,if_false]
    exact this
   ·have:=ih (j+1) N (Sh.w (c - (d.cons.length:Int))) (by omega) (by omega) (by omega) (by rw[BI (by omega) (by omega)];unfold I6;omega) (by rw[BI (by omega) (by omega)];omega)
    rw[e2]
    simp only[Option.bind_some,Bool.false_eq_true,if_false]
    exact this
 have:=key D.length 0 N c (by omega) (by omega) (by omega) hI (by simpa using hc)
 unfold F4
 rw[show (((0:Nat):Int))=0 from rfl] at this
 rw[this];rfl
theorem MK :∀{D:List Ac} {k c t:Nat} {x:Gl},Fl D k c=some (t,x)→k < t∧t≤k+D.length∧∃d∈D,x∈d.cons
 | [],_,_,_,_,h=>by simp[Fl] at h
 | d :: r,k,c,t,x,h=>by
  unfold Fl at h
  cases hx:d.cons[c]? with
  | some y=>
   rw[hx] at h
   simp only[Option.some.injEq,Prod.mk.injEq] at h
   obtain⟨rfl,rfl⟩:=h
   exact⟨by omega,by simp,d,by simp,List.mem_of_getElem? hx⟩
  | none=>
   rw[hx] at h
   obtain⟨h1,h2,e,h3,h4⟩:=MK h
   exact⟨by omega,by simp;omega,e,by simp[h3],h4⟩
def OU (a b:Int) (d:Ac):Bool:=decide (d.cons.length=0) && (decide (d.from_=a) && decide (d.to=b))
def GN (a b:Int):List Ac→Nat→Int
 | [],_=>-1
 | d :: r,k=>if OU a b d=true then (k:Int) + 1 else GN a b r (k+1)
theorem Tl {a b:Int} :∀(l:List Ac) (k:Nat),GN a b l k=-1∨((k:Int) < GN a b l k∧GN a b l k≤k+l.length)
 | [],_=>.inl rfl
 | d :: r,k=>by
  unfold GN
  by_cases h:OU a b d=true
  ·rw[if_pos h];right;simp only[List.length_cons];omega
  ·rw[if_neg h]
   rcases Tl r (k+1) with h1 | h1
   ·exact .inl h1
   ·right;simp only[List.length_cons];omega
theorem Rx {a b:Int} {d:Ac}:(if decide ((Sh.len d.cons)=0)=true then if decide (d.from_=a)=true then some (decide (d.to=b)) else some false else some false)=some (OU a b d):=by
 unfold OU
 by_cases h1:d.cons.length=0 <;> by_cases h2:d.from_=a <;> simp[AT,h1,h2]
theorem KN {D:List Ac} (hD:D.length≤1048576) {a b:Int} {N:Nat} (hN:2000000≤N):GS N D a b=some (GN a b D 0):=by
 unfold GS
 have key :∀{M i:Nat},i≤D.length→D.length - i < M→Sh.cont (Dq D a b M i) id (fun ()=>some (-1))=some (GN a b (D.drop i) i):=by
  intro M i hi hM
  refine BX D.length (fun M i=>Sh.cont (Dq D a b M i) id (fun ()=>some (-1))=some (GN a b (D.drop i) i)) ?_ ?_ hi hM
  ·intro n;rw[Dq,if_neg (by simp[AT])];simp[GN,Sh.cont]
  ·intro n i hi ih
   obtain⟨d,hd,_⟩:=Bj hi
   rw[Dq,if_pos (by simp[AT];omega),BB hd,drop_cons hd]
   simp only[Option.bind_some]
   rw[Rx,BI (by omega) (by omega),show ((i:Int) + 1)=((i+1:Nat):Int) by omega]
   simp only[Option.bind_some,GN]
   by_cases h:OU a b d=true
   ·rw[if_pos h,if_pos h];simp[Sh.cont]
   ·rw[if_neg h,if_neg h,ih]
 have:=key (Nat.zero_le _) (by omega:D.length - 0 < N)
 simpa using this
theorem OR {D:List Ac} (hD:D.length≤1048576) {a b:Int} {N:Nat} (hN:2000000≤N):HP N D a b=some (GN a b D 0):=by
 unfold HP
 have key :∀{M i:Nat},i≤D.length→D.length - i < M→Sh.cont (Dl D a b M i) id (fun ()=>some (-1))=some (GN a b (D.drop i) i):=by
  intro M i hi hM
  refine BX D.length (fun M i=>Sh.cont (Dl D a b M i) id (fun ()=>some (-1))=some (GN a b (D.drop i) i)) ?_ ?_ hi hM
  ·intro n;rw[Dl,if_neg (by simp[AT])];simp[GN,Sh.cont]
  ·intro n i hi ih
   obtain⟨d,hd,_⟩:=Bj hi
   rw[Dl,if_pos (by simp[AT];omega),BB hd,drop_cons hd]
   simp only[Option.bind_some]
   rw[Rx,BI (by omega) (by omega),show ((i:Int) + 1)=((i+1:Nat):Int) by omega]
   simp only[Option.bind_some,GN]
   by_cases h:OU a b d=true
   ·rw[if_pos h,if_pos h];simp[Sh.cont]
   ·rw[if_neg h,if_neg h,ih]
 have:=key (Nat.zero_le _) (by omega:D.length - 0 < N)
 simpa using this
def Mk (D:List Ac) (t:Int):Option Ac:=if 1≤t∧t≤(D.length:Int) then (D[(t - 1).toNat]?).bind fun d=>if d.cons.length=0 then some d else none else none
theorem O6 {D:List Ac} {t:Int} {d:Ac} (h:Mk D t=some d):d∈D∧1≤t∧t≤(D.length:Int)∧D[(t - 1).toNat]?=some d:=by
 unfold Mk at h
 split at h
 ·rename_i h1
  obtain⟨e,he,h2⟩:=Option.bind_eq_some_iff.1 h
  split at h2
  ·cases h2;exact⟨List.mem_of_getElem? he,h1.1,h1.2,he⟩
  ·cases h2
 ·cases h
theorem Om {D:List Ac} (hD:D.length≤1048576) {t:Int}:HU D t=some ((Mk D t).elim (⟨0,0,[]⟩,false) fun d=>(d,true)):=by
 unfold HU Mk
 by_cases h:1≤t∧t≤(D.length:Int)
 ·obtain⟨a,ha⟩ :∃a:Nat,t=(a:Int) + 1:=⟨(t - 1).toNat,by omega⟩
  subst ha
  obtain⟨d,hd,_⟩:=Bj (l:=D) (i:=a) (by omega)
  have e1:¬ ((a:Int) + 1 < 1):=by omega
  have e2:¬ ((D.length:Int) < (a:Int) + 1):=by omega
  rw[if_pos h,BI (by omega) (by omega),show ((a:Int) + 1 - 1)=((a:Nat):Int) by omega,BB hd,Int.toNat_natCast,hd]
  by_cases h2:d.cons.length=0
  ·have h2':d.cons=[]:=List.eq_nil_of_length_eq_zero h2
   simp[e1,e2,AT,h2']
  ·have h3:0 < d.cons.length:=by omega
   have h2':¬ d.cons=[]:=fun q=>h2 (by rw[q];rfl)
   simp[e1,e2,AT,h2',h3]
 ·rw[if_neg h]
  by_cases h1:t < 1
  ·simp[h1]
  ·have h2:(D.length:Int) < t:=by omega
   simp[h1,AT,h2]
theorem HF {D:List Ac} (hD:D.length≤1048576) {t:Int}:FC D t=some (Mk D t).isSome:=by
 unfold FC Mk
 rw[DL]
 by_cases h:1≤t∧t≤(D.length:Int)
 ·obtain⟨a,ha⟩ :∃a:Nat,t=(a:Int) + 1:=⟨(t - 1).toNat,by omega⟩
  subst ha
  obtain⟨d,hd,_⟩:=Bj (l:=D) (i:=a) (by omega)
  have e1:((1:Int)≤(a:Int) + 1):=by omega
  have e2:((a:Int) + 1≤(D.length:Int)):=by omega
  rw[if_pos h,BI (by omega) (by omega),show ((a:Int) + 1 - 1)=((a:Nat):Int) by omega,BB hd,Int.toNat_natCast,hd]
  by_cases h2:d.cons=[] <;> simp[e1,e2,AT,h2]
 ·rw[if_neg h]
  have:(decide (1≤t) && decide (t≤Sh.len D))=false:=by
   rw[AT]
   by_cases h1:1≤t
   ·have h2:¬ t≤(D.length:Int):=fun q=>h ⟨h1,q⟩
    simp[h1,h2]
   ·simp[h1]
  simp[this]
section
variable {p : Af} {sg : BF} {R1 : Af → List Int → AP → Option Int} {R2 : List Int → BF → AP → Option Int} {T : List Int → AP → Int} {e : AP} {v : List Int} {N : Nat}
theorem E5 (H:KD p sg R1 R2 T (en e)) (V:Hq p e v) (hN:2000000≤N) (h1:¬ e.op=12) (h2:¬ e.op=13) (h3:¬ e.op=7) (h4:¬ e.op=8) :
  BK N R2 v sg e=if (e.kids.map (T v)).any (fun t=>decide (t < 0))=true then some (-1) else Option.bind (A6 N sg e.op e.num (e.kids.map (T v))) fun q=>if q.2=true then some q.1 else some (-1):=by
 unfold BK
 have hk:=V.Kz
 simp only[h1,h2,h3,h4,decide_false,Bool.false_eq_true,if_false]
 rw[AT,Lo _ _ _ (by omega) (by omega)]
 simp only[Option.bind_some]
 rw[Sv H V hN]
 by_cases h:(e.kids.map (T v)).any (fun t=>decide (t < 0))=true
 ·rw[if_pos h,if_pos h];rfl
 ·rw[if_neg h,if_neg h]
  simp only[Sh.KI]
  cases A6 N sg e.op e.num (e.kids.map (T v)) with
  | none=>rfl
  | some q=>simp only[Option.bind_some];cases q.2 <;> rfl
theorem IH (H:KD p sg R1 R2 T (en e)) (V:Hq p e v) (hN:2000000≤N) (h1:¬ e.op=12) (h2:¬ e.op=13) (h3:¬ e.op=7) (h4:¬ e.op=8) {want:List Int} {c:Bool} {t:Int} (hw :∀x∈want,0≤x)
  (hs:A6 N sg e.op e.num (e.kids.map (T v))=some (t,c && decide (e.kids.map (T v)=want))) :
  BK N R2 v sg e=some (if c=true∧e.kids.map (T v)=want then t else -1):=by
 rw[E5 H V hN h1 h2 h3 h4,hs]
 by_cases h:e.kids.map (T v)=want
 ·have:¬ (e.kids.map (T v)).any (fun t=>decide (t < 0))=true:=fun q=>by
   obtain⟨x,hx,hx2⟩:=List.any_eq_true.1 q
   have:=hw x (h ▸ hx)
   simp only[decide_eq_true_eq] at hx2
   omega
  rw[if_neg this]
  cases c <;> simp[h]
 ·have hn:¬ (c=true∧e.kids.map (T v)=want):=fun q=>h q.2
  rw[if_neg hn]
  simp[h]
end
end RC



namespace RC
open Go
def FO (p:Af):BF:=⟨p.decls,p.funcs.map fun f=>⟨f.params,[],f.result⟩⟩
section
variable {p : Af} {R1 : Af → List Int → AP → Option Int} {R2 : List Int → BF → AP → Option Int} {T : List Int → AP → Int} {e : AP} {v : List Int} {N : Nat}
def IF (p:Af) (R1:Af→List Int→AP→Option Int) (R2:List Int→BF→AP→Option Int) (N:Nat) (v:List Int) (e:AP):Prop:=
 ∃t,Be N R1 p v e=some t∧BK N R2 v (FO p) e=some t∧(t=-1∨Dm p.decls t=true)
theorem YO {D:List Ac}:Dm D 0=true:=by unfold Dm;simp
theorem len_nil {α:Type} {l:List α}:decide ((Sh.len l)=0)=decide (l=[]):=by
 cases l with
 | nil=>rfl
 | cons x r=>exact decide_eq_decide.2 (by rw[AT,List.length_cons];exact⟨fun h=>by omega,fun h=>nomatch h⟩)
theorem VW (H:KD p (FO p) R1 R2 T (en e)) (V:Hq p e v) (hN:2000000≤N) (h:e.op=0):IF p R1 R2 N v e:=by
 have h1:=IH H V hN (by omega) (by omega) (by omega) (by omega) (want:=[]) (c:=decide (-999≤e.num) && decide (e.num≤999)) (t:=0) (by simp) (by
  unfold A6
  simp only[h,decide_true,if_true,len_nil]
  by_cases a:-999≤e.num <;> by_cases b:e.num≤999 <;> simp[a,b,Sh.cont])
 refine⟨_,?_,h1,?_⟩
 ·unfold Be
  simp only[h,decide_true,if_true,len_nil,DL]
  by_cases a:-999≤e.num <;> by_cases b:e.num≤999 <;> by_cases c:e.kids=[] <;> simp[a,b,c,Sh.cont]
 ·split
  ·exact .inr YO
  ·exact .inl rfl
theorem Tc (H:KD p (FO p) R1 R2 T (en e)) (V:Hq p e v) (hN:2000000≤N) (h:e.op=1∨e.op=2∨e.op=3∨e.op=4):IF p R1 R2 N v e:=by
 have hk:=V.Kz
 have h1:=IH H V hN (by omega) (by omega) (by omega) (by omega) (want:=[0,0]) (c:=decide (e.num=0)) (t:=0) (by simp) (by
  unfold A6
  have e3:CJ N (e.kids.map (T v)) [0,0]=some (decide (e.kids.map (T v)=[0,0])):=KX (by simp;omega) hN
  rcases h with h | h | h | h <;> simp only[h,Int.reduceEq,decide_true,decide_false,Bool.false_eq_true,if_true,if_false,Option.bind_some,Sh.KI] <;> rw[e3] <;> by_cases a:e.num=0 <;> simp[a])
 refine⟨_,?_,h1,?_⟩
 ·unfold Be
  have e2:=PU H V hN 2
  rw[show ((2:Nat):Int)=2 from rfl,show List.replicate 2 (0:Int)=[0,0] from rfl] at e2
  rcases h with h | h | h | h <;> simp only[h,Int.reduceEq,decide_true,decide_false,Bool.false_eq_true,if_true,if_false,Option.bind_some] <;> rw[e2] <;> by_cases a:e.num=0 <;> by_cases b:e.kids.map (T v)=[0,0] <;> simp[a,b,Sh.cont]
 ·split
  ·exact .inr YO
  ·exact .inl rfl
theorem Tb (H:KD p (FO p) R1 R2 T (en e)) (V:Hq p e v) (hN:2000000≤N) (h:e.op=5):IF p R1 R2 N v e:=by
 have hk:=V.Kz
 have h1:=IH H V hN (by omega) (by omega) (by omega) (by omega) (want:=[0]) (c:=decide (e.num=0)) (t:=0) (by simp) (by
  unfold A6
  simp only[h,Int.reduceEq,decide_true,decide_false,Bool.false_eq_true,if_true,if_false,Option.bind_some,Sh.KI]
  rw[KX (by simp;omega) hN]
  by_cases a:e.num=0 <;> simp[a])
 refine⟨_,?_,h1,?_⟩
 ·unfold Be
  have e2:=PU H V hN 1
  rw[show ((1:Nat):Int)=1 from rfl,show List.replicate 1 (0:Int)=[0] from rfl] at e2
  simp only[h,Int.reduceEq,decide_true,decide_false,Bool.false_eq_true,if_true,if_false,Option.bind_some]
  rw[e2]
  by_cases a:e.num=0 <;> by_cases b:e.kids.map (T v)=[0] <;> simp[a,b,Sh.cont]
 ·split
  ·exact .inr YO
  ·exact .inl rfl
theorem Vg (H:KD p (FO p) R1 R2 T (en e)) (V:Hq p e v) (S:GY p.decls p.funcs) (hN:2000000≤N) (h:e.op=6):IF p R1 R2 N v e:=by
 have hk:=V.Kz
 have hD:=S.Q2
 have hn:=S.nc
 by_cases hr:0≤e.num∧e.num < (nc p.decls:Int)
 ·obtain⟨c,hc⟩:=Int.eq_ofNat_of_zero_le hr.1
  have hc2:c < nc p.decls:=by omega
  obtain⟨t,x,e1,e2⟩:=KL (D:=p.decls) (by omega) (by omega) hc2 hN
  obtain⟨t',x',e1',e3⟩:=F7 (D:=p.decls) (by omega) (by omega) hc2 hN
  obtain⟨t'',x'',e1'',e4⟩:=L0 (D:=p.decls) (by omega) (by omega) hc2 hN
  rw[e1] at e1' e1''
  cases e1';cases e1''
  obtain⟨g1,g2,d,g3,g4⟩:=MK e1
  have hx:=S.Lq d g3 x g4
  have h1:=IH H V hN (by omega) (by omega) (by omega) (by omega) (want:=x.fields) (c:=true) (t:=(t:Int)) (fun y hy=>(Jx (hx.2 y hy)).1) (by
   unfold A6
   simp only[h,Int.reduceEq,decide_true,decide_false,Bool.false_eq_true,if_true,if_false,Option.bind_some]
   rw[hc,show (FO p).decls=p.decls from rfl,e4]
   simp only[Option.bind_some]
   rw[KX (by simp;omega) hN,if_pos (by simp)]
   simp[Sh.cont])
  refine⟨_,?_,h1,?_⟩
  ·unfold Be
   simp only[h,Int.reduceEq,decide_true,decide_false,Bool.false_eq_true,if_true,if_false,Option.bind_some]
   rw[hc,e2,e3]
   simp only[Option.bind_some]
   rw[Ob H V hN,if_pos (by simp;omega)]
   by_cases b:e.kids.map (T v)=x.fields <;> simp[b,Sh.cont]
  ·split
   ·right;unfold Dm;simp;omega
   ·exact .inl rfl
 ·refine⟨-1,?_,?_,.inl rfl⟩
  ·unfold Be
   simp only[h,Int.reduceEq,decide_true,decide_false,Bool.false_eq_true,if_true,if_false,Option.bind_some]
   rw[Nq (by omega) (by omega) (by omega) hN]
   simp[Sh.cont]
  ·rw[E5 H V hN (by omega) (by omega) (by omega) (by omega)]
   unfold A6
   simp only[h,Int.reduceEq,decide_true,decide_false,Bool.false_eq_true,if_true,if_false,Option.bind_some]
   rw[show (FO p).decls=p.decls from rfl,Pf (by omega) (by omega) V.Cu.num (by omega) hN]
   simp[Sh.cont]
theorem TP (H:KD p (FO p) R1 R2 T (en e)) (V:Hq p e v) (hN:2000000≤N) (h:e.op < 0∨13 < e.op):IF p R1 R2 N v e:=by
 refine⟨-1,?_,?_,.inl rfl⟩
 ·unfold Be
  simp only[show ¬ e.op=0 by omega,show ¬ e.op=12 by omega,show ¬ e.op=1 by omega,show ¬ e.op=2 by omega,show ¬ e.op=3 by omega,show ¬ e.op=4 by omega,show ¬ e.op=5 by omega,show ¬ e.op=6 by omega,show ¬ e.op=13 by omega,show ¬ e.op=7 by omega,show ¬ e.op=8 by omega,show ¬ e.op=9 by omega,show ¬ e.op=10 by omega,show ¬ e.op=11 by omega,decide_false,Bool.false_eq_true,if_false,Option.bind_some]
  simp[Sh.cont]
 ·rw[E5 H V hN (by omega) (by omega) (by omega) (by omega)]
  unfold A6
  simp only[show ¬ e.op=0 by omega,show ¬ e.op=12 by omega,show ¬ e.op=1 by omega,show ¬ e.op=2 by omega,show ¬ e.op=3 by omega,show ¬ e.op=4 by omega,show ¬ e.op=5 by omega,show ¬ e.op=6 by omega,show ¬ e.op=13 by omega,show ¬ e.op=7 by omega,show ¬ e.op=8 by omega,show ¬ e.op=9 by omega,show ¬ e.op=10 by omega,show ¬ e.op=11 by omega,decide_false,Bool.false_eq_true,if_false,Option.bind_some]
  simp[Sh.cont]
theorem Vi (V:Hq p e v) (h:e.op=12):IF p R1 R2 N v e:=by
 have hv:v.length≤1000:=by have:=V.len;omega
 unfold IF Be BK
 simp only[h,Int.reduceEq,decide_true,decide_false,Bool.false_eq_true,if_true,if_false,Option.bind_some,len_nil,DL]
 rw[AT,BI (by omega) (by omega)]
 cases hks:e.kids with
 | cons a r=>exact⟨-1,by simp[Sh.cont],by simp[AT],.inl rfl⟩
 | nil=>
  by_cases h1:0≤e.num
  ·by_cases h2:e.num < (v.length:Int)
   ·obtain⟨x,g1,g2⟩:=OC h1 h2
    have h3:e.num≤(v.length:Int) - 1:=by omega
    have h4:¬ e.num < 0:=by omega
    have h5:¬ (v.length:Int)≤e.num:=by omega
    refine⟨x,?_,?_,.inr (V.Mf x (List.mem_of_getElem? g2))⟩
    ·simp[h1,h3,g1,Sh.cont]
    ·simp[h4,h5,g1,AT]
   ·have h3:¬ e.num≤(v.length:Int) - 1:=by omega
    have h4:¬ e.num < 0:=by omega
    have h5:(v.length:Int)≤e.num:=by omega
    exact⟨-1,by simp[h1,h3,Sh.cont],by simp[h4,h5,AT],.inl rfl⟩
  ·have h4:e.num < 0:=by omega
   exact⟨-1,by simp[h1,Sh.cont],by simp[h4,AT],.inl rfl⟩
end
end RC



namespace RC
open Go
section
variable {p : Af} {R1 : Af → List Int → AP → Option Int} {R2 : List Int → BF → AP → Option Int} {T : List Int → AP → Int} {e : AP} {v : List Int} {N : Nat}
theorem VY (H:KD p (FO p) R1 R2 T (en e)) (V:Hq p e v) (h:e.op=13):IF p R1 R2 N v e:=by
 have hv:v.length≤1000:=by have:=V.len;omega
 unfold IF Be BK
 simp only[h,Int.reduceEq,decide_true,decide_false,Bool.false_eq_true,if_true,if_false,Option.bind_some]
 by_cases hl:e.kids.length=2
 ·obtain⟨a,b,hk⟩ :∃a b,e.kids=[a,b]:=by
   match hk:e.kids,hl with
   | [a,b],_=>exact⟨a,b,rfl⟩
  have hma:a∈e.kids:=by rw[hk];simp
  have hmb:b∈e.kids:=by rw[hk];simp
  obtain⟨a1,a2,a3⟩:=H v a (V.Cu.kids a hma) (Eb hma) (V.Ou hma) V.Mf
  have g0:Sh.get e.kids 0=some a:=by rw[hk];rfl
  have g1:Sh.get e.kids 1=some b:=by rw[hk];rfl
  rw[g0,g1]
  simp only[Option.bind_some,AT,hl]
  rw[a1,a2]
  simp only[Option.bind_some]
  by_cases hn:e.num=0
  ·by_cases ht:0≤T v a
   ·have ht':¬ T v a < 0:=by omega
    have hty:Dm p.decls (T v a)=true:=by
     rcases a3 with q | q
     ·omega
     ·exact q
    obtain⟨b1,b2,b3⟩:=H (v ++ [T v a]) b (V.Cu.kids b hmb) (Eb hmb) (V.more hmb (by simp)) (V.Ry (by simp[hty]))
    refine⟨T (v ++ [T v a]) b,?_,?_,b3⟩
    ·rw[G8 hv (by simp)]
     simp[hn,ht,b1,Sh.cont]
    ·rw[Ep v [T v a] 8 (by simp;omega) (by simp;omega)]
     simp[hn,ht',b2]
   ·have ht':T v a < 0:=by omega
    exact⟨-1,by simp[hn,ht,Sh.cont],by simp[hn,ht'],.inl rfl⟩
  ·exact⟨-1,by simp[hn,Sh.cont],by simp[hn],.inl rfl⟩
 ·have hl':¬ ((e.kids.length:Int)=2):=by omega
  refine⟨-1,?_,?_,.inl rfl⟩
  ·by_cases hn:e.num=0 <;> simp[hn,AT,hl',Sh.cont]
  ·simp[AT,hl']
theorem VO (x y:Int):LP [x,y]=if y=x then x else -1:=by
 unfold LP
 by_cases h:y=x <;> simp[h]
theorem Vx (H:KD p (FO p) R1 R2 T (en e)) (V:Hq p e v) (hN:2000000≤N) (h:e.op=7):IF p R1 R2 N v e:=by
 have hv:v.length≤1000:=by have:=V.len;omega
 unfold IF Be BK
 simp only[h,Int.reduceEq,decide_true,decide_false,Bool.false_eq_true,if_true,if_false,Option.bind_some]
 by_cases hl:e.kids.length=3
 ·obtain⟨a,b,c,hk⟩ :∃a b c,e.kids=[a,b,c]:=by
   match hk:e.kids,hl with
   | [a,b,c],_=>exact⟨a,b,c,rfl⟩
  have hma:a∈e.kids:=by rw[hk];simp
  have hmb:b∈e.kids:=by rw[hk];simp
  have hmc:c∈e.kids:=by rw[hk];simp
  obtain⟨a1,a2,a3⟩:=H v a (V.Cu.kids a hma) (Eb hma) (V.Ou hma) V.Mf
  obtain⟨b1,b2,b3⟩:=H v b (V.Cu.kids b hmb) (Eb hmb) (V.Ou hmb) V.Mf
  obtain⟨c1,c2,c3⟩:=H v c (V.Cu.kids c hmc) (Eb hmc) (V.Ou hmc) V.Mf
  have g0:Sh.get e.kids 0=some a:=by rw[hk];rfl
  have g1:Sh.get e.kids 1=some b:=by rw[hk];rfl
  have g2:Sh.get e.kids 2=some c:=by rw[hk];rfl
  have g3:Sh.sl e.kids 1 3=some [b,c]:=by rw[hk];rfl
  have o:=Js (ks:=[b,c]) (ms:=[[],[]]) H V hN (by intro k hk;simp only[List.mem_cons,List.not_mem_nil,or_false] at hk;rcases hk with rfl | rfl <;> assumption) (by simp) rfl (by simp)
  have mk2:Sh.mk ([]:List Int) 2 24=some [[],[]]:=Lo [] 2 24 (by omega) (by omega)
  rw[g0,g1,g2]
  simp only[Option.bind_some,AT,hl]
  rw[a1,a2,b1,c1,show ((3:Nat):Int)=3 from rfl,g3,mk2]
  simp only[Option.bind_some]
  rw[o]
  simp only[Option.bind_some,List.zipWith,List.append_nil,VO]
  by_cases hn:e.num=0
  ·by_cases ht:T v a=0
   ·by_cases hq:T v c=T v b
    ·exact⟨T v b,by simp[hn,ht,hq,Sh.cont],by simp[hn,ht,hq],b3⟩
    ·exact⟨-1,by simp[hn,ht,hq,Sh.cont],by simp[hn,ht,hq],.inl rfl⟩
   ·exact⟨-1,by simp[hn,ht,Sh.cont],by simp[hn,ht],.inl rfl⟩
  ·exact⟨-1,by simp[hn,Sh.cont],by simp[hn],.inl rfl⟩
 ·have hl':¬ ((e.kids.length:Int)=3):=by omega
  refine⟨-1,?_,?_,.inl rfl⟩
  ·by_cases hn:e.num=0 <;> simp[hn,AT,hl',Sh.cont]
  ·simp[AT,hl']
theorem VB {n:Int}:(∃f,0≤n∧n < (p.funcs.length:Int)∧p.funcs[n.toNat]?=some f∧f∈p.funcs∧Sh.get p.funcs n=some f∧Sh.get (FO p).funcs n=some ⟨f.params,[],f.result⟩)∨(n < 0∨(p.funcs.length:Int)≤n):=by
 by_cases h:0≤n∧n < (p.funcs.length:Int)
 ·obtain⟨f,h1,h2⟩:=OC h.1 h.2
  refine .inl ⟨f,h.1,h.2,h2,List.mem_of_getElem? h2,h1,?_⟩
  rw[Rz h.1]
  show ((p.funcs.map fun f=>(⟨f.params,[],f.result⟩:BW)))[n.toNat]?=_
  rw[List.getElem?_map,h2];rfl
 ·exact .inr (by omega)
theorem Jh:(FO p).funcs.length=p.funcs.length:=by show (p.funcs.map _).length=_;simp
theorem Tr (H:KD p (FO p) R1 R2 T (en e)) (V:Hq p e v) (S:GY p.decls p.funcs) (hN:2000000≤N) (h:e.op=9):IF p R1 R2 N v e:=by
 have hk:=V.Kz
 have hF:=S.Kw
 rcases VB (p:=p) (n:=e.num) with ⟨f,f0,f1,f2,f3,f4,f5⟩ | hr
 ·obtain⟨q1,q2,q3⟩:=S.Qx f f3
  have f0':¬ e.num < 0:=by omega
  have f1':¬ (p.funcs.length:Int)≤e.num:=by omega
  have f1'':e.num≤(p.funcs.length:Int) - 1:=by omega
  have h1:=IH H V hN (by omega) (by omega) (by omega) (by omega) (want:=f.params) (c:=true) (t:=f.result) (fun y hy=>(Jx (q2 y hy)).1) (by
   unfold A6
   simp only[h,Int.reduceEq,decide_true,decide_false,Bool.false_eq_true,if_true,if_false,Option.bind_some,AT,Jh,f0',f1']
   rw[f5]
   simp only[Option.bind_some]
   rw[KX (by simp;omega) hN]
   simp[Sh.cont])
  refine⟨_,?_,h1,?_⟩
  ·unfold Be EV
   simp only[h,Int.reduceEq,decide_true,decide_false,Bool.false_eq_true,if_true,if_false,Option.bind_some]
   rw[DL,AT p.funcs,BI (n:=(p.funcs.length:Int) - 1) (by omega) (by omega),f4]
   simp only[h,Int.reduceEq,decide_true,decide_false,Bool.false_eq_true,if_true,if_false,Option.bind_some,f0,f1'',Bool.and_self,Bool.not_true]
   rw[Ob H V hN]
   by_cases b:e.kids.map (T v)=f.params <;> simp[b,Sh.cont]
  ·split
   ·exact .inr q3
   ·exact .inl rfl
 ·refine⟨-1,?_,?_,.inl rfl⟩
  ·unfold Be EV
   simp only[h,Int.reduceEq,decide_true,decide_false,Bool.false_eq_true,if_true,if_false,Option.bind_some]
   rw[DL,AT p.funcs,BI (n:=(p.funcs.length:Int) - 1) (by omega) (by omega)]
   have:(decide (0≤e.num) && decide (e.num≤(p.funcs.length:Int) - 1))=false:=by
    rw[Bool.and_eq_false_iff,decide_eq_false_iff_not,decide_eq_false_iff_not];omega
   rw[this]
   simp only[h,Int.reduceEq,decide_true,decide_false,Bool.false_eq_true,if_true,if_false,Option.bind_some]
   simp[Sh.cont]
  ·rw[E5 H V hN (by omega) (by omega) (by omega) (by omega)]
   unfold A6
   simp only[h,Int.reduceEq,decide_true,decide_false,Bool.false_eq_true,if_true,if_false,Option.bind_some,AT,Jh]
   rcases hr with hr | hr
   ·simp[hr,Sh.cont]
   ·have:¬ e.num < 0:=by omega
    simp[hr,this,Sh.cont]
theorem TE {α:Type} {l:List α} {m:Nat} (h:m≤l.length):Sh.sl l 0 (m:Int)=some (l.take m):=by
 unfold Sh.sl
 rw[if_pos ⟨by omega,by omega,by omega⟩];simp
theorem TO (H:KD p (FO p) R1 R2 T (en e)) (V:Hq p e v) (S:GY p.decls p.funcs) (hN:2000000≤N) (h:e.op=10):IF p R1 R2 N v e:=by
 have hk:=V.Kz
 have hF:=S.Kw
 have hD:=S.Q2
 rcases VB (p:=p) (n:=e.num) with ⟨f,f0,f1,f2,f3,f4,f5⟩ | hr
 ·obtain⟨q1,q2,q3⟩:=S.Qx f f3
  have f0':¬ e.num < 0:=by omega
  have f1':¬ (p.funcs.length:Int)≤e.num:=by omega
  have f1'':e.num≤(p.funcs.length:Int) - 1:=by omega
  by_cases hp:f.params.length=0
  ·have hp':f.params=[]:=List.eq_nil_of_length_eq_zero hp
   refine⟨-1,?_,?_,.inl rfl⟩
   ·unfold Be EV
    simp only[h,Int.reduceEq,decide_true,decide_false,Bool.false_eq_true,if_true,if_false,Option.bind_some]
    rw[DL,AT p.funcs,BI (n:=(p.funcs.length:Int) - 1) (by omega) (by omega),f4]
    simp only[h,Int.reduceEq,decide_true,decide_false,Bool.false_eq_true,if_true,if_false,Option.bind_some,f0,f1'',Bool.and_self,Bool.not_true,len_nil,hp']
    simp[Sh.cont]
   ·rw[E5 H V hN (by omega) (by omega) (by omega) (by omega)]
    unfold A6
    simp only[h,Int.reduceEq,decide_true,decide_false,Bool.false_eq_true,if_true,if_false,Option.bind_some,AT,Jh,f0',f1']
    rw[f5]
    simp only[Option.bind_some,hp]
    rw[BI (by omega) (by omega)]
    simp[Sh.cont]
  ·obtain⟨m,hm⟩ :∃m,f.params.length=m+1:=⟨f.params.length - 1,by omega⟩
   obtain⟨x,hx,hxm⟩:=Bj (l:=f.params) (i:=m) (by omega)
   have hp':¬ f.params=[]:=fun q=>hp (by rw[q];rfl)
   have hw:Sh.w ((f.params.length:Int) - 1)=(m:Int):=by rw[BI (by omega) (by omega)];omega
   have hm0:¬ ((m:Int) < 0):=by omega
   have hty:GN x f.result p.decls 0=-1∨Dm p.decls (GN x f.result p.decls 0)=true:=by
    rcases Tl (a:=x) (b:=f.result) p.decls 0 with q | q
    ·exact .inl q
    ·right;unfold Dm;simp;omega
   have h1:=IH H V hN (by omega) (by omega) (by omega) (by omega) (want:=f.params.take m) (c:=decide (0≤GN x f.result p.decls 0)) (t:=GN x f.result p.decls 0) (fun y hy=>(Jx (q2 y (List.mem_of_mem_take hy))).1) (by
    unfold A6
    simp only[h,Int.reduceEq,decide_true,decide_false,Bool.false_eq_true,if_true,if_false,Option.bind_some,AT,Jh,f0',f1']
    rw[f5]
    simp only[Option.bind_some,hw,hm0,decide_false,Bool.false_eq_true,if_false]
    rw[BB hx]
    simp only[Option.bind_some]
    rw[show (FO p).decls=p.decls from rfl,OR (by omega) hN,TE (by omega)]
    simp only[Option.bind_some]
    rw[KX (by simp;omega) hN]
    by_cases z:0≤GN x f.result p.decls 0 <;> simp[z,Sh.cont])
   refine⟨_,?_,h1,?_⟩
   ·unfold Be EV
    simp only[h,Int.reduceEq,decide_true,decide_false,Bool.false_eq_true,if_true,if_false,Option.bind_some]
    rw[DL,AT p.funcs,BI (n:=(p.funcs.length:Int) - 1) (by omega) (by omega),f4]
    simp only[h,Int.reduceEq,decide_true,decide_false,Bool.false_eq_true,if_true,if_false,Option.bind_some,f0,f1'',Bool.and_self,Bool.not_true,len_nil,hp']
    rw[AT,hw,TE (by omega),BB hx]
    simp only[Option.bind_some]
    rw[Ob H V hN,KN (by omega) hN]
    by_cases b:e.kids.map (T v)=f.params.take m
    ·by_cases z:0≤GN x f.result p.decls 0
     ·simp[b,z,Sh.cont]
     ·have:GN x f.result p.decls 0=-1:=by
       rcases hty with q | q
       ·exact q
       ·exact absurd (Jx q).1 z
      simp[b,this,Sh.cont]
    ·simp[b,Sh.cont]
   ·split
    ·exact hty
    ·exact .inl rfl
 ·refine⟨-1,?_,?_,.inl rfl⟩
  ·unfold Be EV
   simp only[h,Int.reduceEq,decide_true,decide_false,Bool.false_eq_true,if_true,if_false,Option.bind_some]
   rw[DL,AT p.funcs,BI (n:=(p.funcs.length:Int) - 1) (by omega) (by omega)]
   have:(decide (0≤e.num) && decide (e.num≤(p.funcs.length:Int) - 1))=false:=by
    rw[Bool.and_eq_false_iff,decide_eq_false_iff_not,decide_eq_false_iff_not];omega
   rw[this]
   simp only[h,Int.reduceEq,decide_true,decide_false,Bool.false_eq_true,if_true,if_false,Option.bind_some]
   simp[Sh.cont]
  ·rw[E5 H V hN (by omega) (by omega) (by omega) (by omega)]
   unfold A6
   simp only[h,Int.reduceEq,decide_true,decide_false,Bool.false_eq_true,if_true,if_false,Option.bind_some,AT,Jh]
   rcases hr with hr | hr
   ·simp[hr,Sh.cont]
   ·have:¬ e.num < 0:=by omega
    simp[hr,this,Sh.cont]
theorem TZ (H:KD p (FO p) R1 R2 T (en e)) (V:Hq p e v) (S:GY p.decls p.funcs) (hN:2000000≤N) (h:e.op=11):IF p R1 R2 N v e:=by
 have hk:=V.Kz
 have hD:=S.Q2
 by_cases hl:e.kids.length=2
 ·obtain⟨a,b,hk⟩ :∃a b,e.kids=[a,b]:=by
   match hk:e.kids,hl with
   | [a,b],_=>exact⟨a,b,rfl⟩
  have hma:a∈e.kids:=by rw[hk];simp
  have hmb:b∈e.kids:=by rw[hk];simp
  obtain⟨a1,a2,a3⟩:=H v a (V.Cu.kids a hma) (Eb hma) (V.Ou hma) V.Mf
  obtain⟨b1,b2,b3⟩:=H v b (V.Cu.kids b hmb) (Eb hmb) (V.Ou hmb) V.Mf
  have g0:Sh.get e.kids 0=some a:=by rw[hk];rfl
  have g1:Sh.get e.kids 1=some b:=by rw[hk];rfl
  have i1:Sh.get (e.kids.map (T v)) 0=some (T v a):=by rw[hk];rfl
  have i2:Sh.get (e.kids.map (T v)) 1=some (T v b):=by rw[hk];rfl
  have imp:BK N R2 v (FO p) e=some ((Mk p.decls (T v a)).elim (-1) fun d=>if T v b=d.from_∧e.num=0 then d.to else -1):=by
   rw[E5 H V hN (by omega) (by omega) (by omega) (by omega)]
   unfold A6
   simp only[h,Int.reduceEq,decide_true,decide_false,Bool.false_eq_true,if_true,if_false,Option.bind_some,AT,List.length_map,hl]
   rw[i1,i2]
   simp only[Option.bind_some]
   rw[show (FO p).decls=p.decls from rfl,Om (by omega)]
   simp only[Option.bind_some]
   cases hA:Mk p.decls (T v a) with
   | none=>simp[Sh.cont]
   | some d=>
    obtain⟨m1,m2,m3,m4⟩:=O6 hA
    have m5:=S.Xt d m1
    have n1:¬ T v a < 0:=by omega
    by_cases c1:T v b=d.from_
    ·have n2:¬ T v b < 0:=by rw[c1];have:=(Jx m5.1).1;omega
     have n3:¬ d.from_ < 0:=c1 ▸ n2
     by_cases c2:e.num=0 <;> simp[hk,n1,c1,n3,c2,Sh.cont]
    ·simp[c1,Sh.cont]
  refine⟨_,?_,imp,?_⟩
  ·unfold Be
   simp only[h,Int.reduceEq,decide_true,decide_false,Bool.false_eq_true,if_true,if_false,Option.bind_some,AT,hl]
   rw[g0,g1]
   simp only[Option.bind_some]
   rw[a1]
   simp only[Option.bind_some]
   rw[HF (by omega),b1]
   simp only[Option.bind_some]
   cases hA:Mk p.decls (T v a) with
   | none=>by_cases c2:e.num=0 <;> simp[c2,Sh.cont]
   | some d=>
    obtain⟨m1,m2,m3,m4⟩:=O6 hA
    have g5:Sh.get p.decls (Sh.w (T v a - 1))=some d:=by rw[BI (by omega) (by omega),Rz (by omega),m4]
    rw[g5]
    by_cases c2:e.num=0 <;> by_cases c1:T v b=d.from_ <;> simp[c1,c2,Sh.cont]
  ·cases hA:Mk p.decls (T v a) with
   | none=>exact .inl rfl
   | some d=>
    obtain⟨m1,_⟩:=O6 hA
    simp only[Option.elim_some]
    split
    ·exact .inr (S.Xt d m1).2
    ·exact .inl rfl
 ·have hl':¬ ((e.kids.length:Int)=2):=by omega
  refine⟨-1,?_,?_,.inl rfl⟩
  ·unfold Be
   simp only[h,Int.reduceEq,decide_true,decide_false,Bool.false_eq_true,if_true,if_false,Option.bind_some,AT,hl']
   by_cases c2:e.num=0 <;> simp[c2,Sh.cont]
  ·rw[E5 H V hN (by omega) (by omega) (by omega) (by omega)]
   unfold A6
   simp only[h,Int.reduceEq,decide_true,decide_false,Bool.false_eq_true,if_true,if_false,Option.bind_some,AT,List.length_map,hl']
   simp[Sh.cont]
end
end RC



namespace RC
open Go
def Fg (D:List Ac) (c:Int):List Int:=(Fl D 0 c.toNat).elim [] fun x=>x.2.fields
theorem T2 {D:List Ac} {t c:Int} (h:c∈C7 D t) :∃k:Nat,c=(k:Int)∧k < nc D:=by
 unfold C7 at h
 split at h
 ·rename_i h1
  obtain⟨a,ha⟩ :∃a:Nat,t=(a:Int) + 1:=⟨(t - 1).toNat,by omega⟩
  subst ha
  obtain⟨d,hd,_⟩:=Bj (l:=D) (i:=a) (by omega)
  rw[show (((a:Int) + 1) - 1).toNat=a by omega,hd] at h
  simp only[Option.elim_some,List.mem_map,List.mem_range] at h
  obtain⟨i,hi,rfl⟩:=h
  have hs:=FU D a
  rw[NT hd] at hs
  exact⟨nc (D.take a) + i,by omega,by omega⟩
 ·cases h
theorem P5 {D:List Ac} (h :∀d∈D,d.cons.length≤3) (t:Int):(C7 D t).length≤3:=by
 unfold C7
 split
 ·rename_i h1
  obtain⟨a,ha⟩ :∃a:Nat,t=(a:Int) + 1:=⟨(t - 1).toNat,by omega⟩
  subst ha
  obtain⟨d,hd,hm⟩:=Bj (l:=D) (i:=a) (by omega)
  rw[show (((a:Int) + 1) - 1).toNat=a by omega,hd]
  simp only[Option.elim_some,List.length_map,List.length_range]
  exact h d hm
 ·simp
theorem Uv {D:List Ac} {F:List Ar} (S:GY D F) {t c:Int} (h:c∈C7 D t) {N:Nat} (hN:2000000≤N):Bf N D c=some (Fg D c)∧Ea N D c=some (Fg D c)∧(Fg D c).length≤3∧∀x∈Fg D c,Dm D x=true:=by
 obtain⟨k,rfl,hk⟩:=T2 h
 have hD:=S.Q2
 have hn:=S.nc
 obtain⟨t,x,e1,e2⟩:=F7 (D:=D) (by omega) (by omega) hk hN
 obtain⟨t',x',e1',e3⟩:=N6 (D:=D) (by omega) (by omega) hk hN
 rw[e1] at e1'
 cases e1'
 obtain⟨_,_,d,g3,g4⟩:=MK e1
 have hf:Fg D (k:Int)=x.fields:=by unfold Fg;rw[Int.toNat_natCast,e1];rfl
 rw[hf]
 exact⟨e2,e3,S.Lq d g3 x g4⟩
section
variable {p : Af} {R1 : Af → List Int → AP → Option Int} {R2 : List Int → BF → AP → Option Int} {T : List Int → AP → Int} {e : AP} {v : List Int} {N : Nat}
theorem Nv (S:GY p.decls p.funcs) (hN:2000000≤N) {C:List Int} (hC:C.length≤3) (hc :∀c∈C,Ea N p.decls c=some (Fg p.decls c)):Bg N (FO p) C N 0 (List.replicate C.length [])=some (C.map (Fg p.decls)):=by
 have key :∀{M i:Nat},i≤C.length→C.length - i < M→∀m:List (List Int),m.length=C.length→m.take i=(C.map (Fg p.decls)).take i→Bg N (FO p) C M i m=some (C.map (Fg p.decls)):=by
  intro M i hi hM
  refine BX C.length (fun M i=>∀m:List (List Int),m.length=C.length→m.take i=(C.map (Fg p.decls)).take i→Bg N (FO p) C M i m=some (C.map (Fg p.decls))) ?_ ?_ hi hM
  ·intro n m a b
   rw[Bg,if_neg (by simp[AT])]
   rw[List.take_of_length_le (by omega),List.take_of_length_le (by simp)] at b
   rw[b]
  ·intro n i hi ih m a b
   obtain⟨x,hx,hxm⟩:=Bj hi
   obtain⟨y,hy,_⟩:=Bj (l:=m) (i:=i) (by omega)
   have hx2:(C.map (Fg p.decls))[i]?=some (Fg p.decls x):=by rw[List.getElem?_map,hx];rfl
   have hi':(m.set i (Fg p.decls x))[i]?=some (Fg p.decls x):=by rw[List.getElem?_set_self (by omega)]
   rw[Bg,if_pos (by simp[AT];omega),BB hx]
   simp only[Option.bind_some]
   rw[show (FO p).decls=p.decls from rfl,hc x hxm,BB hy]
   simp only[Option.bind_some]
   rw[QC,BI (by omega) (by omega),show ((i:Int) + 1)=((i+1:Nat):Int) by omega]
   exact ih _ (by simp[a]) (by rw[G2 hi',G2 hx2,← b,List.take_set_of_le (Nat.le_refl _)])
 have:=key (Nat.zero_le _) (by omega:C.length - 0 < N) (List.replicate C.length []) (by simp) rfl
 simpa using this
theorem TX (H:KD p (FO p) R1 R2 T (en e)) (V:Hq p e v) (S:GY p.decls p.funcs) (hN:2000000≤N) (h:e.op=8):IF p R1 R2 N v e:=by
 have hk:=V.Kz
 have hD:=S.Q2
 have hn:=S.nc
 have hv:v.length≤1000:=by have:=V.len;omega
 have hCl:=P5 S.WY e.num
 unfold IF Be BK HY
 simp only[h,Int.reduceEq,decide_true,decide_false,Bool.false_eq_true,if_true,if_false,Option.bind_some]
 rw[show (FO p).decls=p.decls from rfl,LG (by omega) (by omega) hN,LC (by omega) (by omega) hN]
 simp only[Option.bind_some]
 generalize hCe:C7 p.decls e.num=C at hCl
 have hCm :∀c∈C,Bf N p.decls c=some (Fg p.decls c)∧Ea N p.decls c=some (Fg p.decls c)∧(Fg p.decls c).length≤3∧∀x∈Fg p.decls c,Dm p.decls x=true:=fun c hc=>Uv S (hCe ▸ hc) hN
 rw[AT C,AT e.kids,BI (n:=1+(C.length:Int)) (by omega) (by omega)]
 by_cases h0:C.length=0
 ·exact⟨-1,by simp[h0,Sh.cont],by simp[h0],.inl rfl⟩
 ·have h0':¬ ((C.length:Int)=0):=by omega
  have hne:¬ C=[]:=fun q=>h0 (by rw[q];rfl)
  by_cases h1:e.kids.length=1+C.length
  ·have h1':((e.kids.length:Int)=1+(C.length:Int)):=by omega
   obtain⟨a,r,hks⟩ :∃a r,e.kids=a :: r:=by
    cases hq:e.kids with
    | nil=>rw[hq] at h1;simp at h1;omega
    | cons a r=>exact⟨a,r,rfl⟩
   have hrl:r.length=C.length:=by rw[hks] at h1;simp at h1;omega
   have hma:a∈e.kids:=by rw[hks];simp
   have hmr :∀k∈r,k∈e.kids:=fun k hk=>by rw[hks];simp[hk]
   obtain⟨a1,a2,a3⟩:=H v a (V.Cu.kids a hma) (Eb hma) (V.Ou hma) V.Mf
   have g0:Sh.get e.kids 0=some a:=by rw[hks];rfl
   have gi :∀(i:Nat) k,r[i]?=some k→Sh.get e.kids ((1+i:Nat):Int)=some k:=fun i k hk=>by
    rw[TY,hks,Nat.add_comm];simpa using hk
   have g3:Sh.sl e.kids 1 (e.kids.length:Int)=some r:=by
    unfold Sh.sl
    rw[if_pos ⟨by omega,by omega,by omega⟩,hks];simp
   have mkC:Sh.mk ([]:List Int) (C.length:Int) 24=some (List.replicate C.length []):=Lo [] C.length 24 (by omega) (by omega)
   have o:=Js (ks:=r) (ms:=C.map (Fg p.decls)) H V hN hmr (by omega) (by simp[hrl]) (by
    intro m hm
    obtain⟨c,hc,rfl⟩:=List.mem_map.1 hm
    exact (hCm c hc).2.2)
   have F:=Nv (p:=p) S hN hCl fun c hc=>(hCm c hc).2.1
   generalize hts:List.zipWith (fun m k=>T (v ++ m) k) (C.map (Fg p.decls)) r=ts at o
   have tsl:ts.length=C.length:=by rw[← hts];simp[hrl]
   have tsi :∀(i:Nat),i < C.length→∃c k,C[i]?=some c∧r[i]?=some k∧ts[i]?=some (T (v ++ Fg p.decls c) k)∧Bf N p.decls c=some (Fg p.decls c)∧DO v (Fg p.decls c)=some (v ++ Fg p.decls c)∧R1 p (v ++ Fg p.decls c) k=some (T (v ++ Fg p.decls c) k)∧(T (v ++ Fg p.decls c) k=-1∨Dm p.decls (T (v ++ Fg p.decls c) k)=true):=fun i hi=>by
    obtain⟨c,hc,hcm⟩:=Bj (l:=C) (i:=i) hi
    obtain⟨k,hk2,hkm⟩:=Bj (l:=r) (i:=i) (by omega)
    obtain⟨q1,q2,q3,q4⟩:=hCm c hcm
    obtain⟨z1,z2,z3⟩:=H (v ++ Fg p.decls c) k (V.Cu.kids k (hmr k hkm)) (Eb (hmr k hkm)) (V.more (hmr k hkm) q3) (V.Ry q4)
    refine⟨c,k,hc,hk2,?_,q1,G8 hv (by omega),z1,z3⟩
    rw[← hts,List.getElem?_zipWith,List.getElem?_map,hc,hk2];rfl
   have L :∀(t:Int) {M i:Nat},i≤C.length→C.length - i < M→C2 N p v e t C R1 M i=some (if (ts.drop i).all (fun x=>decide (x=t))=true then .inr () else .inl (-1)):=by
    intro t M i hi hM
    refine BX C.length (fun M i=>C2 N p v e t C R1 M i=some (if (ts.drop i).all (fun x=>decide (x=t))=true then .inr () else .inl (-1))) ?_ ?_ hi hM
    ·intro n
     rw[C2,if_neg (by simp[AT]),List.drop_of_length_le (by omega)];rfl
    ·intro n i hi ih
     obtain⟨c,k,q1,q2,q3,q4,q5,q6,q7⟩:=tsi i hi
     rw[C2,if_pos (by simp[AT];omega),BB q1]
     simp only[Option.bind_some]
     rw[q4]
     simp only[Option.bind_some]
     rw[q5,BI (n:=(1:Int) + (i:Int)) (by omega) (by omega),show ((1:Int) + (i:Int))=((1+i:Nat):Int) by omega,gi i k q2]
     simp only[Option.bind_some]
     rw[q6,BI (by omega) (by omega),show ((i:Int) + 1)=((i+1:Nat):Int) by omega,drop_cons q3,List.all_cons]
     simp only[Option.bind_some]
     by_cases z:T (v ++ Fg p.decls c) k=t
     ·simp only[z,decide_true,Bool.not_true,Bool.false_eq_true,if_false,Bool.true_and]
      exact ih
     ·simp[z]
   rw[g0,g3,mkC]
   simp only[Option.bind_some]
   rw[a1,a2]
   simp only[Option.bind_some]
   rw[F]
   simp only[Option.bind_some]
   rw[o]
   obtain⟨c,k,q1,q2,q3,q4,q5,q6,q7⟩:=tsi 0 (by omega)
   have g1:=gi 0 k q2
   have c0:Sh.get C 0=some c:=by rw[show (0:Int)=((0:Nat):Int) from rfl,BB q1]
   rw[show ((1+0:Nat):Int)=1 from rfl] at g1
   rw[c0]
   simp only[Option.bind_some]
   rw[q4]
   simp only[Option.bind_some]
   rw[q5,g1]
   simp only[Option.bind_some]
   rw[q6]
   simp only[Option.bind_some]
   have L1:=L (T (v ++ Fg p.decls c) k) (M:=N) (i:=1) (by omega) (by omega)
   rw[show ((1:Nat):Int)=1 from rfl] at L1
   rw[L1]
   have hts2:ts=T (v ++ Fg p.decls c) k :: ts.drop 1:=by
    have:=drop_cons q3
    simpa using this
   by_cases z:T v a=e.num
   ·by_cases y:(ts.drop 1).all (fun x=>decide (x=T (v ++ Fg p.decls c) k))=true
    ·have ho:LP ts=T (v ++ Fg p.decls c) k:=by rw[hts2];unfold LP;dsimp only;rw[if_pos y]
     refine⟨T (v ++ Fg p.decls c) k,?_,?_,q7⟩
     ·rw[if_pos y]
      simp[h0',hne,h1',z,Sh.cont]
     ·rw[ho]
      simp[h0',hne,h1',z]
    ·have ho:LP ts=-1:=by rw[hts2];unfold LP;dsimp only;rw[if_neg y]
     refine⟨-1,?_,?_,.inl rfl⟩
     ·rw[if_neg y]
      simp[h0',hne,h1',z,Sh.cont]
     ·rw[ho]
      simp[h0',hne,h1',z]
   ·exact⟨-1,by simp[h0',hne,h1',z,Sh.cont],by simp[h0',hne,h1',z],.inl rfl⟩
  ·have h1':¬ ((e.kids.length:Int)=1+(C.length:Int)):=by omega
   exact⟨-1,by simp[h0',hne,h1',Sh.cont],by simp[h0',hne,h1'],.inl rfl⟩
theorem UF (H:KD p (FO p) R1 R2 T (en e)) (V:Hq p e v) (S:GY p.decls p.funcs) (hN:2000000≤N):IF p R1 R2 N v e:=by
 by_cases h0:e.op=0
 ·exact VW H V hN h0
 by_cases h1:e.op=1∨e.op=2∨e.op=3∨e.op=4
 ·exact Tc H V hN h1
 by_cases h5:e.op=5
 ·exact Tb H V hN h5
 by_cases h6:e.op=6
 ·exact Vg H V S hN h6
 by_cases h7:e.op=7
 ·exact Vx H V hN h7
 by_cases h8:e.op=8
 ·exact TX H V S hN h8
 by_cases h9:e.op=9
 ·exact Tr H V S hN h9
 by_cases h10:e.op=10
 ·exact TO H V S hN h10
 by_cases h11:e.op=11
 ·exact TZ H V S hN h11
 by_cases h12:e.op=12
 ·exact Vi V h12
 by_cases h13:e.op=13
 ·exact VY H V h13
 exact TP H V hN (by omega)
end
theorem SB {p:Af} (S:GY p.decls p.funcs) {N:Nat} (hN:2000000≤N) :∀(n:Nat),∃T:List Int→AP→Int,∀(v:List Int) (e:AP),A2 e→en e < n→v.length+3 * en e≤1000→(∀x∈v,Dm p.decls x=true)→
  ∀n1 n2,n≤n1→n≤n2→Cq N n1 p v e=some (T v e)∧Bp N n2 v (FO p) e=some (T v e)∧(T v e=-1∨Dm p.decls (T v e)=true):=by
 intro n
 induction n with
 | zero=>exact⟨fun _ _=>0,fun v e _ h=>by omega⟩
 | succ n ih=>
  obtain⟨T,hT⟩:=ih
  refine⟨fun v e=>(Cq N (n+1) p v e).getD 0,fun v e hi hn hl ht n1 n2 h1 h2=>?_⟩
  have step :∀n1 n2,n≤n1→n≤n2→IF p (Cq N n1) (Bp N n2) N v e:=fun n1 n2 h1 h2=>
   UF (T:=T) (fun v e a b c d=>hT v e a (by omega) c d n1 n2 h1 h2) ⟨hl,ht,by have:=hl;omega,hi⟩ S hN
  obtain⟨m1,rfl⟩ :∃m,n1=m+1:=⟨n1 - 1,by omega⟩
  obtain⟨m2,rfl⟩ :∃m,n2=m+1:=⟨n2 - 1,by omega⟩
  obtain⟨t,q1,q2,q3⟩:=step n n (Nat.le_refl _) (Nat.le_refl _)
  obtain⟨t',r1,r2,_⟩:=step n m2 (Nat.le_refl _) (by omega)
  obtain⟨t'',s1,s2,_⟩:=step m1 n (by omega) (Nat.le_refl _)
  have e1:t'=t:=by rw[q1] at r1;cases r1;rfl
  have e2:t''=t:=by rw[q2] at s2;cases s2;rfl
  subst e1;subst e2
  have e3:(Cq N (n+1) p v e).getD 0=t'':=by rw[Cq,q1];rfl
  dsimp only
  rw[e3]
  exact⟨by rw[Cq];exact s1,by rw[Bp];exact r2,q3⟩
end RC



namespace RC
open Go
structure Ge (p:Af):Prop where
 Cu:Td p
 size:WB p≤1048576
theorem Ge.decls {p:Af} (S:Ge p):MH p.decls:=by
 have h:=S.size
 unfold WB at h
 have hd :∀d∈p.decls,dz d≤1048576:=fun d hd=>by have:=Qt dz hd;omega
 refine⟨by omega,fun d hm=>?_,fun d hm c hc=>?_⟩
 ·have:=hd d hm;unfold dz at this;omega
 ·have:=hd d hm;unfold dz at this
  have:=Qt cz hc
  show cz c≤_
  omega
theorem Ge.Kw {p:Af} (S:Ge p):p.funcs.length≤1048576:=by have h:=S.size;unfold WB at h;omega
theorem Ge.fz {p:Af} (S:Ge p) {f:Ar} (hf:f∈p.funcs):f.params.length≤1048576∧B4 f.body.kids≤1048576:=by
 have h:=S.size
 unfold WB at h
 have h2:=Qt XC hf
 have h3:XC f=f.params.length+B4 f.body.kids:=rfl
 omega
theorem Ge.fin {p:Af} (S:Ge p) {f:Ar} (hf:f∈p.funcs):QM f:=S.Cu.funcs.1 f hf
def QV (p:Af):Bool:=Kt p.decls (p.funcs.map fun f=>(f.params,f.result))
theorem Q0 {p:Af} (S:Ge p) {N:Nat} (hN:2000000≤N):FQ N p=some (QV p):=NH S.decls S.Kw (fun f hf=>(S.fz hf).1) hN
theorem T1 {p:Af} (hl:p.funcs.length≤1048576) {N:Nat} (hN:2000000≤N):Ce p N 0 []=some (FO p).funcs:=by
 have key :∀{N i:Nat},i≤p.funcs.length→p.funcs.length - i < N→Ce p N i ((FO p).funcs.take i)=some (FO p).funcs:=by
  intro N i hi hN
  refine BX p.funcs.length (fun N i=>Ce p N i ((FO p).funcs.take i)=some (FO p).funcs) ?_ ?_ hi hN
  ·intro n;rw[Ce,if_neg (by simp[AT]),List.take_of_length_le (by rw[Jh];omega)]
  ·intro n i hi ih
   obtain⟨f,hf,_⟩:=Bj hi
   have hf2:(FO p).funcs[i]?=some ⟨f.params,[],f.result⟩:=by
    show (p.funcs.map _)[i]?=_
    rw[List.getElem?_map,hf];rfl
   rw[Ce,if_pos (by simp[AT];omega),BB hf]
   simp only[Option.bind_some]
   rw[Ep _ _ _ (by simp;omega) (by simp;omega),BI (by omega) (by omega),show ((i:Int) + 1)=((i+1:Nat):Int) by omega]
   simp only[Option.bind_some]
   rw[← ih,G2 hf2]
 have:=key (Nat.zero_le _) (by omega:p.funcs.length - 0 < N)
 simpa using this
theorem Tt {p:Af} (hl:p.funcs.length≤1048576) {N:Nat} (hN:2000000≤N):H7 N p=some (FO p):=by
 have key :∀{N i:Nat},i≤p.funcs.length→p.funcs.length - i < N→ED p N i ((FO p).funcs.take i)=some (FO p).funcs:=by
  intro N i hi hN
  refine BX p.funcs.length (fun N i=>ED p N i ((FO p).funcs.take i)=some (FO p).funcs) ?_ ?_ hi hN
  ·intro n;rw[ED,if_neg (by simp[AT]),List.take_of_length_le (by rw[Jh];omega)]
  ·intro n i hi ih
   obtain⟨f,hf,_⟩:=Bj hi
   have hf2:(FO p).funcs[i]?=some ⟨f.params,[],f.result⟩:=by
    show (p.funcs.map _)[i]?=_
    rw[List.getElem?_map,hf];rfl
   rw[ED,if_pos (by simp[AT];omega),BB hf]
   simp only[Option.bind_some]
   rw[Ep _ _ _ (by simp;omega) (by simp;omega),BI (by omega) (by omega),show ((i:Int) + 1)=((i+1:Nat):Int) by omega]
   simp only[Option.bind_some]
   rw[← ih,G2 hf2]
 have:=key (Nat.zero_le _) (by omega:p.funcs.length - 0 < N)
 rw[List.take_zero,show ((0:Nat):Int)=0 from rfl] at this
 unfold H7
 rw[this];rfl
theorem QW {p:Af} (S:Ge p) {N:Nat} (hN:2000000≤N):FP N p=some (QV p):=by
 have hl:=S.Kw
 unfold FP QV
 by_cases h4:p.funcs.length≤4
 ·rw[if_neg (by rw[decide_eq_true_eq,AT];omega),T1 hl hN]
  simp only[Option.bind_some]
  rw[NQ S.decls (by rw[Jh];exact hl) (fun f hf=>by obtain⟨q,hq,rfl⟩:=List.mem_map.1 (show f∈p.funcs.map _ from hf);exact⟨(S.fz hq).1,by simp⟩) hN]
  have e1:((FO p).funcs.map fun f=>(f.params,f.result))=p.funcs.map fun f=>(f.params,f.result):=by
   show (p.funcs.map _).map _=_
   rw[List.map_map];rfl
  have e2:((FO p).funcs.all fun f=>Ch (It f.params f.Ee) 0 f.Ee)=true:=by
   rw[List.all_eq_true]
   intro f hf
   obtain⟨q,hq,rfl⟩:=List.mem_map.1 (show f∈p.funcs.map _ from hf)
   rfl
  rw[e1,e2];simp
 ·rw[if_pos (by rw[decide_eq_true_eq,AT];omega)]
  have:Kt p.decls (p.funcs.map fun f=>(f.params,f.result))=false:=by
   unfold Kt
   simp[h4]
  rw[this]
def IK (p:Af) (T:List Int→AP→Int) (f:Ar):Bool:=decide (en f.body≤30) && decide (T f.params f.body=f.result)
theorem Hj {p:Af} (S:Ge p) {N:Nat} (hN:2000000≤N) :∃b,C4 N p=some b∧B7 N p=some b∧(b=true→GY p.decls p.funcs∧∀f∈p.funcs,en f.body≤30):=by
 unfold C4 B7
 rw[Q0 S hN,QW S hN]
 simp only[Option.bind_some]
 cases hs:QV p with
 | false=>exact⟨false,rfl,rfl,fun h=>nomatch h⟩
 | true=>
  have SO:=GY.of hs
  have hl:=S.Kw
  obtain⟨T,hT⟩:=SB SO hN 31
  have hty :∀f∈p.funcs,en f.body≤30→I4 N p f.params f.body=some (T f.params f.body)∧Ft N f.params (FO p) f.body=some (T f.params f.body)∧(T f.params f.body=-1∨Dm p.decls (T f.params f.body)=true):=fun f hf he=>by
   obtain⟨q1,q2,q3⟩:=SO.Qx f hf
   exact hT f.params f.body (S.fin hf).body (by omega) (by omega) q2 N N (by omega) (by omega)
  have hcl :∀f∈p.funcs,Ei f.params=some f.params:=fun f hf=>by
   obtain⟨q1,q2,q3⟩:=SO.Qx f hf
   unfold Ei
   rw[Ep [] f.params 8 (by simp;omega) (by simp;omega)];rfl
  have L1:=DF (l:=p.funcs) (B0 N p) (fun _ f=>IK p T f) (fun n=>by rw[B0,if_neg (by simp[AT])]) (fun n i f hi=>by
   have hil:=(List.getElem?_eq_some_iff.1 hi).1
   have hf:=List.mem_of_getElem? hi
   rw[B0,if_pos (by simp[AT];omega),BB hi]
   simp only[Option.bind_some]
   rw[HB (S.fz hf).2 hN,BI (by omega) (by omega),show ((i:Int) + 1)=((i+1:Nat):Int) by omega]
   simp only[Option.bind_some]
   unfold IK
   by_cases he:en f.body≤30
   ·rw[if_pos he,if_neg (by simp),(hty f hf he).1]
    by_cases hr:T f.params f.body=f.result <;> simp[he,hr]
   ·rw[if_neg he]
    simp[he]) (by omega:p.funcs.length < N)
  have L2:=DF (l:=p.funcs) (Ci N p) (fun _ f=>IK p T f) (fun n=>by rw[Ci,if_neg (by simp[AT])]) (fun n i f hi=>by
   have hil:=(List.getElem?_eq_some_iff.1 hi).1
   have hf:=List.mem_of_getElem? hi
   obtain⟨q1,q2,q3⟩:=SO.Qx f hf
   have q4:f.params.all (Dm p.decls)=true:=List.all_eq_true.2 q2
   rw[Ci,if_pos (by simp[AT];omega),BB hi]
   simp only[Option.bind_some]
   unfold I1
   rw[QW S hN,hs,O0 (S.fz hf).2 hN,H9 (by omega) (by omega),q4,Tt hl hN,hcl f hf,BI (by omega) (by omega),show ((i:Int) + 1)=((i+1:Nat):Int) by omega]
   simp only[Option.bind_some]
   unfold IK
   by_cases he:en f.body≤30
   ·rw[if_pos he,(hty f hf he).2.1]
    have he0:¬ ((en f.body:Int) < 0):=by omega
    by_cases hr:T f.params f.body=f.result <;> simp[he,hr,he0]
   ·rw[if_neg he]
    have hr:¬ ((-1:Int)=f.result):=fun q=>by have:=(Jx q3).1;omega
    simp[he,hr]) (by omega:p.funcs.length < N)
  rw[ET] at L1 L2
  refine⟨p.funcs.all (IK p T),?_,?_,fun h=>⟨SO,fun f hf=>?_⟩⟩
  ·simp only[Bool.not_true,Bool.false_eq_true,if_false]
   rw[L1,DE]
   cases p.funcs.all (IK p T) <;> rfl
  ·simp only[Bool.not_true,Bool.false_eq_true,if_false]
   rw[L2,DE]
   cases p.funcs.all (IK p T) <;> rfl
  ·have:=List.all_eq_true.1 h f hf
   unfold IK at this
   simp only[Bool.and_eq_true,decide_eq_true_eq] at this
   exact this.1
end RC



namespace RC
open Go
structure CX (D:List Ac) (F:List Ar):Prop where
 dl:D.length≤4
 Yt:nc D≤7
 cons :∀d∈D,d.cons.length≤3
 Lq :∀d∈D,∀c∈d.cons,c.fields.length≤3∧∀x∈c.fields,x=0∨x=1∨x=3
 c1:C7 D 1=[0,1]
 c3:C7 D 3=[2,3]
 f0 :∃t,Fl D 0 0=some (t,⟨[]⟩)
 f1 :∃t,Fl D 0 1=some (t,⟨[0,1]⟩)
 f2 :∃t,Fl D 0 2=some (t,⟨[]⟩)
 f3 :∃t,Fl D 0 3=some (t,⟨[3,0,3]⟩)
 arr:GN 1 1 D 0=-1
 fl:F.length≤4
 Vs:1≤F.length
 par :∀f∈F,f.params.length≤3
 cl :∀f∈F,(∀x∈f.params,x=0∨x=1∨x=3)∨(f.params=[2,1]∧f.result=1)
section
variable {D : List Ac} {F : List Ar}
theorem TQ (D:List Ac) (i:Nat):nc (D.take i)≤nc D:=by have:=FU D i;omega
theorem CX.Ty (C:CX D F):D.length≤1048576:=by have:=C.dl;omega
theorem CX.YQ (C:CX D F):nc D≤1048576:=by have:=C.Yt;omega
theorem CX.Pt (C:CX D F) {t:Int} {N:Nat} (hN:2000000≤N):E7 N D t=some (C7 D t):=LG C.Ty C.YQ hN
theorem MA {D:List Ac} {t:Int} :∀x∈C7 D t,∃c:Nat,x=(c:Int)∧c < nc D:=by
 intro x hx
 unfold C7 at hx
 split at hx
 ·rename_i h
  obtain⟨i,hi,rfl⟩:=List.mem_map.1 hx
  rw[List.mem_range] at hi
  cases hd:D[(t - 1).toNat]? with
  | none=>rw[hd] at hi;simp at hi
  | some d=>
   rw[hd] at hi
   simp only[Option.elim_some] at hi
   have h1:=Ig hd
   have h2:=TQ D ((t - 1).toNat+1)
   exact⟨nc (D.take (t - 1).toNat) + i,by omega,by omega⟩
 ·cases hx
theorem CX.Pv (C:CX D F) (t:Int):(C7 D t).length≤3:=by
 unfold C7
 split
 ·rw[List.length_map,List.length_range]
  cases hd:D[(t - 1).toNat]? with
  | none=>simp
  | some d=>simpa using C.cons d (List.mem_of_getElem? hd)
 ·simp
theorem CX.fields (C:CX D F) {c:Nat} (hc:c < nc D) {N:Nat} (hN:2000000≤N) :∃fl:List Int,Bf N D (c:Int)=some fl∧fl.length≤3∧∀x∈fl,x=0∨x=1∨x=3:=by
 obtain⟨t,x,h1,h2⟩:=F7 C.Ty C.YQ hc hN
 obtain⟨_,_,d,hd,hx⟩:=MK h1
 obtain⟨h3,h4⟩:=C.Lq d hd x hx
 exact⟨x.fields,h2,h3,h4⟩
theorem Ti :∀(D:List Ac) (k c:Nat) {r:Nat×Gl},Fl D k c=some r→c < nc D
 | [],k,c,r,h=>by simp[Fl] at h
 | d :: D,k,c,r,h=>by
  unfold Fl at h
  have e:nc (d :: D)=d.cons.length+nc D:=by simp[nc]
  cases hx:d.cons[c]? with
  | some y=>have:=(List.getElem?_eq_some_iff.1 hx).1;omega
  | none=>
   rw[hx] at h
   have:=Ti D _ _ h
   omega
theorem CX.Pz (C:CX D F) {c t:Nat} {x:Gl} (h:Fl D 0 c=some (t,x)) {N:Nat} (hN:2000000≤N):Bf N D (c:Int)=some x.fields:=by
 obtain⟨t',x',h1,h2⟩:=F7 C.Ty C.YQ (Ti D 0 c h) hN
 rw[h] at h1;cases h1;exact h2
theorem W6 {l:List Int} {x:Int} (hl:l.length≤1048576) {N i:Nat} (hi:i≤l.length) (hN:l.length - i < N):DH l x N i=some (if x∈l.drop i then Sum.inl true else Sum.inr ()):=by
 refine BX l.length (fun N i=>DH l x N i=some (if x∈l.drop i then Sum.inl true else Sum.inr ())) ?_ ?_ hi hN
 ·intro n;rw[DH,if_neg (by simp[AT])];simp
 ·intro n i hi ih
  obtain⟨y,hy,_⟩:=Bj hi
  rw[DH,if_pos (by simp[AT];omega),BB hy,drop_cons hy]
  simp only[Option.bind_some,List.mem_cons]
  rw[BI (by omega) (by omega),show ((i:Int) + 1)=((i+1:Nat):Int) by omega]
  by_cases h:y=x
  ·simp[h]
  ·have h':¬ x=y:=fun e=>h e.symm
   rw[if_neg (by simpa using h),ih]
   simp[h']
theorem Xb {l:List Int} {x:Int} (hl:l.length≤1048576) {N:Nat} (hN:2000000≤N):E0 N l x=some (decide (x∈l)):=by
 unfold E0
 have:=W6 (x:=x) hl (Nat.zero_le _) (by omega:l.length - 0 < N)
 rw[show ((0:Nat):Int)=0 from rfl,List.drop_zero] at this
 rw[this]
 by_cases h:x∈l <;> simp[h,Sh.cont]
def Tz (D:List Ac) (F:List Ar) (t x:Int):Prop:=∃(f:Nat) (g:Ar) (y:Int),x=(f:Int)∧F[f]?=some g∧g.params[g.params.length - 1]?=some y∧0 < g.params.length∧GN y g.result D 0=t
theorem J7 (C:CX D F) {t:Int} {M:Nat} (hM:2000000≤M):Aj (Fp M ⟨D,F⟩ t) fun l=>l.length≤4∧∀x∈l,Tz D F t x:=by
 have hf:=C.fl
 have key :∀{N i:Nat},i≤F.length→F.length - i < N→∀acc:List Int,acc.length≤i→(∀x∈acc,Tz D F t x)→Aj (DP M ⟨D,F⟩ t N i acc) fun l=>l.length≤F.length∧∀x∈l,Tz D F t x:=by
  intro N i hi hN
  refine BX F.length (fun N i=>∀acc:List Int,acc.length≤i→(∀x∈acc,Tz D F t x)→Aj (DP M ⟨D,F⟩ t N i acc) fun l=>l.length≤F.length∧∀x∈l,Tz D F t x) ?_ ?_ hi hN
  ·intro n acc h1 h2
   rw[DP,if_neg (by simp[AT])]
   exact Aj.some ⟨h1,h2⟩
  ·intro n i hi ih acc h1 h2
   obtain⟨g,hg,hgm⟩:=Bj hi
   have hp:=C.par g hgm
   rw[DP,if_pos (by simp[AT];omega)]
   refine Aj.bind (R:=fun l=>l.length≤i+1∧∀x∈l,Tz D F t x) ?_ fun l hl=>?_
   ·refine AY (BB hg) ?_
    refine Aj.bind (R:=fun b=>b=true→Tz D F t i) ?_ fun b hb=>?_
    ·refine A0 (fun h=>?_) fun _=>Aj.some (fun h=>by cases h)
     rw[AT] at h
     have hpos:0 < g.params.length:=by omega
     obtain⟨y,hy,_⟩:=Bj (l:=g.params) (i:=g.params.length - 1) (by omega)
     rw[AT,BI (by omega) (by omega),show ((g.params.length:Int) - 1)=((g.params.length - 1:Nat):Int) by omega]
     refine AY (BB hy) (AY (KN C.Ty hM) (Aj.some fun h=>?_))
     exact⟨i,g,y,rfl,hg,hy,hpos,by simpa using h⟩
    ·refine B2 (fun h=>?_) fun _=>Aj.some ⟨by omega,h2⟩
     refine Aj.app (by simp;omega) (by simp;omega) (Aj.some ⟨by simp;omega,fun x hx=>?_⟩)
     rcases List.mem_append.1 hx with h3 | h3
     ·exact h2 x h3
     ·rw[List.mem_singleton] at h3;rw[h3];exact hb h
   ·rw[BI (by omega) (by omega),show ((i:Int) + 1)=((i+1:Nat):Int) by omega]
    exact ih l hl.1 hl.2
 unfold Fp
 have:=key (Nat.zero_le _) (by omega:F.length - 0 < M) [] (by simp) (by simp)
 rw[show ((0:Nat):Int)=0 from rfl] at this
 exact Aj.bind this fun l hl=>Aj.some ⟨by omega,hl.2⟩
theorem I2 (C:CX D F) {vars:List Int} (hv:vars.length≤1000) {t:Int} {M:Nat} (hM:2000000≤M):Aj (FB M ⟨D,F⟩ vars t) fun _=>True:=by
 unfold FB
 refine Aj.bind (R:=fun _=>True) ?_ fun b _=>Aj.some trivial
 refine AY (HF C.Ty) ?_
 refine B2 (fun _=>Aj.some trivial) fun _=>?_
 refine Aj.bind (J7 C hM) fun l _=>?_
 refine A0 (fun _=>Aj.some trivial) fun _=>?_
 exact AY (Xb (by omega) hM) (Aj.some trivial)
theorem Ph {vars:List Int} (hv:vars.length≤1000) {t:Int} {M:Nat} (hM:2000000≤M):Aj (Fq M vars t) fun l=>l.length≤1000∧∀x∈l,0≤x∧x≤1000:=by
 have key :∀{N i:Nat},i≤vars.length→vars.length - i < N→∀acc:List Int,acc.length≤i→(∀x∈acc,0≤x∧x≤1000)→Aj (Ck vars t N i acc) fun l=>l.length≤vars.length∧∀x∈l,0≤x∧x≤1000:=by
  intro N i hi hN
  refine BX vars.length (fun N i=>∀acc:List Int,acc.length≤i→(∀x∈acc,0≤x∧x≤1000)→Aj (Ck vars t N i acc) fun l=>l.length≤vars.length∧∀x∈l,0≤x∧x≤1000) ?_ ?_ hi hN
  ·intro n acc h1 h2
   rw[Ck,if_neg (by simp[AT])]
   exact Aj.some ⟨h1,h2⟩
  ·intro n i hi ih acc h1 h2
   obtain⟨y,hy,_⟩:=Bj hi
   rw[Ck,if_pos (by simp[AT];omega)]
   refine Aj.bind (R:=fun l=>l.length≤i+1∧∀x∈l,0≤x∧x≤1000) ?_ fun l hl=>?_
   ·refine AY (BB hy) ?_
    refine A0 (fun _=>?_) fun _=>Aj.some ⟨by omega,h2⟩
    refine Aj.app (by simp;omega) (by simp;omega) (Aj.some ⟨by simp;omega,fun x hx=>?_⟩)
    rcases List.mem_append.1 hx with h3 | h3
    ·exact h2 x h3
    ·rw[List.mem_singleton] at h3;omega
   ·rw[BI (by omega) (by omega),show ((i:Int) + 1)=((i+1:Nat):Int) by omega]
    exact ih l hl.1 hl.2
 unfold Fq
 have:=key (Nat.zero_le _) (by omega:vars.length - 0 < M) [] (by simp) (by simp)
 rw[show ((0:Nat):Int)=0 from rfl] at this
 exact Aj.bind this fun l hl=>Aj.some ⟨by omega,hl.2⟩
structure GE (k P:Nat) (p:Int) (q:AP×Int):Prop where
 size:en q.1≤k
 Cu:A2 q.1
 lo:p≤q.2
 hi:q.2≤p+P
theorem GE.up {k k' P P':Nat} {p:Int} {q:AP×Int} (h:GE k P p q) (hk:k≤k') (hP:P≤P'):GE k' P' p q:=⟨by have:=h.size;omega,h.Cu,h.lo,by have:=h.hi;omega⟩
theorem Cd {n:Int} (h1:-1000000≤n) (h2:n≤1000000):I6 n:=⟨by omega,by omega⟩
theorem HK {o n:Int} {k:List AP} (ho:I6 o) (hn:I6 n) (hk :∀e∈k,A2 e) (hl:k.length≤1000):A2 ⟨o,n,k⟩:=.mk ho hn (by show k.length≤_;omega) hk
theorem E4 (o n:Int) (k:List AP):en ⟨o,n,k⟩=1+B4 k:=IL _
theorem HS :∀(a b:List AP),B4 (a ++ b)=B4 a+B4 b
 | [],b=>by simp[B4]
 | x :: a,b=>by have:=HS a b;simp only[List.cons_append,B4];omega
theorem FX (e:AP):B4 [e]=en e:=by simp[B4]
theorem Kd {b:List Int} (Bb:Bk b) {p:Int} (h0:0≤p) (h1:p≤900000):Aj (GU b p) fun q=>(-1000≤q.1∧q.1≤1000)∧q.2=p+4:=by
 unfold GU
 refine Aj.bind (Bu Bb ⟨by omega,by omega⟩) fun a ha=>?_
 have a1:=ha.pos;have a2:=ha.nn;have a3:=ha.lt (by omega)
 refine Aj.bind (Bu Bb ⟨by omega,by omega⟩) fun c hc=>?_
 have c1:=hc.pos;have c2:=hc.nn;have c3:=hc.lt (by omega)
 refine Aj.bind (Bu Bb ⟨by omega,by omega⟩) fun d hd=>?_
 have d1:=hd.pos;have d2:=hd.nn;have d3:=hd.lt (by omega)
 refine Aj.bind (Ew Bb ⟨by omega,by omega⟩ (by simp) (by simp)) fun e he=>Aj.some ⟨?_,by have:=he.pos;show e.2=_;omega⟩
 have:=he.mem
 simp only[List.mem_cons,List.not_mem_nil,or_false] at this
 show -1000≤e.1∧e.1≤1000
 omega
def Uu (b:List Int) (D:List Ac) (F:List Ar) (rec:List Int→Int→List Ar→List Ac→Int→Option (AP×Int)) (t:Int) (k P:Nat):Prop:=
 ∀p:Int,0≤p→p≤800000→Aj (rec b p F D t) (GE k P p)
theorem RT {b:List Int} {rec:List Int→Int→List Ar→List Ac→Int→Option (AP×Int)} {l:List Int} (hl:l.length≤3) {k P:Nat} (hP:P≤1000) (hrec :∀t∈l,Uu b D F rec t k P) {N i:Nat} (hi:i≤l.length) (hN:l.length - i < N) :
  ∀(p:Int) (acc:List AP),0≤p→p≤700000+(i * P:Nat)→acc.length=i→(∀e∈acc,A2 e)→B4 acc≤i * k→
   Aj (B9 b F D l rec N i p acc) fun q=>p≤q.1∧q.1≤p+((l.length - i) * P:Nat)∧q.2.length=l.length∧(∀e∈q.2,A2 e)∧B4 q.2≤l.length * k:=by
 refine BX l.length (fun N i=>∀(p:Int) (acc:List AP),0≤p→p≤700000+(i * P:Nat)→acc.length=i→(∀e∈acc,A2 e)→B4 acc≤i * k→
   Aj (B9 b F D l rec N i p acc) fun q=>p≤q.1∧q.1≤p+((l.length - i) * P:Nat)∧q.2.length=l.length∧(∀e∈q.2,A2 e)∧B4 q.2≤l.length * k) ?_ ?_ hi hN
 ·intro n p acc h0 h1 h2 h3 h4
  rw[B9,if_neg (by simp[AT])]
  exact Aj.some ⟨by show p≤p;omega,by show p≤_;omega,h2,h3,h4⟩
 ·intro n i hi ih p acc h0 h1 h2 h3 h4
  obtain⟨t,ht,htm⟩:=Bj hi
  have hiP:i * P≤3000:=by
   have:i * P≤3 * 1000:=Nat.mul_le_mul (by omega) hP
   omega
  have e1:(l.length - i) * P=P+(l.length - (i+1)) * P:=by
   rw[show l.length - i=(l.length - (i+1)) + 1 by omega,Nat.add_mul];omega
  have e2:(i+1) * P=i * P+P:=by rw[Nat.add_mul];omega
  have e3:(i+1) * k=i * k+k:=by rw[Nat.add_mul];omega
  rw[B9,if_pos (by simp[AT];omega)]
  refine AY (BB ht) ?_
  refine Aj.bind (hrec t htm p h0 (by omega)) fun q hq=>?_
  have q1:=hq.lo;have q2:=hq.hi;have q3:=hq.size
  refine Aj.app (by simp;omega) (by simp;omega) ?_
  rw[BI (by omega) (by omega),show ((i:Int) + 1)=((i+1:Nat):Int) by omega]
  refine (ih q.2 (acc ++ [q.1]) (by omega) (by omega) (by simp;omega) (fun e he=>?_) (by rw[HS,FX];omega)).mono fun r hr=>⟨by have:=hr.1;omega,by have:=hr.2.1;omega,hr.2.2⟩
  rcases List.mem_append.1 he with h5 | h5
  ·exact h3 e h5
  ·rw[List.mem_singleton] at h5;rw[h5];exact hq.Cu
theorem RY {b:List Int} {rec:List Int→Int→List Ar→List Ac→Int→Option (AP×Int)} {g:Ar} {m:Nat} (hm:g.params.length=m+1) (hl:m≤2) {k P:Nat} (hP:P≤1000) (hrec :∀t∈g.params,Uu b D F rec t k P) {N i:Nat} (hi:i≤m) (hN:m - i < N) :
  ∀(p:Int) (acc:List AP),0≤p→p≤700000+(i * P:Nat)→acc.length=i→(∀e∈acc,A2 e)→B4 acc≤i * k→
   Aj (Cp g b F D rec N i p acc) fun q=>p≤q.1∧q.1≤p+((m - i) * P:Nat)∧q.2.length=m∧(∀e∈q.2,A2 e)∧B4 q.2≤(m) * k:=by
 refine BX m (fun N i=>∀(p:Int) (acc:List AP),0≤p→p≤700000+(i * P:Nat)→acc.length=i→(∀e∈acc,A2 e)→B4 acc≤i * k→
   Aj (Cp g b F D rec N i p acc) fun q=>p≤q.1∧q.1≤p+((m - i) * P:Nat)∧q.2.length=m∧(∀e∈q.2,A2 e)∧B4 q.2≤(m) * k) ?_ ?_ hi hN
 ·intro n p acc h0 h1 h2 h3 h4
  rw[Cp,BI (by omega) (by omega),if_neg (by rw[decide_eq_true_eq,AT];omega)]
  exact Aj.some ⟨by show p≤p;omega,by show p≤_;omega,h2,h3,h4⟩
 ·intro n i hi ih p acc h0 h1 h2 h3 h4
  obtain⟨t,ht,htm⟩:=Bj (l:=g.params) (i:=i) (by omega)
  have hiP:i * P≤3000:=by
   have:i * P≤3 * 1000:=Nat.mul_le_mul (by omega) hP
   omega
  have e1:(m - i) * P=P+(m - (i+1)) * P:=by
   rw[show m - i=(m - (i+1)) + 1 by omega,Nat.add_mul];omega
  have e2:(i+1) * P=i * P+P:=by rw[Nat.add_mul];omega
  have e3:(i+1) * k=i * k+k:=by rw[Nat.add_mul];omega
  rw[Cp,BI (by omega) (by omega),if_pos (by rw[decide_eq_true_eq,AT];omega)]
  refine AY (BB ht) ?_
  refine Aj.bind (hrec t htm p h0 (by omega)) fun q hq=>?_
  have q1:=hq.lo;have q2:=hq.hi;have q3:=hq.size
  refine Aj.app (by simp;omega) (by simp;omega) ?_
  rw[show ((i:Int) + 1)=((i+1:Nat):Int) by omega]
  refine (ih q.2 (acc ++ [q.1]) (by omega) (by omega) (by simp;omega) (fun e he=>?_) (by rw[HS,FX];omega)).mono fun r hr=>⟨by have:=hr.1;omega,by have:=hr.2.1;omega,hr.2.2⟩
  rcases List.mem_append.1 he with h5 | h5
  ·exact h3 e h5
  ·rw[List.mem_singleton] at h5;rw[h5];exact hq.Cu
theorem EY {o n:Int} (ho:-1000000≤o∧o≤1000000) (hn:-1000000≤n∧n≤1000000):A2 ⟨o,n,[]⟩:=HK (Cd ho.1 ho.2) (Cd hn.1 hn.2) (by simp) (by simp)
theorem W8 (C:CX D F) {b:List Int} (Bb:Bk b) {M:Nat} (hM:2000000≤M) {t:Int} (ht:t=0∨t=1∨t=3) (n:Nat):Uu b D F (CM M (n+1)) t 1 6:=by
 intro p h0 h1
 rw[CM]
 unfold Fs
 refine AY (C.Pt hM) ?_
 have data :∀(c:Nat) (fs:List Int),C7 D t=[(c:Int),((c+1:Nat):Int)]→c≤10→Bf M D (c:Int)=some []→Bf M D ((c+1:Nat):Int)=some fs→t∈fs→fs.length≤3→
   Aj (Option.bind (Sh.get (C7 D t) 0) fun c8=>
  Option.bind (
   Option.bind (
    if (decide (1 < (Sh.len (C7 D t))))=true then
     Option.bind (Aw b p 4) fun q47=>
     some (decide (q47.1=0),q47.2)
    else
     some (false,p)
   ) fun (t41,f42)=>
   if t41=true then
    Option.bind (Sh.get (C7 D t) 1) fun c45=>
    some (c45,f42)
   else
    some (c8,f42)
  ) fun (c10,f11)=>
  Option.bind (
   Option.bind (Bf M D c10) fun q37=>
   Option.bind (E0 M q37 t) fun q38=>
   if q38=true then
    some c8
   else
    some c10
  ) fun c14=>
  Option.bind (Bf M D c14) fun q18=>
  Option.bind (B9 b F D q18 (CM M n) M 0 f11 []) fun (f24,l25)=>
  Option.bind (BQ 6 c14 l25) fun q28=>
  some (q28,f24)) (GE 1 6 p):=by
  intro c fs hcl hc hf0 hf1 hin hfl
  rw[hcl]
  refine AY (show Sh.get [(c:Int),((c+1:Nat):Int)] 0=some (c:Int) from rfl) ?_
  refine Aj.bind (R:=fun q=>(q.1=(c:Int)∨q.1=((c+1:Nat):Int))∧q.2=p+1) ?_ ?_
  ·rw[if_pos (by simp[AT])]
   refine Aj.bind (R:=fun q:Bool×Int=>q.2=p+1) (Aj.bind (Bu Bb ⟨by omega,by omega⟩) fun q hq=>Aj.some hq.pos) ?_
   rintro⟨t41,f42⟩ hf
   dsimp only at hf ⊢
   refine B2 (fun _=>?_) fun _=>Aj.some ⟨.inl rfl,hf⟩
   exact AY (show Sh.get [(c:Int),((c+1:Nat):Int)] 1=some ((c+1:Nat):Int) from rfl) (Aj.some ⟨.inr rfl,hf⟩)
  ·rintro⟨c10,f11⟩ ⟨hc10,hf⟩
   dsimp only at hc10 hf ⊢
   refine Aj.bind (R:=fun c14=>c14=(c:Int)) ?_ ?_
   ·rcases hc10 with rfl | rfl
    ·refine AY hf0 (AY (Xb (by simp) hM) ?_)
     exact B2 (fun _=>Aj.some rfl) fun _=>Aj.some rfl
    ·refine AY hf1 (AY (Xb (by omega) hM) ?_)
     rw[if_pos (by simpa using hin)]
     exact Aj.some rfl
   ·rintro c14 rfl
    refine AY hf0 ?_
    obtain⟨M',rfl⟩ :∃m,M=m+1:=⟨M - 1,by omega⟩
    rw[B9,if_neg (by simp[AT])]
    refine AY rfl (AY rfl (Aj.some ⟨?_,EY ⟨by omega,by omega⟩ ⟨by omega,by omega⟩,?_,?_⟩))
    ·rw[E4];simp[B4]
    ·show p≤f11;omega
    ·show f11≤_;omega
 rcases ht with rfl | rfl | rfl
 ·have e:C7 D 0=[]:=by unfold C7;rw[if_neg (by omega)]
  rw[e,if_neg (by simp[AT])]
  refine Aj.bind (J7 C hM) fun l _=>?_
  refine AY (show _=some false from if_neg (by simp)) ?_
  simp only[Bool.false_eq_true,if_false]
  refine Aj.bind (Kd Bb h0 (by omega)) fun q hq=>AY rfl (Aj.some ⟨?_,EY ⟨by omega,by omega⟩ ⟨by omega,by omega⟩,?_,?_⟩)
  ·rw[E4];simp[B4]
  ·show p≤q.2;omega
  ·show q.2≤_;omega
 ·obtain⟨t0,k0⟩:=C.f0
  obtain⟨t1,k1⟩:=C.f1
  rw[if_pos (by rw[C.c1];simp[AT])]
  exact data 0 [0,1] C.c1 (by omega) (C.Pz k0 hM) (C.Pz k1 hM) (by simp) (by simp)
 ·obtain⟨t0,k0⟩:=C.f2
  obtain⟨t1,k1⟩:=C.f3
  rw[if_pos (by rw[C.c3];simp[AT])]
  exact data 2 [3,0,3] C.c3 (by omega) (C.Pz k0 hM) (C.Pz k1 hM) (by simp) (by simp)
end
end RC



namespace RC
open Go
section
variable {D : List Ac} {F : List Ar}
theorem Rg (C:CX D F) {b:List Int} (Bb:Bk b) {M:Nat} (hM:2000000≤M) (t:Int) (n:Nat) {p:Int} (h0:0≤p) (h1:p≤600000):Aj (CM M (n+2) b p F D t) (GE 4 20 p):=by
 have hrec :∀t,(t=0∨t=1∨t=3)→Uu b D F (CM M (n+1)) t 1 6:=fun t ht=>W8 C Bb hM ht n
 rw[CM]
 unfold Fs
 refine AY (C.Pt hM) ?_
 have hc3:=C.Pv t
 refine A0 (fun hpos=>?_) fun _=>?_
 ·rw[AT] at hpos
  refine Aj.get (by omega) (by omega) fun c8 _ hc8=>?_
  refine Aj.bind (R:=fun q=>q.1∈C7 D t∧p≤q.2∧q.2≤p+1) ?_ ?_
  ·refine Aj.bind (R:=fun q:Bool×Int=>(q.1=true→1 < (C7 D t).length)∧p≤q.2∧q.2≤p+1) ?_ ?_
   ·refine A0 (fun h2=>?_) fun _=>Aj.some ⟨(fun h=>by cases h),by show p≤p;omega,by show p≤_;omega⟩
    rw[AT] at h2
    exact Aj.bind (Bu Bb ⟨by omega,by omega⟩) fun q hq=>Aj.some ⟨fun _=>by omega,by have:=hq.pos;show p≤q.2;omega,by have:=hq.pos;show q.2≤_;omega⟩
   ·rintro⟨t41,f42⟩ ⟨g1,g2,g3⟩
    dsimp only at g1 g2 g3 ⊢
    refine B2 (fun h=>?_) fun _=>Aj.some ⟨hc8,g2,g3⟩
    refine Aj.get (by omega) (by have:=g1 h;omega) fun c45 _ hc45=>Aj.some ⟨hc45,g2,g3⟩
  ·rintro⟨c10,f11⟩ ⟨hc10,g2,g3⟩
   dsimp only at hc10 g2 g3 ⊢
   refine Aj.bind (R:=fun c14=>c14∈C7 D t) ?_ ?_
   ·obtain⟨c,rfl,hc⟩:=MA _ hc10
    obtain⟨fl,e1,e2,_⟩:=C.fields hc hM
    refine AY e1 (AY (Xb (by omega) hM) ?_)
    exact B2 (fun _=>Aj.some hc8) fun _=>Aj.some hc10
   ·intro c14 hc14
    obtain⟨c,rfl,hc⟩:=MA _ hc14
    obtain⟨fl,e1,e2,e3⟩:=C.fields hc hM
    have hn:=C.Yt
    refine AY e1 ?_
    have:=RT (D:=D) (F:=F) (b:=b) (rec:=CM M (n+1)) e2 (k:=1) (P:=6) (by omega) (fun t ht=>hrec t (e3 t ht)) (N:=M) (Nat.zero_le _) (by omega) f11 [] (by omega) (by omega) rfl (by simp) (by simp[B4])
    refine Aj.bind this ?_
    rintro⟨f24,l25⟩ ⟨a1,a2,a3,a4,a5⟩
    dsimp only at a1 a2 a3 a4 a5 ⊢
    refine AY rfl (Aj.some ⟨by rw[E4];omega,HK (Cd (by omega) (by omega)) (Cd (by omega) (by omega)) a4 (by omega),by show p≤f24;omega,by show f24≤_;omega⟩)
 ·refine Aj.bind (J7 C hM) fun l hl=>?_
  have hF:=C.fl
  refine Aj.bind (R:=fun t52=>t52=true→0 < t∧0 < l.length) ?_ fun t52 ht52=>?_
  ·refine A0 (fun h=>Aj.some fun h2=>⟨h,by rw[decide_eq_true_eq,AT] at h2;omega⟩) fun _=>Aj.some fun h=>by cases h
  ·refine B2 (fun h=>?_) fun _=>?_
   ·obtain⟨ht0,hl0⟩:=ht52 h
    rw[AT]
    refine Aj.bind (Bu Bb ⟨by omega,by omega⟩) fun q hq=>?_
    have q1:=hq.pos;have q2:=hq.nn;have q3:=hq.lt (by omega)
    refine Aj.get q2 q3 fun c57 _ hc57=>?_
    obtain⟨f,g,y,rfl,hg,hy,hgp,ha⟩:=hl.2 c57 hc57
    have hgm:=List.mem_of_getElem? hg
    have hfl:=(List.getElem?_eq_some_iff.1 hg).1
    have hp3:=C.par g hgm
    refine AY (BB hg) ?_
    have htys :∀x∈g.params,x=0∨x=1∨x=3:=by
     rcases C.cl g hgm with h2 | ⟨h2,h3⟩
     ·exact h2
     ·exfalso
      rw[h2] at hy
      have:y=1:=by simpa using hy.symm
      rw[this,h3,C.arr] at ha
      omega
    obtain⟨m,hm⟩ :∃m,g.params.length=m+1:=⟨g.params.length - 1,by omega⟩
    have:=RY (D:=D) (F:=F) (b:=b) (rec:=CM M (n+1)) hm (by omega) (k:=1) (P:=6) (by omega) (fun t ht=>hrec t (htys t ht)) (N:=M) (Nat.zero_le _) (by omega) q.2 [] (by omega) (by omega) rfl (by simp) (by simp[B4])
    refine Aj.bind this ?_
    rintro⟨f66,l67⟩ ⟨a1,a2,a3,a4,a5⟩
    dsimp only at a1 a2 a3 a4 a5 ⊢
    refine AY rfl (Aj.some ⟨by rw[E4];omega,HK (Cd (by omega) (by omega)) (Cd (by omega) (by omega)) a4 (by omega),by show p≤f66;omega,by show f66≤_;omega⟩)
   ·refine Aj.bind (Kd Bb h0 (by omega)) fun q hq=>AY rfl (Aj.some ⟨?_,EY ⟨by omega,by omega⟩ ⟨by omega,by omega⟩,?_,?_⟩)
    ·rw[E4];simp[B4]
    ·show p≤q.2;omega
    ·show q.2≤_;omega
theorem JB (C:CX D F) {b:List Int} (Bb:Bk b) {M:Nat} (hM:2000000≤M) {vars:List Int} (hv:vars.length≤1000) (t:Int) {p:Int} (h0:0≤p) (h1:p≤500000):Aj (Fh M b p F D vars t) (GE 4 22 p):=by
 unfold Fh
 refine Aj.bind (Ph hv hM) fun l hl=>?_
 refine Aj.bind (R:=fun q:Bool×Int=>(q.1=true→0 < l.length)∧p≤q.2∧q.2≤p+1) ?_ ?_
 ·refine A0 (fun h=>?_) fun _=>Aj.some ⟨(fun h=>by cases h),by show p≤p;omega,by show p≤_;omega⟩
  rw[AT] at h
  refine Aj.bind (Bu Bb ⟨by omega,by omega⟩) fun q hq=>?_
  have q1:=hq.pos
  refine A0 (fun _=>Aj.some ⟨fun _=>by omega,by show p≤q.2;omega,by show q.2≤_;omega⟩) fun _=>?_
  exact Aj.bind (I2 C (by simp) hM) fun _ _=>Aj.some ⟨fun _=>by omega,by show p≤q.2;omega,by show q.2≤_;omega⟩
 ·rintro⟨t6,f7⟩ ⟨g1,g2,g3⟩
  dsimp only at g1 g2 g3 ⊢
  refine B2 (fun h=>?_) fun _=>?_
  ·have hl0:=g1 h
   rw[AT]
   refine Aj.bind (Bu Bb ⟨by omega,by omega⟩) fun q hq=>?_
   have q1:=hq.pos;have q2:=hq.nn;have q3:=hq.lt (by omega)
   refine Aj.get q2 q3 fun c _ hc=>?_
   have:=hl.2 c hc
   refine AY rfl (Aj.some ⟨by rw[E4];simp[B4],EY ⟨by omega,by omega⟩ ⟨by omega,by omega⟩,by show p≤q.2;omega,by show q.2≤_;omega⟩)
  ·unfold JY
   obtain⟨m,rfl⟩ :∃m,M=m+2:=⟨M - 2,by omega⟩
   refine Aj.bind (Rg C Bb hM t m (p:=f7) (by omega) (by omega)) fun q hq=>Aj.some ⟨hq.size,hq.Cu,by have:=hq.lo;show p≤q.2;omega,by have:=hq.hi;show q.2≤_;omega⟩
theorem Ss (C:CX D F) {b:List Int} (Bb:Bk b) {M:Nat} (hM:2000000≤M) {vars:List Int} (hv:vars.length≤1000) {p:Int} (h0:0≤p) (h1:p≤500000):Aj (HV M b p F D vars) fun q=>q.2=p+1:=by
 unfold HV
 refine Aj.bind (Ew Bb ⟨by omega,by omega⟩ (by simp) (by simp)) fun q hq=>?_
 refine Aj.bind (R:=fun _=>True) ?_ fun t6 _=>B2 (fun _=>Aj.some hq.pos) fun _=>Aj.some hq.pos
 refine A0 (fun _=>Aj.some trivial) fun _=>?_
 exact Aj.bind (I2 C hv hM) fun _ _=>Aj.some trivial
theorem RP (C:CX D F) {t:Int} {M:Nat} (hM:2000000≤M):Aj (G7 M ⟨D,F⟩ t) fun l=>l.length≤4∧∀x∈l,0≤x∧x < (F.length:Int):=by
 have hf:=C.fl
 have hf1:=C.Vs
 have L2 :∀(g:Ar),g.params.length≤3→∀{N i:Nat},i≤g.params.length→g.params.length - i < N→∀ok:Bool,Aj (DS M g ⟨D,F⟩ N ok i) fun _=>True:=by
  intro g hg N i hi hN
  refine BX g.params.length (fun N i=>∀ok:Bool,Aj (DS M g ⟨D,F⟩ N ok i) fun _=>True) ?_ ?_ hi hN
  ·intro n ok
   rw[DS,if_neg (by simp[AT])]
   exact Aj.some trivial
  ·intro n i hi ih ok
   obtain⟨y,hy,_⟩:=Bj hi
   rw[DS,if_pos (by rw[decide_eq_true_eq,AT];omega),BI (by omega) (by omega),show ((i:Int) + 1)=((i+1:Nat):Int) by omega]
   refine Aj.bind (R:=fun _=>True) ?_ fun ok _=>ih ok
   refine B2 (fun _=>?_) fun _=>Aj.some trivial
   refine AY (BB hy) (Aj.bind (I2 C (by simp) hM) fun _ _=>Aj.some trivial)
 have key :∀{N i:Nat},i≤F.length→F.length - i < N→∀acc:List Int,acc.length≤i→(∀x∈acc,0≤x∧x < (F.length:Int))→Aj (DW M ⟨D,F⟩ t N i acc) fun l=>l.length≤F.length∧∀x∈l,0≤x∧x < (F.length:Int):=by
  intro N i hi hN
  refine BX F.length (fun N i=>∀acc:List Int,acc.length≤i→(∀x∈acc,0≤x∧x < (F.length:Int))→Aj (DW M ⟨D,F⟩ t N i acc) fun l=>l.length≤F.length∧∀x∈l,0≤x∧x < (F.length:Int)) ?_ ?_ hi hN
  ·intro n acc h1 h2
   rw[DW,if_neg (by simp[AT])]
   exact Aj.some ⟨h1,h2⟩
  ·intro n i hi ih acc h1 h2
   obtain⟨g,hg,hgm⟩:=Bj hi
   have hp:=C.par g hgm
   rw[DW,if_pos (by rw[decide_eq_true_eq,AT];show (i:Int) < (F.length:Int);omega),BI (by omega) (by omega),show ((i:Int) + 1)=((i+1:Nat):Int) by omega]
   refine Aj.bind (R:=fun l=>l.length≤i+1∧∀x∈l,0≤x∧x < (F.length:Int)) ?_ fun l hl=>ih l hl.1 hl.2
   refine AY (BB hg) ?_
   have:=L2 g hp (N:=M) (Nat.zero_le _) (by omega) (decide (g.result=t))
   refine Aj.bind this fun ok _=>?_
   refine B2 (fun _=>?_) fun _=>Aj.some ⟨by omega,h2⟩
   refine Aj.app (by simp;omega) (by simp;omega) (Aj.some ⟨by simp;omega,fun x hx=>?_⟩)
   rcases List.mem_append.1 hx with h3 | h3
   ·exact h2 x h3
   ·rw[List.mem_singleton] at h3;omega
 unfold G7
 have:=key (i:=1) hf1 (by omega:F.length - 1 < M) [] (by simp) (by simp)
 rw[show ((1:Nat):Int)=1 from rfl] at this
 exact Aj.bind this fun l hl=>Aj.some ⟨by omega,hl.2⟩
def Et (d:Nat):Nat:=if d=0 then 4 else 9 * d - 5
def DN (d:Nat):Nat:=if d=0 then 35 else 80 * d - 45
theorem JD {r d n:Nat} (h1:1≤r) (h3:r≤3) (hn:3≤n) (hd:d * r≤n - 1):5+r * Et d≤Et n∧40+r * DN d≤DN n:=by
 have hn0:¬ n=0:=by omega
 unfold Et DN
 rw[if_neg hn0,if_neg hn0]
 obtain rfl | rfl | rfl:r=1∨r=2∨r=3:=by omega
 all_goals
  by_cases h:d=0
  ·rw[if_pos h,if_pos h];omega
  ·rw[if_neg h,if_neg h];omega
theorem N1 (d:Nat):4≤Et d:=by unfold Et;split <;> omega
theorem Na (d:Nat):35≤DN d:=by unfold DN;split <;> omega
theorem XK {d:Nat} (h:d≤20):DN d≤1600:=by unfold DN;split <;> omega
abbrev Rv:=List Int→Int→List Ar→List Ac→List Int→Int→Int→Option (AP×Int)
def RG (b:List Int) (D:List Ac) (F:List Ar) (rec:Rv) (n:Nat):Prop:=
 ∀(d:Nat) (vars:List Int) (t p:Int),d < n→d≤20→vars.length+3 * d≤400→0≤p→p+(DN d:Int)≤400000→Aj (rec b p F D vars t (d:Int)) (GE (Et d) (DN d) p)
structure GL (m k P:Nat) (p:Int) (q:List AP×Int):Prop where
 len:q.1.length=m
 size:B4 q.1≤k
 Cu :∀e∈q.1,A2 e
 lo:p≤q.2
 hi:q.2≤p+P
theorem Va (a b:Nat):Int.tdiv (a:Int) (b:Int)=((a / b:Nat):Int):=rfl
theorem TH {a b:Nat} (hb:b≠0) (ha:a≤1000000):Sh.quo (a:Int) (b:Int)=some ((a / b:Nat):Int):=by
 have h:=Nat.div_le_self a b
 rw[Us (by omega),Va]
 generalize a / b=c at h ⊢
 rw[BI (by omega) (by omega)]
theorem PH {b:List Int} {rec:Rv} {n:Nat} (R:RG b D F rec n) {vars types:List Int} (ht:types.length≤3) {bud:Nat} (hb:bud≤20) {d:Nat} (hd:types.length≠0→bud / types.length=d) (hdn:d < n) (hd20:d≤20) (hv:vars.length+3 * d≤400) {M:Nat} (hM:2000000≤M) {p:Int} (h0:0≤p) (h1:p+(types.length * DN d:Nat)≤400000) :
  Aj (EZ M rec b p F D vars types (bud:Int)) (GL types.length (types.length * Et d) (types.length * DN d) p):=by
 have key :∀{N i:Nat},i≤types.length→types.length - i < N→∀(q:Int) (acc:List AP),p≤q→q≤p+(i * DN d:Nat)→acc.length=i→(∀e∈acc,A2 e)→B4 acc≤i * Et d→
   Aj (EB b F D vars types (bud:Int) rec N i q acc) fun r=>p≤r.1∧r.1≤p+(types.length * DN d:Nat)∧r.2.length=types.length∧(∀e∈r.2,A2 e)∧B4 r.2≤types.length * Et d:=by
  intro N i hi hN
  refine BX types.length (fun N i=>∀(q:Int) (acc:List AP),p≤q→q≤p+(i * DN d:Nat)→acc.length=i→(∀e∈acc,A2 e)→B4 acc≤i * Et d→
   Aj (EB b F D vars types (bud:Int) rec N i q acc) fun r=>p≤r.1∧r.1≤p+(types.length * DN d:Nat)∧r.2.length=types.length∧(∀e∈r.2,A2 e)∧B4 r.2≤types.length * Et d) ?_ ?_ hi hN
  ·intro n q acc g1 g2 g3 g4 g5
   rw[EB,if_neg (by simp[AT])]
   exact Aj.some ⟨g1,g2,g3,g4,g5⟩
  ·intro n i hi ih q acc g1 g2 g3 g4 g5
   obtain⟨t,ht',_⟩:=Bj hi
   have e2:(i+1) * DN d=i * DN d+DN d:=by rw[Nat.add_mul];omega
   have e3:(i+1) * Et d=i * Et d+Et d:=by rw[Nat.add_mul];omega
   have e4:(i+1) * DN d≤types.length * DN d:=Nat.mul_le_mul_right _ hi
   rw[EB,if_pos (by rw[decide_eq_true_eq,AT];omega),BI (n:=(i:Int) + 1) (by omega) (by omega),show ((i:Int) + 1)=((i+1:Nat):Int) by omega]
   refine AY (BB ht') ?_
   rw[AT]
   refine AY (TH (by omega) (by omega)) ?_
   rw[hd (by omega)]
   refine Aj.bind (R d vars t q hdn hd20 hv (by omega) (by omega)) fun r hr=>?_
   have r1:=hr.lo;have r2:=hr.hi;have r3:=hr.size
   refine Aj.app (by simp;omega) (by simp;omega) ?_
   refine ih r.2 (acc ++ [r.1]) (by omega) (by omega) (by simp;omega) (fun e he=>?_) (by rw[HS,FX];omega)
   rcases List.mem_append.1 he with h5 | h5
   ·exact g4 e h5
   ·rw[List.mem_singleton] at h5;rw[h5];exact hr.Cu
 unfold EZ
 have:=key (Nat.zero_le _) (by omega:types.length - 0 < M) p [] (by omega) (by omega) rfl (by simp) (by simp[B4])
 rw[show ((0:Nat):Int)=0 from rfl] at this
 refine Aj.bind this ?_
 rintro⟨f,l⟩ ⟨a1,a2,a3,a4,a5⟩
 exact Aj.some ⟨a3,a5,a4,a1,a2⟩
theorem SA {r d n P:Nat} {p q0:Int} {o m:Int} {l:List AP} {q:Int} (ho:-1000000≤o∧o≤1000000) (hm:-1000000≤m∧m≤1000000) (h3:r≤3) (hn:3≤n) (hd:d * r≤n - 1) (hq:p≤q0∧q0≤p+P) (hP:P≤40) (g:GL r (r * Et d) (r * DN d) q0 (l,q)):GE (Et n) (DN n) p (⟨o,m,l⟩,q):=by
 have s1:=g.size;have s2:=g.lo;have s3:=g.hi;have s4:=g.len
 dsimp only at s1 s2 s3 s4
 have hn1:=N1 n
 have hn2:=Na n
 refine⟨?_,HK (Cd ho.1 ho.2) (Cd hm.1 hm.2) g.Cu (by omega),by show p≤q;omega,?_⟩
 ·rw[E4]
  rcases Nat.eq_zero_or_pos r with rfl | hr
  ·omega
  ·have:=(JD (d:=d) hr h3 hn hd).1;omega
 ·show q≤_
  rcases Nat.eq_zero_or_pos r with rfl | hr
  ·have:40≤DN n:=by unfold DN;rw[if_neg (by omega)];omega
   omega
  ·have:=(JD (d:=d) hr h3 hn hd).2;omega
end
end RC



namespace RC
open Go
section
variable {D : List Ac} {F : List Ar}
theorem OY (C:CX D F) {b:List Int} {rec:Rv} {n:Nat} (R:RG b D F rec n) {vars:List Int} (hn3:3≤n) (hn:n≤20) (hv:vars.length+3 * n≤400) {t d0:Int} {r d:Nat} (hr:(C7 D d0).length=r) (hd:r≠0→(n - 2) / r=d) (hdn:d+1≤n) {M:Nat} (hM:2000000≤M) {p:Int} (h0:0≤p) (h1:p+(r * DN d:Nat)≤400000) {k0:Nat} {e0:AP} (hk0:en e0≤k0) (he0:A2 e0) :
  Aj (Cv M b F D vars t (n:Int) (C7 D d0) rec M 0 p [e0]) fun q=>p≤q.1∧q.1≤p+(r * DN d:Nat)∧q.2.length=r+1∧(∀e∈q.2,A2 e)∧B4 q.2≤k0+r * Et d:=by
 have hr3:=C.Pv d0
 have key :∀{N i:Nat},i≤(C7 D d0).length→(C7 D d0).length - i < N→∀(q:Int) (acc:List AP),p≤q→q≤p+(i * DN d:Nat)→acc.length=i+1→(∀e∈acc,A2 e)→B4 acc≤k0+i * Et d→
   Aj (Cv M b F D vars t (n:Int) (C7 D d0) rec N i q acc) fun q=>p≤q.1∧q.1≤p+(r * DN d:Nat)∧q.2.length=r+1∧(∀e∈q.2,A2 e)∧B4 q.2≤k0+r * Et d:=by
  intro N i hi hN
  refine BX (C7 D d0).length (fun N i=>∀(q:Int) (acc:List AP),p≤q→q≤p+(i * DN d:Nat)→acc.length=i+1→(∀e∈acc,A2 e)→B4 acc≤k0+i * Et d→
   Aj (Cv M b F D vars t (n:Int) (C7 D d0) rec N i q acc) fun q=>p≤q.1∧q.1≤p+(r * DN d:Nat)∧q.2.length=r+1∧(∀e∈q.2,A2 e)∧B4 q.2≤k0+r * Et d) ?_ ?_ hi hN
  ·intro m q acc g1 g2 g3 g4 g5
   rw[Cv,if_neg (by simp[AT])]
   subst hr
   exact Aj.some ⟨g1,g2,g3,g4,g5⟩
  ·intro m i hi ih q acc g1 g2 g3 g4 g5
   obtain⟨c,hc,hcm⟩:=Bj hi
   obtain⟨cn,rfl,hcn⟩:=MA _ hcm
   obtain⟨fl,e1,e2',_⟩:=C.fields hcn hM
   have e2:(i+1) * DN d=i * DN d+DN d:=by rw[Nat.add_mul];omega
   have e3:(i+1) * Et d=i * Et d+Et d:=by rw[Nat.add_mul];omega
   have e4:(i+1) * DN d≤r * DN d:=Nat.mul_le_mul_right _ (by omega)
   rw[Cv,if_pos (by rw[decide_eq_true_eq,AT];omega),BI (n:=(i:Int) + 1) (by omega) (by omega),show ((i:Int) + 1)=((i+1:Nat):Int) by omega]
   refine AY (BB hc) (AY e1 (AY (G8 (by omega) (by omega)) ?_))
   rw[AT,BI (n:=(n:Int) - 2) (by omega) (by omega),show ((n:Int) - 2)=((n - 2:Nat):Int) by omega]
   refine AY (TH (by omega) (by omega)) ?_
   rw[hr,hd (by omega)]
   refine Aj.bind (R d (vars ++ fl) t q (by omega) (by omega) (by rw[List.length_append];omega) (by omega) (by omega)) fun s hs=>?_
   have r1:=hs.lo;have r2:=hs.hi;have r3:=hs.size
   refine Aj.app (by simp;omega) (by simp;omega) ?_
   refine ih s.2 (acc ++ [s.1]) (by omega) (by omega) (by simp;omega) (fun e he=>?_) (by rw[HS,FX];omega)
   rcases List.mem_append.1 he with h5 | h5
   ·exact g4 e h5
   ·rw[List.mem_singleton] at h5;rw[h5];exact hs.Cu
 have:=key (Nat.zero_le _) (by omega:(C7 D d0).length - 0 < M) p [e0] (by omega) (by omega) rfl (fun e he=>by rw[List.mem_singleton] at he;rw[he];exact he0) (by rw[FX];omega)
 rw[show ((0:Nat):Int)=0 from rfl] at this
 exact this
theorem Kp (a r:Nat):a / r * r≤a:=Nat.div_mul_le_self a r
theorem RL (C:CX D F) {b:List Int} (Bb:Bk b) {rec:Rv} {n:Nat} (R:RG b D F rec n) {vars:List Int} (hn3:3≤n) (hn:n≤20) (hv:vars.length+3 * n≤400) {t:Int} {M:Nat} (hM:2000000≤M) {p0 p:Int} (h0:0≤p0) (hp:p0≤p∧p≤p0+1) (h1:p0+(DN n:Int)≤400000) :
  Aj (G9 M rec b p F D vars t (n:Int)) (GE (Et n) (DN n) p0):=by
 have hpk:=Na n
 unfold G9
 refine Aj.bind (Ew Bb ⟨by omega,by omega⟩ (by simp) (by simp)) fun q hq=>?_
 have q1:=hq.pos
 have q2:=hq.mem
 simp only[List.mem_cons,List.not_mem_nil,or_false] at q2
 refine Aj.bind (R:=fun d=>0≤d∧d≤4) ?_ fun d0 hd0=>?_
 ·refine Aj.bind (R:=fun _=>True) ?_ fun t32 _=>B2 (fun _=>Aj.some (by decide)) fun _=>Aj.some (by omega)
  refine A0 (fun _=>Aj.some trivial) fun _=>?_
  exact AY (HF C.Ty) (Aj.some trivial)
 refine AY (C.Pt hM) ?_
 refine Aj.bind (JB C Bb hM (by omega) d0 (p:=q.2) (by omega) (by omega)) fun lf hlf=>?_
 have l1:=hlf.lo;have l2:=hlf.hi;have l3:=hlf.size
 obtain⟨r,hr⟩ :∃r,(C7 D d0).length=r:=⟨_,rfl⟩
 have hr3:=C.Pv d0
 obtain⟨d,hd⟩ :∃d,d=(n - 2) / r:=⟨_,rfl⟩
 have hdr:d * r≤n - 2:=by rw[hd];exact Kp _ _
 have hdn:d≤n - 2:=by rw[hd];exact Nat.div_le_self _ _
 have hn1:=N1 n
 have fit:5+r * Et d≤Et n∧35+r * DN d≤DN n:=by
  rcases Nat.eq_zero_or_pos r with h | h
  ·rw[h]
   constructor
   ·have:5≤Et n:=by unfold Et;rw[if_neg (by omega)];omega
    omega
   ·omega
  ·have:=JD (d:=d) h (by omega) hn3 (by omega)
   omega
 have:=OY (t:=t) C R hn3 hn hv (r:=r) (d:=d) hr (fun _=>hd.symm) (by omega) hM (p:=lf.2) (by omega) (by omega) (k0:=4) l3 hlf.Cu
 refine Aj.bind this ?_
 rintro⟨f16,l17⟩ ⟨a1,a2,a3,a4,a5⟩
 dsimp only at a1 a2 a3 a4 a5 ⊢
 exact AY rfl (Aj.some ⟨by rw[E4];omega,HK (Cd (by omega) (by omega)) (Cd (by omega) (by omega)) a4 (by omega),by show p0≤f16;omega,by show f16≤_;omega⟩)
theorem RR (C:CX D F) {b:List Int} (Bb:Bk b) {rec:Rv} {n:Nat} (R:RG b D F rec n) {vars:List Int} (hn3:3≤n) (hn:n≤20) (hv:vars.length+3 * n≤400) {t:Int} {M:Nat} (hM:2000000≤M) {p0 p:Int} (h0:0≤p0) (hp:p0≤p∧p≤p0+1) (h1:p0+(DN n:Int)≤400000) :
  Aj (G5 M rec b p F D vars t (n:Int)) (GE (Et n) (DN n) p0):=by
 have hpk:=Na n
 have hn1:=N1 n
 have hdl:=C.dl
 have fit1:5+Et (n - 2)≤Et n∧40+DN (n - 2)≤DN n:=by
  have:=JD (r:=1) (d:=n - 2) (n:=n) (by omega) (by omega) hn3 (by omega)
  omega
 unfold G5
 refine Aj.cont (R:=GE (Et n) (DN n) p0) (S:=fun f=>p0≤f∧f≤p0+2) ?_ (fun r hr=>hr) fun f3 hf3=>?_
 ·refine Aj.bind (Bu Bb ⟨by omega,by omega⟩) fun q34 hq=>?_
  have q1:=hq.pos
  refine A0 (fun _=>?_) fun _=>Aj.some (by show p0≤q34.2∧q34.2≤_;omega)
  have L1 :∀{N i:Nat},i≤5→5 - i < N→1≤i→Aj (DY M b F D vars t (n:Int) q34 rec N i) fun v=>match v with | .inl r=>GE (Et n) (DN n) p0 r | .inr _=>True:=by
   intro N i hi hN
   refine BX 5 (fun N i=>1≤i→Aj (DY M b F D vars t (n:Int) q34 rec N i) fun v=>match v with | .inl r=>GE (Et n) (DN n) p0 r | .inr _=>True) ?_ ?_ hi hN
   ·intro m _
    rw[DY,if_neg (by rw[decide_eq_true_eq,AT];omega)]
    exact Aj.some trivial
   ·intro m i hi ih h1i
    rw[DY]
    refine A0 (fun hle=>?_) fun _=>Aj.some trivial
    rw[AT] at hle
    obtain⟨dd,hdd,_⟩:=Bj (l:=D) (i:=i - 1) (by omega)
    rw[BI (n:=(i:Int) - 1) (by omega) (by omega),show ((i:Int) - 1)=((i - 1:Nat):Int) by omega,BI (n:=(i:Int) + 1) (by omega) (by omega),show ((i:Int) + 1)=((i+1:Nat):Int) by omega,BI (n:=(n:Int) - 2) (by omega) (by omega),show ((n:Int) - 2)=((n - 2:Nat):Int) by omega]
    refine Aj.bind (R:=fun _=>True) ?_ fun t45 _=>B2 (fun _=>?_) fun _=>ih (by omega)
    ·refine AY (HF C.Ty) (B2 (fun _=>?_) fun _=>Aj.some trivial)
     refine AY (BB hdd) (A0 (fun _=>?_) fun _=>Aj.some trivial)
     exact Aj.bind (I2 C (by omega) hM) fun _ _=>Aj.some trivial
    ·refine Aj.bind (JB C Bb hM (by omega) i (p:=q34.2) (by omega) (by omega)) fun lf hlf=>?_
     have l1:=hlf.lo;have l2:=hlf.hi;have l3:=hlf.size
     refine AY (BB hdd) ?_
     refine Aj.bind (R (n - 2) vars dd.from_ lf.2 (by omega) (by omega) (by omega) (by omega) (by omega)) fun s hs=>?_
     have r1:=hs.lo;have r2:=hs.hi;have r3:=hs.size
     refine AY rfl (Aj.some (show GE (Et n) (DN n) p0 _ from ⟨?_,HK (Cd (by omega) (by omega)) (Cd (by omega) (by omega)) (fun e he=>?_) (by simp),by show p0≤s.2;omega,by show s.2≤_;omega⟩))
     ·rw[E4];simp only[B4];omega
     ·simp only[List.mem_cons,List.not_mem_nil,or_false] at he
      rcases he with rfl | rfl
      ·exact hlf.Cu
      ·exact hs.Cu
  have l1:=L1 (N:=M) (i:=1) (by omega) (by omega) (by omega)
  rw[show ((1:Nat):Int)=1 from rfl] at l1
  refine Aj.cont (R:=GE (Et n) (DN n) p0) (S:=fun _=>True) ?_ (fun r hr=>hr) fun _ _=>Aj.some (by show p0≤q34.2∧q34.2≤_;omega)
  exact l1.mono fun v hv=>by cases v <;> exact hv
 ·refine AY (C.Pt hM) ?_
  have hc3:=C.Pv t
  have ga :∀(types:List Int) (q:Int) (o m:Int),types.length≤3→p0≤q→q≤p0+10→-1000000≤o∧o≤1000000→-1000000≤m∧m≤1000000→
    Aj (Option.bind (EZ M rec b q F D vars types (Sh.w ((n:Int) - 1))) fun q15=>Option.bind (BQ o m q15.1) fun q16=>some (q16,q15.2)) (GE (Et n) (DN n) p0):=by
   intro types q o m ht g1 g2 ho hm
   rw[BI (n:=(n:Int) - 1) (by omega) (by omega),show ((n:Int) - 1)=((n - 1:Nat):Int) by omega]
   obtain⟨d,hd⟩ :∃d,d=(n - 1) / types.length:=⟨_,rfl⟩
   have hdr:d * types.length≤n - 1:=by rw[hd];exact Kp _ _
   have hdn:d≤n - 1:=by rw[hd];exact Nat.div_le_self _ _
   have hfit:0 < types.length→40+types.length * DN d≤DN n:=fun h=>(JD (d:=d) h ht hn3 hdr).2
   have hle:(types.length * DN d:Nat)≤DN n:=by
    rcases Nat.eq_zero_or_pos types.length with h | h
    ·rw[h];omega
    ·have:=hfit h;omega
   have hle2:q+(types.length * DN d:Nat)≤400000:=by
    rcases Nat.eq_zero_or_pos types.length with h | h
    ·rw[h];omega
    ·have:=hfit h;omega
   refine Aj.bind (PH R ht (bud:=n - 1) (by omega) (d:=d) (fun _=>hd.symm) (by omega) (by omega) (by omega) hM (p:=q) (by omega) hle2) ?_
   rintro⟨l,q'⟩ g
   exact AY rfl (Aj.some (SA (P:=10) ho hm ht hn3 hdr ⟨g1,g2⟩ (by omega) g))
  refine A0 (fun hpos=>?_) fun _=>?_
  ·rw[AT] at hpos ⊢
   refine Aj.bind (Bu Bb ⟨by omega,by omega⟩) fun q hq=>?_
   have q1:=hq.pos;have q2:=hq.nn;have q3:=hq.lt (by omega)
   refine Aj.get q2 q3 fun c12 _ hc12=>?_
   obtain⟨c,rfl,hc⟩:=MA _ hc12
   obtain⟨fl,e1,e2,_⟩:=C.fields hc hM
   have hnc:=C.Yt
   exact AY e1 (ga fl q.2 6 c e2 (by omega) (by omega) (by omega) (by omega))
  ·refine A0 (fun _=>?_) fun _=>?_
   ·refine Aj.bind (JB C Bb hM (by omega) t (p:=f3) (by omega) (by omega)) fun lf hlf=>Aj.some ⟨by have:=hlf.size;show en lf.1≤_;omega,hlf.Cu,by have:=hlf.lo;show p0≤lf.2;omega,by have:=hlf.hi;show lf.2≤_;omega⟩
   ·refine Aj.bind (Bu Bb ⟨by omega,by omega⟩) fun q hq=>?_
    have q1:=hq.pos
    refine A0 (fun _=>ga [0] q.2 5 0 (by simp) (by omega) (by omega) (by omega) (by omega)) fun _=>?_
    refine Aj.bind (Ew Bb ⟨by omega,by omega⟩ (by simp) (by simp)) fun q30 hq30=>?_
    have o1:=hq30.pos
    have o2:=hq30.mem
    simp only[List.mem_cons,List.not_mem_nil,or_false] at o2
    exact ga [0,0] q30.2 q30.1 0 (by simp) (by omega) (by omega) (by omega) (by omega)
theorem T9 (C:CX D F) {b:List Int} (Bb:Bk b) {rec:Rv} {n:Nat} (R:RG b D F rec n) {vars:List Int} (hn:n≤20) (hv:vars.length+3 * n≤400) {t:Int} {M:Nat} (hM:2000000≤M) {p:Int} (h0:0≤p) (h1:p+(DN n:Int)≤400000) :
  Aj (Ii M rec b p F D vars t (n:Int)) (GE (Et n) (DN n) p):=by
 have hpk:=Na n
 have hn1:=N1 n
 unfold Ii
 refine A0 (fun _=>?_) fun hn3'=>?_
 ·refine Aj.bind (JB C Bb hM (by omega) t (p:=p) (by omega) (by omega)) fun lf hlf=>Aj.some ⟨by have:=hlf.size;show en lf.1≤_;omega,hlf.Cu,hlf.lo,by have:=hlf.hi;show lf.2≤_;omega⟩
 have hn3:3≤n:=by omega
 refine Aj.cont (R:=GE (Et n) (DN n) p) (S:=fun f=>p≤f∧f≤p+1) ?_ (fun r hr=>hr) fun f8 hf8=>?_
 ·refine Aj.bind (Bu Bb ⟨by omega,by omega⟩) fun q hq=>?_
  have q1:=hq.pos
  refine A0 (fun _=>?_) fun _=>?_
  ·refine Aj.bind (JB C Bb hM (by omega) t (p:=q.2) (by omega) (by omega)) fun lf hlf=>Aj.some (show GE (Et n) (DN n) p _ from ⟨by have:=hlf.size;show en lf.1≤_;omega,hlf.Cu,by have:=hlf.lo;show p≤lf.2;omega,by have:=hlf.hi;show lf.2≤_;omega⟩)
  refine Aj.bind (R:=fun _=>True) ?_ fun t19 _=>B2 (fun _=>?_) fun _=>?_
  ·exact A0 (fun _=>Aj.some trivial) fun _=>Aj.some trivial
  ·have ed:Int.tdiv (n:Int) 2=((n / 2:Nat):Int):=rfl
   have fit:2 * Et (n / 2) + 1≤Et n∧2 * DN (n / 2) + 2≤DN n:=by
    have hd0:¬ n / 2=0:=by omega
    have hn0:¬ n=0:=by omega
    unfold Et DN
    rw[if_neg hd0,if_neg hn0,if_neg hd0,if_neg hn0]
    omega
   rw[ed]
   have hd:=Nat.div_le_self n 2
   have hd2:n / 2+1≤n:=by omega
   generalize n / 2=d at hd hd2 fit ⊢
   rw[BI (n:=(d:Int)) (by omega) (by omega)]
   refine Aj.bind (Ss C Bb hM (by omega) (p:=q.2) (by omega) (by omega)) fun q23 hq23=>?_
   refine Aj.bind (R d vars q23.1 q23.2 (by omega) (by omega) (by omega) (by omega) (by omega)) fun s hs=>?_
   have r1:=hs.lo;have r2:=hs.hi;have r3:=hs.size
   refine AY (G8 (by omega) (by simp)) ?_
   refine Aj.bind (R d (vars ++ [q23.1]) t s.2 (by omega) (by omega) (by simp;omega) (by omega) (by omega)) fun u hu=>?_
   have u1:=hu.lo;have u2:=hu.hi;have u3:=hu.size
   refine AY rfl (Aj.some (show GE (Et n) (DN n) p _ from ⟨?_,HK (Cd (by omega) (by omega)) (Cd (by omega) (by omega)) (fun e he=>?_) (by simp),by show p≤u.2;omega,by show u.2≤_;omega⟩))
   ·rw[E4];simp only[B4];omega
   ·simp only[List.mem_cons,List.not_mem_nil,or_false] at he
    rcases he with rfl | rfl
    ·exact hs.Cu
    ·exact hu.Cu
  have ga :∀(types:List Int) (q:Int) (o m:Int),types.length≤3→p≤q→q≤p+10→-1000000≤o∧o≤1000000→-1000000≤m∧m≤1000000→
    Aj (Option.bind (EZ M rec b q F D vars types (Sh.w ((n:Int) - 1))) fun q15=>Option.bind (BQ o m q15.1) fun q16=>some (Sum.inl (q16,q15.2))) fun v:(AP×Int) ⊕ Int=>match v with | .inl r=>GE (Et n) (DN n) p r | .inr f=>p≤f∧f≤p+1:=by
   intro types q o m ht g1 g2 ho hm
   rw[BI (n:=(n:Int) - 1) (by omega) (by omega),show ((n:Int) - 1)=((n - 1:Nat):Int) by omega]
   obtain⟨d,hd⟩ :∃d,d=(n - 1) / types.length:=⟨_,rfl⟩
   have hdr:d * types.length≤n - 1:=by rw[hd];exact Kp _ _
   have hdn:d≤n - 1:=by rw[hd];exact Nat.div_le_self _ _
   have hfit:0 < types.length→40+types.length * DN d≤DN n:=fun h=>(JD (d:=d) h ht hn3 hdr).2
   have hle2:q+(types.length * DN d:Nat)≤400000:=by
    rcases Nat.eq_zero_or_pos types.length with h | h
    ·rw[h];omega
    ·have:=hfit h;omega
   refine Aj.bind (PH R ht (bud:=n - 1) (by omega) (d:=d) (fun _=>hd.symm) (by omega) (by omega) (by omega) hM (p:=q) (by omega) hle2) ?_
   rintro⟨l,q'⟩ g
   exact AY rfl (Aj.some (SA (P:=10) ho hm ht hn3 hdr ⟨g1,g2⟩ (by omega) g))
  refine A0 (fun _=>(ga [0,t,t] q.2 7 0 (by simp) (by omega) (by omega) (by omega) (by omega)).mono fun v hv=>by cases v <;> exact hv) fun _=>?_
  refine Aj.bind (R:=fun _=>True) ?_ fun t35 _=>B2 (fun _=>?_) fun _=>?_
  ·exact A0 (fun _=>Aj.some trivial) fun _=>A0 (fun _=>Aj.some trivial) fun _=>Aj.some trivial
  ·exact Aj.bind (RL C Bb R hn3 hn hv hM h0 (p:=q.2) (by omega) h1) fun r hr=>Aj.some (show GE (Et n) (DN n) p _ from hr)
  refine Aj.bind (R:=fun _=>True) ?_ fun t41 _=>B2 (fun _=>?_) fun _=>Aj.some (by show p≤q.2∧q.2≤_;omega)
  ·exact A0 (fun _=>Aj.some trivial) fun _=>Aj.some trivial
  refine Aj.bind (RP C hM) fun l hl=>?_
  refine A0 (fun hpos=>?_) fun _=>Aj.some (by show p≤q.2∧q.2≤_;omega)
  rw[AT] at hpos ⊢
  refine Aj.bind (Bu Bb ⟨by omega,by omega⟩) fun q49 hq49=>?_
  have a1:=hq49.pos;have a2:=hq49.nn;have a3:=hq49.lt (by omega)
  refine Aj.get a2 a3 fun c50 _ hc50=>?_
  obtain⟨b0,b1⟩:=hl.2 c50 hc50
  refine Aj.get b0 b1 fun g _ hg=>?_
  have hF:=C.fl
  exact (ga g.params q49.2 9 c50 (C.par g hg) (by omega) (by omega) (by omega) (by omega)).mono fun v hv=>by cases v <;> exact hv
 ·exact Aj.bind (RR C Bb R hn3 hn hv hM h0 hf8 h1) fun r hr=>Aj.some hr
theorem Qc (C:CX D F) {b:List Int} (Bb:Bk b) {M:Nat} (hM:2000000≤M) :∀n:Nat,RG b D F (Gx M n) n
 | 0=>fun d _ _ _ hd=>absurd hd (by omega)
 | n+1=>fun d vars t p hd h20 hv h0 h1=>by
  rw[Gx]
  have R:RG b D F (Gx M n) d:=fun d' vars' t' p' hd'=>Qc C Bb hM n d' vars' t' p' (by omega)
  exact T9 C Bb R h20 hv hM h0 h1
theorem Gy (C:CX D F) {b:List Int} (Bb:Bk b) {M:Nat} (hM:2000000≤M) {d:Nat} (hd:d≤20) {vars:List Int} (hv:vars.length≤100) (t:Int) {p:Int} (h0:0≤p) (h1:p≤300000):Aj (FG M b p F D vars t (d:Int)) (GE (Et d) (DN d) p):=by
 have:=XK hd
 exact Qc C Bb hM M d vars t p (by omega) hd (by omega) h0 (by omega)
end
end RC



namespace RC
open Go
section
variable {D : List Ac} {F : List Ar}
structure GQ (k P:Nat) (p:Int) (q:Int×Int×Int×List AP):Prop where
 size:en ⟨q.2.1,q.2.2.1,q.2.2.2⟩≤k
 Cu:A2 ⟨q.2.1,q.2.2.1,q.2.2.2⟩
 lo:p≤q.1
 hi:q.1≤p+P
theorem GE.parts {k P:Nat} {p:Int} {q:AP×Int} (h:GE k P p q):GQ k P p (q.2,q.1.op,q.1.num,q.1.kids):=by
 obtain⟨e,f⟩:=q
 cases e
 exact⟨h.size,h.Cu,h.lo,h.hi⟩
theorem Qw (o n:Int) (a b:AP):en ⟨o,n,[a,b]⟩=1+en a+en b:=by rw[E4];simp only[B4];omega
theorem VU (o n:Int) (a b c:AP):en ⟨o,n,[a,b,c]⟩=1+en a+en b+en c:=by rw[E4];simp only[B4];omega
theorem IP (o n:Int):en ⟨o,n,[]⟩=1:=by rw[E4];simp[B4]
theorem Q4 {o n:Int} {a b:AP} (ho:-1000000≤o∧o≤1000000) (hn:-1000000≤n∧n≤1000000) (ha:A2 a) (hb:A2 b):A2 ⟨o,n,[a,b]⟩:=
 HK (Cd ho.1 ho.2) (Cd hn.1 hn.2) (fun e he=>by simp only[List.mem_cons,List.not_mem_nil,or_false] at he;rcases he with rfl | rfl <;> assumption) (by simp)
theorem VE {o n:Int} {a b c:AP} (ho:-1000000≤o∧o≤1000000) (hn:-1000000≤n∧n≤1000000) (ha:A2 a) (hb:A2 b) (hc:A2 c):A2 ⟨o,n,[a,b,c]⟩:=
 HK (Cd ho.1 ho.2) (Cd hn.1 hn.2) (fun e he=>by simp only[List.mem_cons,List.not_mem_nil,or_false] at he;rcases he with rfl | rfl | rfl <;> assumption) (by simp)
theorem aD {o n:Int} {a:AP} (ho:-1000000≤o∧o≤1000000) (hn:-1000000≤n∧n≤1000000) (ha:A2 a):A2 ⟨o,n,[a]⟩:=
 HK (Cd ho.1 ho.2) (Cd hn.1 hn.2) (fun e he=>by rw[List.mem_singleton] at he;rw[he];exact ha) (by simp)
theorem Sj {b:List Int} (Bb:Bk b) {M:Nat} (hM:2000000≤M) (t:Int) {p:Int} (h0:0≤p) (h1:p≤500000):Aj (HO M b p t) (GE 20 20 p):=by
 unfold HO
 have li :∀n:Int,0≤n→n≤100→A2 ⟨0,n,[]⟩:=fun n a c=>EY ⟨by omega,by omega⟩ ⟨by omega,by omega⟩
 refine AY rfl ?_
 refine A0 (fun _=>?_) fun _=>?_
 ·refine AY rfl ?_
  refine Aj.bind (Bu Bb ⟨by omega,by omega⟩) fun q hq=>?_
  have q1:=hq.pos;have q2:=hq.nn;have q3:=hq.lt (by omega)
  refine AY rfl (AY rfl ?_)
  refine Aj.bind (Bu Bb ⟨by omega,by omega⟩) fun s hs=>?_
  have s1:=hs.pos;have s2:=hs.nn;have s3:=hs.lt (by omega)
  have l6:A2 ⟨6,2,[]⟩:=EY ⟨by omega,by omega⟩ ⟨by omega,by omega⟩
  refine AY rfl (AY rfl (Aj.some ⟨?_,?_,by show p≤s.2;omega,by show s.2≤_;omega⟩))
  ·rw[VU,VU,IP,IP,IP];omega
  ·exact VE ⟨by omega,by omega⟩ ⟨by omega,by omega⟩ (VE ⟨by omega,by omega⟩ ⟨by omega,by omega⟩ l6 (li _ q2 (by omega)) l6) (li _ s2 (by omega)) l6
 ·refine Aj.bind (Bu Bb ⟨by omega,by omega⟩) fun q hq=>?_
  have q1:=hq.pos;have q2:=hq.nn;have q3:=hq.lt (by omega)
  have key :∀(n:Nat) (N:Nat) (f o m:Int) (k:List AP),n < N→n≤3→p≤f→f+4 * n≤p+13→A2 ⟨o,m,k⟩→en ⟨o,m,k⟩ + 2 * n≤7→Aj (EK b N n f o m k) (GQ 20 20 p):=by
   intro n
   induction n with
   | zero=>
    intro N f o m k hN _ g1 g2 g3 g4
    obtain⟨N,rfl⟩ :∃m,N=m+1:=⟨N - 1,by omega⟩
    rw[EK,if_neg (by simp)]
    exact Aj.some ⟨by show en ⟨o,m,k⟩≤20;omega,g3,g1,by show f≤_;omega⟩
   | succ n ih=>
    intro N f o m k hN hn g1 g2 g3 g4
    obtain⟨N,rfl⟩ :∃m,N=m+1:=⟨N - 1,by omega⟩
    rw[EK,if_pos (by rw[decide_eq_true_eq];omega)]
    refine Aj.bind (Kd Bb (by omega) (by omega)) fun s hs=>?_
    refine AY rfl (AY rfl ?_)
    rw[BI (by omega) (by omega),show (((n+1:Nat):Int) - 1)=(n:Int) by omega]
    refine ih N s.2 6 1 _ (by omega) (by omega) (by omega) (by omega) (Q4 ⟨by omega,by omega⟩ ⟨by omega,by omega⟩ (EY ⟨by omega,by omega⟩ ⟨by omega,by omega⟩) g3) ?_
    show en ⟨6,1,[⟨0,s.1,[]⟩,⟨o,m,k⟩]⟩ + 2 * n≤7
    rw[Qw,IP];omega
  obtain⟨n,hn⟩:=Int.eq_ofNat_of_zero_le q2
  have h3:=key (n+1) M q.2 6 0 [] (by omega) (by omega) (by omega) (by omega) (EY ⟨by omega,by omega⟩ ⟨by omega,by omega⟩) (by rw[IP];omega)
  rw[BI (by omega) (by omega),hn,show (1+(n:Int))=((n+1:Nat):Int) by omega]
  refine Aj.bind h3 ?_
  rintro⟨f,o,m,k⟩ g
  exact Aj.some ⟨g.size,g.Cu,g.lo,g.hi⟩
theorem Tm:Et 4=31:=rfl
theorem UO:DN 4=275:=rfl
theorem Z6:Et 3=22:=rfl
theorem Z5:DN 3=195:=rfl
theorem Xq:Et 16=139:=rfl
theorem ZJ:DN 16=1235:=rfl
theorem RI (C:CX D F) {b:List Int} (Bb:Bk b) {M:Nat} (hM:2000000≤M) {p:Int} (h0:0≤p) (h1:p≤200000):Aj (Gu M b p F D) (GE 1000 3000 p):=by
 unfold Gu
 refine Aj.bind (Ew Bb ⟨by omega,by omega⟩ (by simp) (by simp)) fun q hq=>?_
 have q1:=hq.pos
 refine Aj.bind (Gy C Bb hM (d:=16) (by omega) (vars:=[q.1]) (by simp) 0 (p:=q.2) (by omega) (by omega)) fun g hg=>?_
 have g1:=hg.size;have g2:=hg.lo;have g3:=hg.hi
 rw[Xq] at g1
 rw[ZJ] at g3
 refine Aj.bind (R:=GQ 141 2000 p) ?_ ?_
 ·refine Aj.bind (Bu Bb ⟨by omega,by omega⟩) fun s hs=>?_
  have s1:=hs.pos
  refine A0 (fun _=>AY rfl (Aj.some ?_)) fun _=>Aj.some ?_
  ·refine⟨?_,(aD ⟨by omega,by omega⟩ ⟨by omega,by omega⟩ hg.Cu:A2 ⟨5,0,[g.1]⟩),by show p≤s.2;omega,by show s.2≤_;omega⟩
   show en ⟨5,0,[g.1]⟩≤_
   rw[E4,FX];omega
  ·have:=hg.parts
   exact⟨by have:=this.size;rw[Xq] at this;dsimp only at this ⊢;omega,this.Cu,by show p≤s.2;omega,by show s.2≤_;omega⟩
 ·rintro⟨f,o,m,k⟩ g
  have a1:=g.size;have a2:=g.lo;have a3:=g.hi;have a4:=g.Cu
  dsimp only at a1 a2 a3 a4 ⊢
  refine Aj.bind (Sj Bb hM q.1 (p:=f) (by omega) (by omega)) fun l hl=>?_
  have l1:=hl.size;have l2:=hl.lo;have l3:=hl.hi
  refine AY rfl (Aj.some ⟨by rw[Qw];omega,Q4 ⟨by omega,by omega⟩ ⟨by omega,by omega⟩ hl.Cu a4,by show p≤l.2;omega,by show l.2≤_;omega⟩)
theorem RJ (C:CX D F) {b:List Int} (Bb:Bk b) {M:Nat} (hM:2000000≤M) {f:Nat} (hf:f < F.length) {a:Nat} (ha:a≤3) {p:Int} (h0:0≤p) (h1:p≤200000):Aj (HA M b p F D f a) (GE 1000 3000 p):=by
 have hfl:=C.fl
 obtain⟨g,hg,hgm⟩:=Bj hf
 have hp3:=C.par g hgm
 unfold HA
 refine AY (BB hg) (AY (G8 (by omega) (by simp)) ?_)
 have key :∀{N i:Nat},i≤g.params.length→g.params.length - i < N→∀(q:Int) (acc:List AP),p≤q→q≤p+i→acc.length=i→(∀e∈acc,A2 e)→B4 acc≤3 * i→
   Aj (DV g b a N i q acc) fun r=>p≤r.1∧r.1≤p+3∧r.2.length≤3∧(∀e∈r.2,A2 e)∧B4 r.2≤9:=by
  intro N i hi hN
  refine BX g.params.length (fun N i=>∀(q:Int) (acc:List AP),p≤q→q≤p+i→acc.length=i→(∀e∈acc,A2 e)→B4 acc≤3 * i→
   Aj (DV g b a N i q acc) fun r=>p≤r.1∧r.1≤p+3∧r.2.length≤3∧(∀e∈r.2,A2 e)∧B4 r.2≤9) ?_ ?_ hi hN
  ·intro n q acc g1 g2 g3 g4 g5
   rw[DV,if_neg (by simp[AT])]
   exact Aj.some ⟨g1,by show q≤_;omega,by show acc.length≤3;omega,g4,by show B4 acc≤9;omega⟩
  ·intro n i hi ih q acc g1 g2 g3 g4 g5
   obtain⟨t,ht,_⟩:=Bj hi
   rw[DV,if_pos (by rw[decide_eq_true_eq,AT];omega),BI (n:=(i:Int) + 1) (by omega) (by omega),show ((i:Int) + 1)=((i+1:Nat):Int) by omega,AT]
   have ap :∀{e:AP} {s:Int},A2 e→en e≤3→p≤s→s≤p+(i+1:Nat)→Aj (Option.bind (Sh.app acc [e] 40) fun l68=>some (s,l68)) fun r:Int×List AP=>p≤r.1∧r.1≤p+(i+1:Nat)∧r.2.length=i+1∧(∀e∈r.2,A2 e)∧B4 r.2≤3 * (i+1):=fun he h3 hs1 hs2=>
    Aj.app (by simp;omega) (by simp;omega) (Aj.some ⟨hs1,hs2,by simp;omega,fun x hx=>by
     rcases List.mem_append.1 hx with h5 | h5
     ·exact g4 x h5
     ·rw[List.mem_singleton] at h5;rw[h5];exact he,by show B4 (acc ++ _)≤_;rw[HS,FX];omega⟩)
   have vi :∀{n:Int},0≤n→n≤100→A2 ⟨12,n,[]⟩:=fun a c=>EY ⟨by omega,by omega⟩ ⟨by omega,by omega⟩
   refine Aj.bind (R:=fun r:Int×List AP=>p≤r.1∧r.1≤p+(i+1:Nat)∧r.2.length=i+1∧(∀e∈r.2,A2 e)∧B4 r.2≤3 * (i+1)) ?_ fun r hr=>ih r.1 r.2 hr.1 hr.2.1 hr.2.2.1 hr.2.2.2.1 hr.2.2.2.2
   refine A0 (fun _=>?_) fun _=>?_
   ·rw[BI (n:=(g.params.length:Int) + 1) (by omega) (by omega)]
    exact AY rfl (ap (vi (by omega) (by omega)) (by rw[IP];omega) g1 (by omega))
   ·refine Aj.bind (R:=fun r:Bool×Int=>p≤r.2∧r.2≤p+(i+1:Nat)) ?_ ?_
    ·refine AY (BB ht) (A0 (fun _=>?_) fun _=>Aj.some (by show p≤q∧q≤_;omega))
     exact Aj.bind (Bu Bb ⟨by omega,by omega⟩) fun s hs=>Aj.some (by have:=hs.pos;show p≤s.2∧s.2≤_;omega)
    ·rintro⟨t70,f71⟩ ⟨a1,a2⟩
     dsimp only at a1 a2 ⊢
     refine B2 (fun _=>?_) fun _=>?_
     ·exact AY rfl (AY rfl (AY rfl (ap (Q4 ⟨by omega,by omega⟩ ⟨by omega,by omega⟩ (vi (by omega) (by omega)) (vi (by omega) (by omega))) (by rw[Qw,IP,IP];omega) a1 a2)))
     ·exact AY rfl (ap (vi (by omega) (by omega)) (by rw[IP];omega) a1 a2)
 have k:=key (Nat.zero_le _) (by omega:g.params.length - 0 < M) p [] (by omega) (by omega) rfl (by simp) (by simp[B4])
 rw[show ((0:Nat):Int)=0 from rfl] at k
 refine Aj.bind k ?_
 rintro⟨f13,l14⟩ ⟨a1,a2,a3,a4,a5⟩
 dsimp only at a1 a2 a3 a4 a5 ⊢
 have again:A2 ⟨9,f,l14⟩:=HK (Cd (by omega) (by omega)) (Cd (by omega) (by omega)) a4 (by omega)
 have ea:en ⟨9,(f:Int),l14⟩≤10:=by rw[E4];omega
 refine AY rfl ?_
 have hvl:(g.params ++ [(0:Int),1]).length≤100:=by simp;omega
 refine Aj.bind (R:=GQ 200 1000 p) ?_ ?_
 ·refine Aj.bind (R:=fun r:Bool×Int=>p≤r.2∧r.2≤p+4) ?_ ?_
  ·refine A0 (fun _=>?_) fun _=>Aj.some (by show p≤f13∧f13≤_;omega)
   exact Aj.bind (Bu Bb ⟨by omega,by omega⟩) fun s hs=>Aj.some (by have:=hs.pos;show p≤s.2∧s.2≤_;omega)
  ·rintro⟨t30,f31⟩ ⟨b1,b2⟩
   dsimp only at b1 b2 ⊢
   refine B2 (fun _=>?_) fun _=>?_
   ·refine Aj.bind (Gy C Bb hM (d:=4) (by omega) hvl 0 (p:=f31) (by omega) (by omega)) fun q35 hq=>?_
    have c1:=hq.size;have c2:=hq.lo;have c3:=hq.hi
    rw[Tm] at c1;rw[UO] at c3
    refine Aj.bind (R:=fun r:Int×Int×List AP=>en ⟨r.1,r.2.1,r.2.2⟩≤31∧A2 ⟨r.1,r.2.1,r.2.2⟩) ?_ ?_
    ·refine Aj.bind (R:=fun _=>True) ?_ fun t43 _=>B2 (fun _=>?_) fun _=>Aj.some ?_
     ·refine A0 (fun h=>?_) fun _=>Aj.some trivial
      rw[AT] at h
      exact Aj.get (by omega) (by omega) fun _ _ _=>Aj.some trivial
     ·rw[AT]
      refine AY rfl (AY rfl (AY rfl (Aj.some ⟨?_,?_⟩)))
      ·show en ⟨11,0,[⟨12,0,[]⟩,⟨12,(g.params.length:Int),[]⟩]⟩≤31
       rw[Qw,IP,IP];omega
      ·exact (Q4 ⟨by omega,by omega⟩ ⟨by omega,by omega⟩ (EY ⟨by omega,by omega⟩ ⟨by omega,by omega⟩) (EY ⟨by omega,by omega⟩ ⟨by omega,by omega⟩):A2 ⟨11,0,[⟨12,0,[]⟩,⟨12,(g.params.length:Int),[]⟩]⟩)
     ·have:=hq.parts
      exact⟨by have:=this.size;dsimp only at this ⊢;rw[Tm] at this;exact this,this.Cu⟩
    ·rintro⟨f37,f38,f39⟩ ⟨d1,d2⟩
     dsimp only at d1 d2 ⊢
     refine AY rfl (Aj.some ⟨?_,(Q4 ⟨by omega,by omega⟩ ⟨by omega,by omega⟩ d2 again:A2 ⟨6,1,[⟨f37,f38,f39⟩,⟨9,(f:Int),l14⟩]⟩),by show p≤q35.2;omega,by show q35.2≤_;omega⟩)
     show en ⟨6,1,[⟨f37,f38,f39⟩,⟨9,(f:Int),l14⟩]⟩≤200
     rw[Qw];omega
   ·refine A0 (fun _=>?_) fun _=>Aj.some ⟨by show en ⟨9,(f:Int),l14⟩≤200;omega,again,by show p≤f31;omega,by show f31≤_;omega⟩
    refine Aj.bind (Ew Bb ⟨by omega,by omega⟩ (by simp) (by simp)) fun q53 hq53=>?_
    have o1:=hq53.pos
    have o2:=hq53.mem
    simp only[List.mem_cons,List.not_mem_nil,or_false] at o2
    refine Aj.bind (Gy C Bb hM (d:=4) (by omega) hvl 0 (p:=q53.2) (by omega) (by omega)) fun q54 hq=>?_
    have c1:=hq.size;have c2:=hq.lo;have c3:=hq.hi
    rw[Tm] at c1;rw[UO] at c3
    refine AY rfl (Aj.some ⟨?_,(Q4 ⟨by omega,by omega⟩ ⟨by omega,by omega⟩ hq.Cu again:A2 ⟨q53.1,0,[q54.1,⟨9,(f:Int),l14⟩]⟩),by show p≤q54.2;omega,by show q54.2≤_;omega⟩)
    show en ⟨q53.1,0,[q54.1,⟨9,(f:Int),l14⟩]⟩≤200
    rw[Qw];omega
 ·rintro⟨f20,o,m,k⟩ g20
  have b1:=g20.size;have b2:=g20.lo;have b3:=g20.hi;have b4:=g20.Cu
  dsimp only at b1 b2 b3 b4 ⊢
  refine AY rfl ?_
  refine Aj.bind (Gy C Bb hM (d:=4) (by omega) (vars:=g.params) (by omega) g.result (p:=f20) (by omega) (by omega)) fun q hq=>?_
  have c1:=hq.size;have c2:=hq.lo;have c3:=hq.hi
  rw[Tm] at c1;rw[UO] at c3
  refine AY rfl (Aj.some ⟨by rw[VU,IP];omega,VE ⟨by omega,by omega⟩ ⟨by omega,by omega⟩ (EY ⟨by omega,by omega⟩ ⟨by omega,by omega⟩) hq.Cu b4,by show p≤q.2;omega,by show q.2≤_;omega⟩)
end
end RC



namespace RC
open Go
section
variable {D : List Ac} {F : List Ar}
theorem Rc (C:CX D F) {b:List Int} (Bb:Bk b) {M:Nat} (hM:2000000≤M) {f:Nat} (hf:f < F.length) {g:Ar} (hg:F[f]?=some g) (hg1:0 < g.params.length) {p:Int} (h0:0≤p) (h1:p≤200000):Aj (Gq M b p F D f) (GE 1000 3000 p):=by
 have hfl:=C.fl
 have hgm:=List.mem_of_getElem? hg
 have hp3:=C.par g hgm
 unfold Gq
 have vi :∀{n:Int},0≤n→n≤100→A2 ⟨12,n,[]⟩:=fun a c=>EY ⟨by omega,by omega⟩ ⟨by omega,by omega⟩
 refine AY (BB hg) ?_
 rw[AT,BI (n:=(g.params.length:Int) + 2) (by omega) (by omega)]
 refine AY rfl (AY rfl ?_)
 have key :∀{N i:Nat},i≤g.params.length→g.params.length - i < N→∀(x y:List AP),x.length=i→y.length=i→(∀e∈x,A2 e)→(∀e∈y,A2 e)→B4 x≤i→B4 y≤i→
   Aj (DR g N i x y) fun r=>r.1.length≤3∧r.2.length≤3∧(∀e∈r.1,A2 e)∧(∀e∈r.2,A2 e)∧B4 r.1≤3∧B4 r.2≤3:=by
  intro N i hi hN
  refine BX g.params.length (fun N i=>∀(x y:List AP),x.length=i→y.length=i→(∀e∈x,A2 e)→(∀e∈y,A2 e)→B4 x≤i→B4 y≤i→
   Aj (DR g N i x y) fun r=>r.1.length≤3∧r.2.length≤3∧(∀e∈r.1,A2 e)∧(∀e∈r.2,A2 e)∧B4 r.1≤3∧B4 r.2≤3) ?_ ?_ hi hN
  ·intro n x y g1 g2 g3 g4 g5 g6
   rw[DR,if_neg (by simp[AT])]
   exact Aj.some ⟨by show x.length≤3;omega,by show y.length≤3;omega,g3,g4,by show B4 x≤3;omega,by show B4 y≤3;omega⟩
  ·intro n i hi ih x y g1 g2 g3 g4 g5 g6
   rw[DR,if_pos (by rw[decide_eq_true_eq,AT];omega),BI (n:=(i:Int) + 1) (by omega) (by omega),show ((i:Int) + 1)=((i+1:Nat):Int) by omega]
   have hm :∀(l:List AP),(∀e∈l,A2 e)→∀e∈l ++ [AP.mk 12 (i:Int) []],A2 e:=fun l hl e he=>by
    rcases List.mem_append.1 he with h5 | h5
    ·exact hl e h5
    ·rw[List.mem_singleton] at h5;rw[h5];exact vi (by omega) (by omega)
   refine AY rfl (Aj.app (by simp;omega) (by simp;omega) (AY rfl (Aj.app (by simp;omega) (by simp;omega) ?_)))
   exact ih _ _ (by simp;omega) (by simp;omega) (hm x g3) (hm y g4) (by rw[HS,FX,IP];omega) (by rw[HS,FX,IP];omega)
 have k:=key (i:=1) (by omega) (by omega:g.params.length - 1 < M) [⟨12,(g.params.length:Int),[]⟩] [⟨12,(g.params.length:Int) + 2,[]⟩] rfl rfl
  (fun e he=>by rw[List.mem_singleton] at he;rw[he];exact vi (by omega) (by omega)) (fun e he=>by rw[List.mem_singleton] at he;rw[he];exact vi (by omega) (by omega)) (by rw[FX,IP];omega) (by rw[FX,IP];omega)
 rw[show ((1:Nat):Int)=1 from rfl] at k
 refine Aj.bind k ?_
 rintro⟨l14,l15⟩ ⟨a1,a2,a3,a4,a5,a6⟩
 dsimp only at a1 a2 a3 a4 a5 a6 ⊢
 have i18:A2 ⟨9,f,l14⟩:=HK (Cd (by omega) (by omega)) (Cd (by omega) (by omega)) a3 (by omega)
 have i20:A2 ⟨9,f,l15⟩:=HK (Cd (by omega) (by omega)) (Cd (by omega) (by omega)) a4 (by omega)
 have e18:en ⟨9,(f:Int),l14⟩≤4:=by rw[E4];omega
 have e20:en ⟨9,(f:Int),l15⟩≤4:=by rw[E4];omega
 have hvl:(g.params ++ [(3:Int),0,3]).length≤100:=by simp;omega
 refine AY rfl (AY rfl (AY (G8 (by omega) (by simp)) ?_))
 refine Aj.bind (Gy C Bb hM (d:=4) (by omega) hvl 0 (p:=p) (by omega) (by omega)) fun q23 hq=>?_
 have c1:=hq.size;have c2:=hq.lo;have c3:=hq.hi
 rw[Tm] at c1;rw[UO] at c3
 refine AY rfl (AY rfl ?_)
 refine Aj.bind (R:=GQ 200 1000 p) ?_ ?_
 ·refine A0 (fun _=>?_) fun _=>Aj.some ⟨?_,(Q4 ⟨by omega,by omega⟩ ⟨by omega,by omega⟩ i18 (Q4 ⟨by omega,by omega⟩ ⟨by omega,by omega⟩ hq.Cu i20):A2 ⟨1,0,[⟨9,(f:Int),l14⟩,⟨1,0,[q23.1,⟨9,(f:Int),l15⟩]⟩]⟩),by show p≤q23.2;omega,by show q23.2≤_;omega⟩
  ·refine AY (G8 (by omega) (by simp)) ?_
   refine Aj.bind (Gy C Bb hM (d:=4) (by omega) hvl 0 (p:=q23.2) (by omega) (by omega)) fun q39 hq2=>?_
   have d1:=hq2.size;have d2:=hq2.lo;have d3:=hq2.hi
   rw[Tm] at d1;rw[UO] at d3
   refine AY rfl (AY rfl (Aj.some ⟨?_,(VE ⟨by omega,by omega⟩ ⟨by omega,by omega⟩ i18 hq2.Cu (vi (by omega) (by omega)):A2 ⟨6,3,[⟨9,(f:Int),l14⟩,q39.1,⟨12,(g.params.length:Int) + 2,[]⟩]⟩),by show p≤q39.2;omega,by show q39.2≤_;omega⟩))
   show en ⟨6,3,[⟨9,(f:Int),l14⟩,q39.1,⟨12,(g.params.length:Int) + 2,[]⟩]⟩≤200
   rw[VU,IP];omega
  ·show en ⟨1,0,[⟨9,(f:Int),l14⟩,⟨1,0,[q23.1,⟨9,(f:Int),l15⟩]⟩]⟩≤200
   rw[Qw,Qw];omega
 ·rintro⟨f20,o,m,k⟩ g20
  have b1:=g20.size;have b2:=g20.lo;have b3:=g20.hi;have b4:=g20.Cu
  dsimp only at b1 b2 b3 b4 ⊢
  refine AY rfl ?_
  refine Aj.bind (Gy C Bb hM (d:=4) (by omega) (vars:=g.params) (by omega) g.result (p:=f20) (by omega) (by omega)) fun q hq=>?_
  have c1:=hq.size;have c2:=hq.lo;have c3:=hq.hi
  rw[Tm] at c1;rw[UO] at c3
  refine AY rfl (Aj.some ⟨by rw[VU,IP];omega,VE ⟨by omega,by omega⟩ ⟨by omega,by omega⟩ (vi (by omega) (by omega)) hq.Cu b4,by show p≤q.2;omega,by show q.2≤_;omega⟩)
theorem Ri (C:CX D F) {b:List Int} (Bb:Bk b) {M:Nat} (hM:2000000≤M) {f:Nat} (hf:f < F.length) {g:Ar} (hg:F[f]?=some g) (hg1:0 < g.params.length) {p:Int} (h0:0≤p) (h1:p≤200000):Aj (G3 M b p F D f) (GE 1000 3000 p):=by
 have hfl:=C.fl
 have hgm:=List.mem_of_getElem? hg
 have hp3:=C.par g hgm
 unfold G3
 have vi :∀{n:Int},0≤n→n≤100→A2 ⟨12,n,[]⟩:=fun a c=>EY ⟨by omega,by omega⟩ ⟨by omega,by omega⟩
 have li :∀{n:Int},0≤n→n≤100→A2 ⟨0,n,[]⟩:=fun a c=>EY ⟨by omega,by omega⟩ ⟨by omega,by omega⟩
 refine AY (BB hg) (AY rfl (AY rfl (AY rfl ?_)))
 have key :∀{N i:Nat},i≤g.params.length→g.params.length - i < N→∀(q:Int) (acc:List AP),p≤q→q≤p+30 * i→acc.length=i→(∀e∈acc,A2 e)→B4 acc≤4 * i→
   Aj (DQ M g b F D N i q acc) fun r=>p≤r.1∧r.1≤p+90∧r.2.length≤3∧(∀e∈r.2,A2 e)∧B4 r.2≤12:=by
  intro N i hi hN
  refine BX g.params.length (fun N i=>∀(q:Int) (acc:List AP),p≤q→q≤p+30 * i→acc.length=i→(∀e∈acc,A2 e)→B4 acc≤4 * i→
   Aj (DQ M g b F D N i q acc) fun r=>p≤r.1∧r.1≤p+90∧r.2.length≤3∧(∀e∈r.2,A2 e)∧B4 r.2≤12) ?_ ?_ hi hN
  ·intro n q acc g1 g2 g3 g4 g5
   rw[DQ,if_neg (by simp[AT])]
   exact Aj.some ⟨g1,by show q≤_;omega,by show acc.length≤3;omega,g4,by show B4 acc≤12;omega⟩
  ·intro n i hi ih q acc g1 g2 g3 g4 g5
   obtain⟨t,ht,_⟩:=Bj hi
   rw[DQ,if_pos (by rw[decide_eq_true_eq,AT];omega),BI (n:=(i:Int) + 1) (by omega) (by omega),show ((i:Int) + 1)=((i+1:Nat):Int) by omega]
   refine AY (BB ht) ?_
   refine Aj.bind (JB C Bb hM (by omega) t (p:=q) (by omega) (by omega)) fun s hs=>?_
   have s1:=hs.size;have s2:=hs.lo;have s3:=hs.hi
   refine Aj.app (by simp;omega) (by simp;omega) ?_
   refine ih s.2 (acc ++ [s.1]) (by omega) (by omega) (by simp;omega) (fun e he=>?_) (by rw[HS,FX];omega)
   rcases List.mem_append.1 he with h5 | h5
   ·exact g4 e h5
   ·rw[List.mem_singleton] at h5;rw[h5];exact hs.Cu
 have k:=key (i:=1) (by omega) (by omega:g.params.length - 1 < M) p [⟨2,0,[⟨12,0,[]⟩,⟨0,1,[]⟩]⟩] (by omega) (by omega) rfl (fun e he=>by rw[List.mem_singleton] at he;rw[he];exact Q4 ⟨by omega,by omega⟩ ⟨by omega,by omega⟩ (vi (by omega) (by omega)) (li (by omega) (by omega))) (by rw[FX,Qw,IP,IP];omega)
 rw[show ((1:Nat):Int)=1 from rfl] at k
 refine Aj.bind k ?_
 rintro⟨f13,l14⟩ ⟨a1,a2,a3,a4,a5⟩
 dsimp only at a1 a2 a3 a4 a5 ⊢
 have again:A2 ⟨9,f,l14⟩:=HK (Cd (by omega) (by omega)) (Cd (by omega) (by omega)) a4 (by omega)
 have ea:en ⟨9,(f:Int),l14⟩≤13:=by rw[E4];omega
 refine AY rfl ?_
 refine Aj.bind (R:=GQ 200 1000 p) ?_ ?_
 ·refine A0 (fun _=>?_) fun _=>Aj.some ⟨by show en ⟨9,(f:Int),l14⟩≤200;omega,again,by show p≤f13;omega,by show f13≤_;omega⟩
  refine Aj.bind (Gy C Bb hM (d:=3) (by omega) (vars:=g.params) (by omega) 0 (p:=f13) (by omega) (by omega)) fun q33 hq=>?_
  have c1:=hq.size;have c2:=hq.lo;have c3:=hq.hi
  rw[Z6] at c1;rw[Z5] at c3
  refine AY rfl (Aj.some ⟨?_,(Q4 ⟨by omega,by omega⟩ ⟨by omega,by omega⟩ hq.Cu again:A2 ⟨6,1,[q33.1,⟨9,(f:Int),l14⟩]⟩),by show p≤q33.2;omega,by show q33.2≤_;omega⟩)
  show en ⟨6,1,[q33.1,⟨9,(f:Int),l14⟩]⟩≤200
  rw[Qw];omega
 ·rintro⟨f20,o,m,k⟩ g20
  have b1:=g20.size;have b2:=g20.lo;have b3:=g20.hi;have b4:=g20.Cu
  dsimp only at b1 b2 b3 b4 ⊢
  refine AY rfl (AY rfl (AY rfl ?_))
  refine Aj.bind (Gy C Bb hM (d:=4) (by omega) (vars:=g.params) (by omega) g.result (p:=f20) (by omega) (by omega)) fun q hq=>?_
  have c1:=hq.size;have c2:=hq.lo;have c3:=hq.hi
  rw[Tm] at c1;rw[UO] at c3
  refine AY rfl (Aj.some ⟨by rw[VU,Qw,IP,IP];omega,VE ⟨by omega,by omega⟩ ⟨by omega,by omega⟩ (Q4 ⟨by omega,by omega⟩ ⟨by omega,by omega⟩ (li (by omega) (by omega)) (vi (by omega) (by omega))) b4 hq.Cu,by show p≤q.2;omega,by show q.2≤_;omega⟩)
theorem OA (C:CX D F) {b:List Int} (Bb:Bk b) {M:Nat} (hM:2000000≤M) {vars:List Int} (hv:vars.length≤100) (t:Int) {B:Nat} (hB:B≤18) {p:Int} (h0:0≤p) (h1:p≤200000):Aj (GW M b p F D vars t (B:Int)) (GE 200 3000 p):=by
 have szle :∀d,d≤18→Et d≤157:=fun d h=>by unfold Et;split <;> omega
 have pkle :∀d,d≤18→DN d≤1395:=fun d h=>by unfold DN;split <;> omega
 have key :∀(B N:Nat) (f o m:Int) (k:List AP),B < N→B≤18→p≤f→f+80 * B≤p+2900→A2 ⟨o,m,k⟩→en ⟨o,m,k⟩≤200→Aj (El M b F D vars t N B f o m k) (GQ 200 3000 p):=by
  intro B
  induction B using Nat.strongRecOn with
  | _ B ih=>
   intro N f o m k hN hB g1 g2 g3 g4
   obtain⟨N,rfl⟩ :∃m,N=m+1:=⟨N - 1,by omega⟩
   rw[El]
   refine Aj.bind (R:=fun c=>c=true→2 < B) ?_ fun c hc=>B2 (fun h=>?_) fun _=>Aj.some ⟨g4,g3,g1,by show f≤_;omega⟩
   ·refine AY (HB (by have:=E4 o m k;show B4 k≤_;omega) hM) (A0 (fun _=>Aj.some fun h=>by rw[decide_eq_true_eq] at h;omega) fun _=>Aj.some fun h=>by cases h)
   ·have hB2:=hc h
    have ed:Int.tdiv (B:Int) 2=((B / 2:Nat):Int):=rfl
    have hd:2 * (B / 2)≤B:=by omega
    have hd1:1≤B / 2:=by omega
    have hd3:B / 2 < B:=by omega
    rw[ed]
    generalize B / 2=d at hd hd1 hd3 ⊢
    have hpk:DN d≤80 * d:=by unfold DN;rw[if_neg (by omega)];omega
    rw[BI (n:=(d:Int)) (by omega) (by omega)]
    refine Aj.bind (Gy C Bb hM (d:=d) (by omega) hv t (p:=f) (by omega) (by omega)) fun q hq=>?_
    have q1:=hq.lo;have q2:=hq.hi;have q3:=hq.size;have q4:=szle d (by omega)
    have q5:=hq.parts
    exact ih d hd3 N q.2 q.1.op q.1.num q.1.kids (by omega) (by omega) (by omega) (by omega) q5.Cu (by have:=q5.size;dsimp only at this;omega)
 unfold GW
 refine Aj.bind (Gy C Bb hM (d:=B) (by omega) hv t (p:=p) (by omega) (by omega)) fun q hq=>?_
 have q1:=hq.lo;have q2:=hq.hi;have q3:=hq.size;have q4:=szle B hB;have q6:=pkle B hB
 have q5:=hq.parts
 refine Aj.bind (key B M q.2 q.1.op q.1.num q.1.kids (by omega) hB (by omega) (by omega) q5.Cu (by have:=q5.size;dsimp only at this;omega)) ?_
 rintro⟨f,o,m,k⟩ g
 exact Aj.some ⟨g.size,g.Cu,g.lo,g.hi⟩
theorem Sw {l:List Int} (hl:l.length≤3) {x:Int} {M:Nat} (hM:2000000≤M):Aj (HR M l x) fun r=>r=-1∨(0≤r∧r < (l.length:Int)):=by
 have key :∀{N i:Nat},i≤l.length→l.length - i < N→Aj (Dn l x N i) fun v=>match v with | .inl r=>0≤r∧r < (l.length:Int) | .inr _=>True:=by
  intro N i hi hN
  refine BX l.length (fun N i=>Aj (Dn l x N i) fun v=>match v with | .inl r=>0≤r∧r < (l.length:Int) | .inr _=>True) ?_ ?_ hi hN
  ·intro n
   rw[Dn,if_neg (by simp[AT])]
   exact Aj.some trivial
  ·intro n i hi ih
   obtain⟨y,hy,_⟩:=Bj hi
   rw[Dn,if_pos (by rw[decide_eq_true_eq,AT];omega),BI (n:=(i:Int) + 1) (by omega) (by omega),show ((i:Int) + 1)=((i+1:Nat):Int) by omega]
   refine AY (BB hy) (A0 (fun _=>Aj.some (show 0≤(i:Int)∧(i:Int) < _ by omega)) fun _=>ih)
 unfold HR
 have k:=key (Nat.zero_le _) (by omega:l.length - 0 < M)
 rw[show ((0:Nat):Int)=0 from rfl] at k
 refine Aj.cont (R:=fun r=>0≤r∧r < (l.length:Int)) (S:=fun _=>True) (k.mono fun v hv=>by cases v <;> exact hv) (fun r hr=>.inr hr) fun _ _=>Aj.some (.inl rfl)
theorem Tj (C:CX D F) {b:List Int} (Bb:Bk b) {M:Nat} (hM:2000000≤M) {f:Nat} (hf:f < F.length) {p:Int} (h0:0≤p) (h1:p≤150000):Aj (H8 M b p F D f) (GE 1000 7000 p):=by
 have hfl:=C.fl
 obtain⟨g,hg,hgm⟩:=Bj hf
 have hp3:=C.par g hgm
 unfold H8
 refine AY (BB hg) ?_
 refine Aj.bind (Sw hp3 hM) fun a ha=>?_
 refine AY rfl ?_
 refine Aj.bind (Bu Bb ⟨by omega,by omega⟩) fun q10 hq=>?_
 have q1:=hq.pos
 have fin :∀{x:Option (AP×Int)},Aj x (GE 1000 3000 q10.2)→Aj (Option.bind x fun q28=>some (q28.2,q28.1.op,q28.1.num,q28.1.kids)) (GQ 1000 3500 p):=fun hx=>
  Aj.bind hx fun r hr=>Aj.some (by
   have:=hr.parts
   exact⟨this.size,this.Cu,by have:=this.lo;dsimp only at this ⊢;omega,by have:=this.hi;dsimp only at this ⊢;omega⟩)
 refine Aj.bind (R:=GQ 1000 3500 p) ?_ ?_
 ·refine Aj.bind (R:=fun _=>True) (A0 (fun _=>Aj.some trivial) fun _=>Aj.some trivial) fun t25 _=>B2 (fun _=>fin (RI C Bb hM (by omega) (by omega))) fun _=>?_
  refine Aj.bind (R:=fun t=>t=true→0≤a) ?_ fun t30 ht30=>B2 (fun h=>?_) fun _=>?_
  ·refine A0 (fun _=>A0 (fun h=>?_) fun _=>Aj.some fun h=>by cases h) fun _=>Aj.some fun h=>by cases h
   exact A0 (fun _=>Aj.some fun _=>h) fun _=>Aj.some fun _=>h
  ·have ha0:=ht30 h
   obtain⟨an,rfl⟩:=Int.eq_ofNat_of_zero_le ha0
   exact fin (RJ C Bb hM hf (by omega) (by omega) (by omega))
  have pos :∀(z:Int),Aj (if decide (q10.1 < 3)=true then
      if (decide (0 < (Sh.len g.params)))=true then
       Option.bind (Sh.get g.params 0) fun c52=>
       if (decide (c52=z))=true then
        if (decide (g.result=0))=true then
         some true
        else
         some (decide (g.result=(if z=3 then 3 else 1)))
       else
        some false
      else
       some false
     else
      some false) fun t=>t=true→0 < g.params.length:=by
   intro z
   refine A0 (fun _=>A0 (fun h=>?_) fun _=>Aj.some fun h=>by cases h) fun _=>Aj.some fun h=>by cases h
   rw[AT] at h
   refine Aj.get (by omega) (by omega) fun c _ _=>?_
   refine A0 (fun _=>A0 (fun _=>Aj.some fun _=>by omega) fun _=>Aj.some fun _=>by omega) fun _=>Aj.some fun h=>by cases h
  refine Aj.bind (pos 3) fun t35 ht35=>B2 (fun h=>fin (Rc C Bb hM hf hg (ht35 h) (by omega) (by omega))) fun _=>?_
  refine Aj.bind (pos 0) fun t40 ht40=>B2 (fun h=>fin (Ri C Bb hM hf hg (ht40 h) (by omega) (by omega))) fun _=>?_
  have:=OA C Bb hM (vars:=g.params) (by omega) g.result (B:=18) (by omega) (p:=q10.2) (by omega) (by omega)
  exact fin (this.mono fun r hr=>hr.up (by omega) (by omega))
 ·rintro⟨f12,o,m,k⟩ g12
  have b1:=g12.size;have b2:=g12.lo;have b3:=g12.hi;have b4:=g12.Cu
  dsimp only at b1 b2 b3 b4 ⊢
  refine AY (HB (by have:=E4 o m k;show B4 k≤_;omega) hM) (A0 (fun _=>?_) fun _=>Aj.some ⟨b1,b4,b2,by show f12≤_;omega⟩)
  have:=OA C Bb hM (vars:=g.params) (by omega) g.result (B:=12) (by omega) (p:=f12) (by omega) (by omega)
  refine Aj.bind this fun r hr=>Aj.some ⟨by have:=hr.size;show en r.1≤_;omega,hr.Cu,by have:=hr.lo;show p≤r.2;omega,by have:=hr.hi;show r.2≤_;omega⟩
end
end RC

