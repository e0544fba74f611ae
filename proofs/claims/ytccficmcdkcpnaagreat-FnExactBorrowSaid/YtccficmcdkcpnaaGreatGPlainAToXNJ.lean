import Derived.Test.YtccficmcdkcpnaaGreatGHADefsToBODefs
set_option linter.all false
namespace RC
open Go
theorem W0 {n:Int}(h1:-9223372036854775808<=n)(h2:n<=9223372036854775807):Sh.w n=n:=Abs.wrap_i64 h1 h2
theorem Ae {α:Type}(l:List α):Sh.len l=(l.length:Int):=rfl
theorem fV {α:Type}(l:List α)(i:Nat):Sh.get l (i:Int)=l[i]?:=by
 unfold Sh.get;rw[me (pe i)];simp
theorem An {α:Type}{l:List α}{i:Nat}{x:α}(h:l[i]?=some x):Sh.get l (i:Int)=some x:=by rw[fV,h]
theorem wI {n:Int}(h1:-9223372036854775808<=n:=by omega)(h2:n<=9223372036854775807:=by omega):Sh.w n=n:=W0 h1 h2
theorem wN {i:Nat}(h:i<=1048576:=by omega):Sh.w ((i:Int)+1)=((i+1:Nat):Int):=by rw[W0 (by omega) (by omega)];rfl
theorem Cf {α β:Type}{l:List α}{i:Nat}{a b:β}(h:i<l.length:=by omega):(if decide ((i:Int)<Sh.len l)=true then a else b)=a:=me (by simp[Ae];omega)
theorem CG {α β:Type}{l:List α}{a b:β}:(if decide ((l.length:Int)<Sh.len l)=true then a else b)=b:=mj (by simp[Ae])
theorem Nh {α:Type}{l:List α}{j:Int}(h0:0<=j)(h1:j<l.length):∃x,Sh.get l j=some x/\l[j.toNat]?=some x:=by
 have h:l[j.toNat]?=some (l[j.toNat]'(by omega)):=mY (by omega);exact⟨_,by unfold Sh.get;rw[me h0,h],h⟩
theorem P7 {α:Type}{l:List α}{j:Int}(h0:0<=j):Sh.get l j=l[j.toNat]?:=by unfold Sh.get;rw[me h0]
theorem Ky {α:Type}(l:List α)(i:Nat)(x:α):Sh.put l (i:Int) x=l.set i x:=by simp[Sh.put]
theorem MT {α:Type}(x:α)(n b:Nat)(h:n*b<=281474976710656)(h2:n<=9223372036854775807):Sh.mk x (n:Int) b=some (List.replicate n x):=by
 unfold Sh.mk;rw[me ⟨by omega,by rw[<- qH];omega,by omega⟩];simp
theorem DD {α:Type}(l m:List α)(b:Nat)(h:(l.length+m.length)*b<=140737488355328)(h2:l.length+m.length<=9223372036854775807):Sh.app l m b=some (l++m):=by
 unfold Sh.app;rw[me ⟨h,h2⟩]
theorem jw {α:Type}{l:List α}{j:Nat}(h:j<=l.length):Sh.hi l (j:Int)=some (l.take j):=by
 unfold Sh.hi;rw[me ⟨by omega,by omega⟩];simp
theorem A4 (len:Nat)(P:Nat->Nat->Prop)(h0 :∀n,P (n+1) len)(hs :∀n i,i<len->P n (i+1)->P (n+1) i):∀{N i:Nat},i<=len->len-i<N->P N i:=by
 intro N i hi hN;obtain⟨k,hk⟩ :∃k,len-i=k:=⟨_,rfl⟩
 induction k generalizing N i with
 | zero=>
  obtain⟨n,rfl⟩ :∃n,N=n+1:=⟨N-1,by omega⟩
  have:i=len:=by omega
  subst this;exact h0 n
 | succ k ih=>
  obtain⟨n,rfl⟩ :∃n,N=n+1:=⟨N-1,by omega⟩
  exact hs n i (by omega) (ih (by omega) (by omega) (by omega))
theorem Ax {α:Type}{l:List α}{i:Nat}(h:i<l.length):∃x,l[i]?=some x/\x∈l:=⟨l[i],mY h,pO h⟩
theorem CO {α:Type}{l:List α}{j:Nat}{x:α}(h:l[j]?=some x):l.take (j+1)=l.take j++[x]:=by rw[List.take_add_one,h];rfl
theorem drop_cons {α:Type}{l:List α}{j:Nat}{x:α}(h:l[j]?=some x):l.drop j=x::l.drop (j+1):=by
 obtain⟨hj,rfl⟩:=mT.1 h;exact pZ hj
def gD (h:List Cell):Nat:=(h.map λc=>c.fields.length).sum
def GH (h:List Cell):Nat:=h.length+gD h
structure Hp (h:List Cell):Prop where
 size:GH h<=1048576
 cells :∀c∈h,YG c
theorem dF {h:List Cell}{c:Cell}(hc:c∈h):c.fields.length<=gD h:=by
 induction h with
 | nil=>cases hc
 | cons d h ih=>
  simp only[gD,mz,oV]at ih⊢;rcases mr.1 hc with rfl|hc
  ·omega
  ·have:=ih hc;omega
theorem Hp.len {h:List Cell}(H:Hp h):h.length<=1048576:=by have:=H.size;unfold GH at this;omega
theorem Hp.jW {h:List Cell}(H:Hp h){c:Cell}(hc:c∈h):c.fields.length<=1048576:=by have:=H.size;have:=dF hc;unfold GH at *;omega
end RC
namespace RC
open Go
def Db {α:Type}(f:Nat->α->Bool):Nat->List α->Bool
 | _,[]=>true
 | k,x::r=>f k x&&Db f (k+1) r
theorem Sa {α:Type}{f g:Nat->α->Bool}:∀(l:List α) (k:Nat),(∀(i:Nat) x,l[i]?=some x->f (k+i) x=g (k+i) x)->Db f k l=Db g k l
 | [],_,_=>rfl
 | x::r,k,h=>by
  have h0:=h 0 x rfl;rw[po]at h0;have h1:=Sa r (k+1) λi y hy=>(show k+(i+1)=k+1+i by omega)▸h (i+1) y hy;rw[Db,Db,h0,h1]
theorem Dr {α:Type}{p:α->Bool}:∀(l:List α) (k:Nat),Db (λ_ x=>p x) k l=l.all p
 | [],_=>rfl
 | x::r,k=>by rw[Db,Dr r (k+1),pM]
theorem Cj {α:Type}{l:List α}(L:Nat->Int->Option (Bool ⊕ Unit))(f:Nat->α->Bool)(h0 :∀n,L (n+1) (l.length:Int)=some (.inr ()))
  (hs :∀n (i:Nat) x,l[i]?=some x->L (n+1) (i:Int)=if f i x=true then L n ((i+1:Nat):Int) else some (.inl false)) {N:Nat} (hN:l.length<N) :
  L N 0=some (if Db f 0 l=true then .inr () else .inl false):=by
 have key:∀{N i:Nat},i<=l.length->l.length-i<N->L N (i:Int)=some (if Db f i (l.drop i)=true then .inr () else .inl false):=by
  intro N i hi hN;refine A4 l.length (λN i=>L N (i:Int)=some (if Db f i (l.drop i)=true then .inr () else .inl false)) ?_ ?_ hi hN
  ·intro n;rw[h0 n];simp[Db]
  ·intro n i hi ih;obtain⟨x,hx,_⟩:=Ax hi;rw[hs n i x hx,ih,drop_cons hx,Db];cases h:f i x<;>simp
 have:=key (mi _) (by omega:l.length-0<N);simpa using this
theorem DP {β:Type}{b:Bool}{g:Bool->β}{K:Unit->Option β}:Sh.cont (some (if b=true then Sum.inr () else Sum.inl false)) g K=if b=true then K () else some (g false):=by
 cases b<;>rfl
theorem Ze {α:Type}{l:List α}{j:Nat}(h:j<=l.length)(h2:l.length<=9223372036854775807):Sh.sl l 0 (j:Int)=some (l.take j):=by
 unfold Sh.sl;rw[me ⟨by omega,by omega,by omega⟩];simp
end RC
namespace RC
open Go
theorem OG {l:List Int}{left:Int}(h0:0<=left)(h1:left<=1048576)(hl:l.length<=9223372036854775807):Gn l left=some (if left-l.length<0 then -1 else left-l.length):=by
 unfold Gn;rw[Ae,wI];by_cases h:left-l.length<0<;>simp[h]
theorem WV {l:List Int}(hl:l.length<=1048576){N i:Nat}(hi:i<=l.length)(hN:l.length-i<N):∀m:List Int,m.length=l.length->m.take i=l.take i->Et l N i m=some l:=by
 refine A4 l.length (λN i=>∀m:List Int,m.length=l.length->m.take i=l.take i->Et l N i m=some l) ?_ ?_ hi hN
 ·intro n m hm ht;rw[Et,CG];rw[oN (by omega),nT]at ht;rw[ht]
 ·intro n i hi ih m hm ht;obtain⟨x,hx,_⟩:=Ax hi;obtain⟨y,hy,_⟩:=Ax (l:=m) (i:=i) (by omega);rw[Et,Cf,An hx,mR,An hy,mR,wI,Ky,show ((i:Int)+1)=((i+1:Nat):Int) by omega];refine ih _ (by simp[hm]) ?_;rw[CO hx,CO (x:=x) (by rw[qQ];simp;omega),pN (ml _),ht]
theorem OJ {l:List Int}(hl:l.length<=1048576){N:Nat}(hN:2000000<=N):Gq N l=some l:=by
 unfold Gq;rw[Ae,MT 0 l.length 8 (by omega) (by omega),mR];have:=WV hl (mi _) (by omega:l.length-0<N) (List.replicate l.length 0) (by simp) (by simp);rw[rD]at this;rw[this];rfl
theorem WH {l:List Int}(hl:l.length<=1048576){N i:Nat}(hi:i<=l.length)(hN:l.length-i<N):Ev l l N i=some (Sum.inr ()):=by
 refine A4 l.length (λN i=>Ev l l N i=some (Sum.inr ())) ?_ ?_ hi hN
 ·intro n;rw[Ev,CG]
 ·intro n i hi ih;obtain⟨x,hx,_⟩:=Ax hi;rw[Ev,Cf,An hx,mR,wI,show ((i:Int)+1)=((i+1:Nat):Int) by omega];simpa using ih
theorem OI {l:List Int}(hl:l.length<=1048576){N:Nat}(hN:2000000<=N):Gr N l l=some true:=by
 unfold Gr;have:=WH hl (mi _) (by omega:l.length-0<N);rw[rD]at this;simp[this]
end RC
namespace RC
open Go
theorem Cb (a b c:Int):BO a b c=some (decide (b<=a)&&decide (a<=c)):=by
 unfold BO;by_cases h:b<=a<;>simp[h]
end RC
namespace RC
open Go
def Cw (D:List AR)(t:Int):Bool:=decide (0<=t)&&decide (t<=(D.length:Int))
theorem Ms {D:List AR}{x:Int}:BO x 0 (Sh.len D)=some (Cw D x):=by rw[Cb];rfl
theorem MZ {D:List AR}{l:List Int}(hl:l.length<=1048576){N:Nat}(hN:l.length<N):HO N D l=some (l.all (Cw D)):=by
 unfold HO;rw[Cj (l:=l) (EV D l) (λ_ x=>Cw D x) (λn=>by rw[EV,CG]) (λn i x hx=>?_) hN,DP,Dr]
 ·cases l.all (Cw D)<;>rfl
 ·have hi:=(mT.1 hx).1;rw[EV,Cf,An hx,mR,Ms,wI,show ((i:Int)+1)=((i+1:Nat):Int) by omega,mR];cases Cw D x<;>rfl
theorem JG {D:List AR}{t:Int}:Gl D t=some (Cw D t):=by
 unfold Gl Cw;by_cases h:0<=t<;>by_cases h2:t<=(D.length:Int)<;>simp[h,h2,Ae]
theorem Me {D:List AR}{l:List Int}(hl:l.length<=1048576){N:Nat}(hN:l.length<N):HF N D l=some (l.all (Cw D)):=by
 unfold HF;rw[Cj (l:=l) (Eg D l) (λ_ x=>Cw D x) (λn=>by rw[Eg,CG]) (λn i x hx=>?_) hN,DP,Dr]
 ·cases l.all (Cw D)<;>rfl
 ·have hi:=(mT.1 hx).1;rw[Eg,Cf,An hx,mR,JG,wI,show ((i:Int)+1)=((i+1:Nat):Int) by omega,mR];cases Cw D x<;>rfl
def Q1 (D:List AR)(c:BN):Bool:=decide (c.fields.length<=3)&&c.fields.all (Cw D)
def Gu (a b:AR):Bool:=decide (a.cons.length=0)&&(decide (a.from_=b.from_)&&decide (a.to=b.to))
def Ld (D:List AR)(i:Nat)(d:AR):Bool:=
 if 0<d.cons.length then (decide (d.cons.length<=3)&&(decide (d.from_=0)&&decide (d.to=0)))&&d.cons.all (Q1 D)
 else (D.take i).all (λe=>!Gu e d)&&(Cw D d.from_&&Cw D d.to)
def TU (D:List AR)(i:Nat)(d:AR):Bool:=
 ((Cw D d.from_&&(Cw D d.to&&(decide (d.cons.length<=3)&&(!(decide (0<d.cons.length)&&(!decide (d.from_=0) || !decide (d.to=0)))))))&&d.cons.all (Q1 D))&&(D.take i).all (λe=>!(decide (d.cons.length=0)&&Gu e d))
theorem aU (D:List AR)(i:Nat)(d:AR):TU D i d=Ld D i d:=by
 unfold TU Ld;by_cases h:0<d.cons.length
 ·have h0:¬ d.cons.length=0:=by omega
  have ha:(D.take i).all (λe=>!(decide (d.cons.length=0)&&Gu e d))=true:=by simp[h0]
  rw[me h,ha];by_cases h1:d.from_=0<;>by_cases h2:d.to=0<;>simp[h,h1,h2,Cw]
 ·have h0:d.cons.length=0:=by omega
  have hc:d.cons=[]:=nI h0;rw[mj h];simp only[hc,h0,nj,List.all_nil,nB,pR,qC];cases Cw D d.from_<;>cases Cw D d.to<;>simp
structure P3 (D:List AR):Prop where
 len:D.length<=1048576
 cons :∀d∈D,d.cons.length<=1048576
 NV :∀d∈D,∀c∈d.cons,c.fields.length<=1048576
theorem RO {D:List AR}(hD:P3 D){i:Nat}{d:AR}(hd:D[i]?=some d){N:Nat}(hN:2000000<=N):Hf N D i=some (Ld D i d):=by
 have hm:=mS hd;have hi:=(mT.1 hd).1;have hlen:=hD.len;have hc:=hD.cons d hm;unfold Hf Ld;rw[An hd,mR];by_cases h:0<d.cons.length
 ·rw[me (by simp[Ae];omega),me h];rw[Cj (l:=d.cons) (EB N d D) (λ_ c=>Q1 D c) (λn=>by rw[EB,CG]) (λn j c hj=>?_) (by omega),DP,Dr]
  ·simp only[Ae];by_cases h3:d.cons.length<=3
   ·have e3:¬ (3:Int)<(d.cons.length:Int):=by omega
    generalize d.cons.all (Q1 D)=z;cases z<;>by_cases h1:d.from_=0<;>by_cases h2:d.to=0<;>simp[h1,h2,h3,e3]
   ·have e3:(3:Int)<(d.cons.length:Int):=by omega
    simp[h3,e3]
  ·have hj':=(mT.1 hj).1;have hf:=hD.NV d hm c (mS hj);rw[EB,Cf,An hj,mR,MZ hf (by omega),wI,show ((j:Int)+1)=((j+1:Nat):Int) by omega];unfold Q1;by_cases h3:c.fields.length<=3
   ·have e3:¬ (3:Int)<(c.fields.length:Int):=by omega
    simp only[Ae];cases c.fields.all (Cw D)<;>simp[h3,e3]
   ·have e3:(3:Int)<(c.fields.length:Int):=by omega
    simp[h3,e3,Ae]
 ·have h0:d.cons.length=0:=by omega
  have e0:¬ decide ((0:Int)<Sh.len d.cons)=true:=by rw[Ae,h0];simp
  rw[mj e0,mj h];have rh:(D.take i).length=i:=by simp;omega
  rw[Cj (l:=D.take i) (EC d D i) (λ_ e=>!Gu e d) (λn=>by rw[EC,mj (by simp;omega)]) (λn j e hj=>?_) (by omega),DP,Dr]
  ·rw[Ms,Ms,mR];cases (D.take i).all (λe=>!Gu e d)<;>cases Cw D d.from_<;>simp
  ·have hj':=(mT.1 hj).1;have hje:D[j]?=some e:=by rw[nJ]at hj;split at hj<;>first|exact hj|cases hj
   rw[EC,me (by simp;omega),An hje,mR,wI,show ((j:Int)+1)=((j+1:Nat):Int) by omega];unfold Gu;simp only[Ae];by_cases a0:e.cons.length=0<;>by_cases a1:e.from_=d.from_<;>by_cases a2:e.to=d.to<;>simp[a0,a1,a2]
def Ml (D:List AR):Bool:=decide (D.length<=4)&&Db (Ld D) 0 D
theorem Qm {D:List AR}(hD:P3 D){N:Nat}(hN:2000000<=N):HE N D=some (Ml D):=by
 have hlen:=hD.len;unfold HE Ml;rw[Cj (l:=D) (Dj N D) (Ld D) (λn=>by rw[Dj,CG]) (λn i d hd=>?_) (by omega),DP]
 ·simp only[Ae];by_cases h:D.length<=4
  ·have e4:¬ (4:Int)<(D.length:Int):=by omega
   cases Db (Ld D) 0 D<;>simp[h,e4]
  ·have e4:(4:Int)<(D.length:Int):=by omega
   simp[h,e4]
 ·have hi:=(mT.1 hd).1;rw[Dj,Cf,RO hD hd hN,mR,wI,show ((i:Int)+1)=((i+1:Nat):Int) by omega];cases Ld D i d<;>rfl
theorem QU {D:List AR}(hD:P3 D){N:Nat}(hN:2000000<=N):HN N D=some (Ml D):=by
 have hlen:=hD.len;unfold HN Ml;rw[<- Sa (f:=TU D) D 0 (λi d _=>aU D _ d)];rw[Cj (l:=D) (Dq N D) (TU D) (λn=>by rw[Dq,CG]) (λn i d hd=>?_) (by omega),DP]
 ·simp only[Ae];by_cases h:D.length<=4
  ·have e4:¬ (4:Int)<(D.length:Int):=by omega
   cases Db (TU D) 0 D<;>simp[h,e4]
  ·have e4:(4:Int)<(D.length:Int):=by omega
   simp[h,e4]
 ·have hi:=(mT.1 hd).1;have hm:=mS hd;have hc:=hD.cons d hm;have l2:DA N d D N 0=some (if d.cons.all (Q1 D)=true then .inr () else .inl false):=by
   rw[Cj (l:=d.cons) (DA N d D) (λ_ c=>Q1 D c) (λn=>by rw[DA,CG]) (λn j c hj=>?_) (by omega),Dr];have hj':=(mT.1 hj).1;have hf:=hD.NV d hm c (mS hj);rw[DA,Cf,An hj,mR,Me hf (by omega),wI,show ((j:Int)+1)=((j+1:Nat):Int) by omega];unfold Q1;by_cases h3:c.fields.length<=3
   ·have e3:¬ (3:Int)<(c.fields.length:Int):=by omega
    simp only[Ae];cases c.fields.all (Cw D)<;>simp[h3,e3]
   ·have e3:(3:Int)<(c.fields.length:Int):=by omega
    simp[h3,e3,Ae]
  have rh:(D.take i).length=i:=by simp;omega
  have l3:DC d (D.take i) N 0=some (if (D.take i).all (λe=>!(decide (d.cons.length=0)&&Gu e d))=true then .inr () else .inl false):=by
   rw[Cj (l:=D.take i) (DC d (D.take i)) (λ_ e=>!(decide (d.cons.length=0)&&Gu e d)) (λn=>by rw[DC,CG]) (λn j e hj=>?_) (by omega),Dr];have hj':=(mT.1 hj).1;rw[DC,me (by simp only[Ae];simp;omega),An hj,mR,wI,show ((j:Int)+1)=((j+1:Nat):Int) by omega];unfold Gu;simp only[Ae];by_cases b0:d.cons.length=0<;>by_cases a0:e.cons.length=0<;>by_cases a1:e.from_=d.from_<;>by_cases a2:e.to=d.to<;>simp[a0,a1,a2,b0]
  rw[Dq,Cf,An hd];simp only[mR];rw[JG,JG,l2,Ze (by omega) (by omega),wI,show ((i:Int)+1)=((i+1:Nat):Int) by omega];simp only[mR];rw[l3,DP,DP];unfold TU;simp only[Ae];generalize d.cons.all (Q1 D)=z1;generalize (D.take i).all (λe=>!(decide (d.cons.length=0)&&Gu e d))=z2;by_cases h3:d.cons.length<=3
  ·have e3:¬ (3:Int)<(d.cons.length:Int):=by omega
   by_cases h0:0<d.cons.length
   ·have e0:(0:Int)<(d.cons.length:Int):=by omega
    cases Cw D d.from_<;>cases Cw D d.to<;>cases z1<;>cases z2<;>by_cases h1:d.from_=0<;>by_cases h2:d.to=0<;>simp[h1,h2,h3,e3,h0]
   ·have e0:¬ (0:Int)<(d.cons.length:Int):=by omega
    cases Cw D d.from_<;>cases Cw D d.to<;>cases z1<;>cases z2<;>simp[h3,e3,h0]
  ·have e3:(3:Int)<(d.cons.length:Int):=by omega
   cases Cw D d.from_<;>cases Cw D d.to<;>simp[h3,e3]
end RC
namespace RC
open Go
def Gi (ps ls:List Int)(i:Nat)(v:Int):Bool:=
 (decide (0<=v)&&decide (v<(ps.length:Int)))&&(!decide (ps[v.toNat]?=some 0)&&!(decide (0<i)&&decide (v<=(ls[i-1]?).getD 0)))
theorem XK {ls:List Int}{i:Nat}(h0:0<i)(hi:i<ls.length):∃x,ls[i-1]?=some x/\Sh.get ls (((i:Nat):Int)-1)=some x:=by
 obtain⟨x,hx,_⟩:=Ax (l:=ls) (i:=i-1) (by omega);exact⟨x,hx,by rw[show ((i:Int)-1)=((i-1:Nat):Int) by omega,An hx]⟩
theorem Rk {ps ls:List Int}(hp:ps.length<=1048576)(hl:ls.length<=1048576){N:Nat}(hN:2000000<=N):Hq N ps ls=some (Db (Gi ps ls) 0 ls):=by
 unfold Hq;rw[Cj (l:=ls) (ED ps ls) (Gi ps ls) (λn=>by rw[ED,CG]) (λn i v hv=>?_) (by omega),DP]
 ·cases Db (Gi ps ls) 0 ls<;>rfl
 ·have hi:=(mT.1 hv).1;rw[ED,Cf,An hv,mR,Cb,Ae,wI (n:=(ps.length:Int)-1),wI (n:=(i:Int)+1),wI (n:=(i:Int)-1),show ((i:Int)+1)=((i+1:Nat):Int) by omega,mR];unfold Gi;by_cases h0:0<=v
  ·by_cases h1:v<(ps.length:Int)
   ·have yA:v<=(ps.length:Int)-1:=by omega
    obtain⟨c,e1,e2⟩:=Nh h0 h1;rw[e1,e2];by_cases hi0:0<i
    ·obtain⟨x,g1,g2⟩:=XK hi0 hi;rw[g1,g2];by_cases hc:c=0<;>by_cases hx:v<=x<;>simp[h0,h1,yA,hc,hi0,hx]
    ·by_cases hc:c=0<;>simp[h0,h1,yA,hc,hi0]
   ·have yA:¬ v<=(ps.length:Int)-1:=by omega
    simp[h0,h1,yA]
  ·simp[h0]
theorem WE {c:BM}(hp:c.params.length<=1048576)(hl:c.Ao.length<=1048576){N:Nat}(hN:2000000<=N):DR c N 0=some (if Db (Gi c.params c.Ao) 0 c.Ao=true then .inr () else .inl false):=by
 refine Cj (l:=c.Ao) (DR c) (Gi c.params c.Ao) (λn=>by rw[DR,CG]) (λn i v hv=>?_) (by omega);have hi:=(mT.1 hv).1;rw[DR,Cf,An hv,mR,Ae,wI (n:=(i:Int)+1),wI (n:=(i:Int)-1),show ((i:Int)+1)=((i+1:Nat):Int) by omega];unfold Gi;by_cases h0:0<=v
 ·have yc:¬ v<0:=by omega
  by_cases h1:v<(c.params.length:Int)
  ·have yA:¬ (c.params.length:Int)<=v:=by omega
   obtain⟨d,e1,e2⟩:=Nh h0 h1;rw[e1,e2];by_cases hi0:0<i
   ·obtain⟨x,g1,g2⟩:=XK hi0 hi;rw[g1,g2];by_cases hc:d=0<;>by_cases hx:v<=x<;>simp[h0,yc,h1,yA,hc,hi0,hx]
   ·by_cases hc:d=0<;>simp[h0,yc,h1,yA,hc,hi0]
  ·have yA:(c.params.length:Int)<=v:=by omega
   simp[h0,yc,h1,yA]
 ·have yc:v<0:=by omega
  simp[h0,yc]
def NS (D:List AR)(ps:List Int)(r:Int):Bool:=decide (ps.length<=3)&&(ps.all (Cw D)&&Cw D r)
theorem S0 {p:Dg}(hf:p.funcs.length<=1048576)(hp :∀f∈p.funcs,f.params.length<=1048576){N:Nat}(hN:2000000<=N):DT N p N 0=some (if (p.funcs.all λf=>NS p.decls f.params f.result)=true then .inr () else .inl false):=by
 rw[<- Dr _ 0];refine Cj (l:=p.funcs) (DT N p) (λ_ f=>NS p.decls f.params f.result) (λn=>by rw[DT,CG]) (λn i f hi=>?_) (by omega);have tz:=(mT.1 hi).1;have xe:=hp f (mS hi);rw[DT,Cf,An hi,mR,MZ xe (by omega),Ms,wI,show ((i:Int)+1)=((i+1:Nat):Int) by omega];unfold NS;simp only[Ae];by_cases h3:f.params.length<=3
 ·have e3:¬ (3:Int)<(f.params.length:Int):=by omega
  generalize f.params.all (Cw p.decls)=z;cases z<;>cases Cw p.decls f.result<;>simp[h3,e3]
 ·have e3:(3:Int)<(f.params.length:Int):=by omega
  simp[h3,e3]
theorem TV {D:List AR}{l:List BM}(hf:l.length<=1048576)(hp :∀f∈l,f.params.length<=1048576/\f.Ao.length<=1048576){N:Nat}(hN:2000000<=N):DV N D l N 0=some (if (l.all λf=>NS D f.params f.result&&Db (Gi f.params f.Ao) 0 f.Ao)=true then .inr () else .inl false):=by
 rw[<- Dr _ 0];refine Cj (l:=l) (DV N D l) (λ_ f=>NS D f.params f.result&&Db (Gi f.params f.Ao) 0 f.Ao) (λn=>by rw[DV,CG]) (λn i f hi=>?_) (by omega);have tz:=(mT.1 hi).1;have xe:=hp f (mS hi);rw[DV,Cf,An hi,mR,Me xe.1 (by omega),JG,WE xe.1 xe.2 hN,DP,wI,show ((i:Int)+1)=((i+1:Nat):Int) by omega];unfold NS;simp only[Ae];generalize Db (Gi f.params f.Ao) 0 f.Ao=y;by_cases h3:f.params.length<=3
 ·have e3:¬ (3:Int)<(f.params.length:Int):=by omega
  generalize f.params.all (Cw D)=z;cases z<;>cases Cw D f.result<;>cases y<;>simp[h3,e3]
 ·have e3:(3:Int)<(f.params.length:Int):=by omega
  simp[h3,e3]
end RC
namespace RC
open Go
def YK (D:List (List Int×Int)):Bool:=match D with|[]=>false|(ps,r)::_=>decide (ps.length=0)&&decide (r=0)
def Oz (D:List AR)(l:List (List Int×Int)):Bool:=Ml D&&((decide (1<=l.length)&&decide (l.length<=4))&&(l.all (λs=>NS D s.1 s.2)&&YK l))
theorem RD {p:Dg}(hD:P3 p.decls)(hf:p.funcs.length<=1048576)(hp :∀f∈p.funcs,f.params.length<=1048576){N:Nat}(hN:2000000<=N):Hv N p=some (Oz p.decls (p.funcs.map λf=>(f.params,f.result))):=by
 unfold Hv Oz;rw[Qm hD hN,S0 hf hp hN,DP,Cb];simp only[mR,mf,qZ,qP];cases Ml p.decls with
 | false=>simp
 | true=>
  cases hl:p.funcs with
  | nil=>simp[Ae]
  | cons f r=>
   have e0:Sh.get (f::r) 0=some f:=rfl;rw[e0];generalize (f::r).all (λf=>NS p.decls f.params f.result)=z;simp only[mz,YK];have q1:decide ((1:Int)<=Sh.len (f::r))=true:=qN (by rw[Ae,nE];omega);have q2:decide (1<=(f::r).length)=true:=by simp
   have q3:decide (Sh.len (f::r)<=4)=decide ((f::r).length<=4):=nx.2 (by rw[Ae];omega);have q4:decide (Sh.len f.params=0)=decide (f.params.length=0):=nx.2 (by rw[Ae];omega);simp only[q1,q2,q3,q4,mR];cases decide ((f::r).length<=4)<;>cases z<;>by_cases a1:f.params.length=0<;>by_cases a2:f.result=0<;>simp[a1,a2]
theorem Q7 {D:List AR}{l:List BM}(hD:P3 D)(hf:l.length<=1048576)(hp :∀f∈l,f.params.length<=1048576/\f.Ao.length<=1048576){N:Nat}(hN:2000000<=N):
  Hl N D l=some (Oz D (l.map λf=>(f.params,f.result))&&l.all (λf=>Db (Gi f.params f.Ao) 0 f.Ao)):=by
 unfold Hl Oz;rw[QU hD hN,TV hf hp hN,DP];have hsplit:(l.all λf=>NS D f.params f.result&&Db (Gi f.params f.Ao) 0 f.Ao)=((l.all λf=>NS D f.params f.result)&&(l.all λf=>Db (Gi f.params f.Ao) 0 f.Ao)):=by
  clear hf hp
  induction l with
  | nil=>rfl
  | cons f r ih=>
   simp only[pM,ih];cases NS D f.params f.result<;>cases Db (Gi f.params f.Ao) 0 f.Ao<;>simp
 rw[hsplit];simp only[mR,mf,qZ,qP];cases Ml D with
 | false=>simp
 | true=>
  cases hl:l with
  | nil=>simp[Ae]
  | cons f r=>
   have e0:Sh.get (f::r) 0=some f:=rfl;rw[e0];generalize (f::r).all (λf=>NS D f.params f.result)=z;generalize (f::r).all (λf=>Db (Gi f.params f.Ao) 0 f.Ao)=y;simp only[mz,YK];have q1:decide (Sh.len (f::r)<1)=false:=decide_eq_false (by rw[Ae,nE];omega);have q2:decide (1<=(f::r).length)=true:=by simp
   have q3:decide ((4:Int)<Sh.len (f::r))=!decide ((f::r).length<=4):=by rw[<- decide_not];exact nx.2 (by rw[Ae];omega)
   have q4:decide ((0:Int)<Sh.len f.params)=!decide (f.params.length=0):=by rw[<- decide_not];exact nx.2 (by rw[Ae];omega)
   simp only[q1,q2,q3,q4,mR];cases decide ((f::r).length<=4)<;>cases z<;>cases y<;>by_cases a1:f.params.length=0<;>by_cases a2:f.result=0<;>simp[a1,a2]
end RC
namespace RC
open Go
def nc (D:List AR):Nat:=(D.map (·.cons.length)).sum
theorem MC {D:List AR}{i:Nat}{d:AR}(h:D[i]?=some d):nc (D.take (i+1))=nc (D.take i)+d.cons.length:=by
 rw[CO h];simp[nc]
theorem Sj {D:List AR}{i:Nat}{d:AR}(h:D[i]?=some d):nc (D.drop i)=d.cons.length+nc (D.drop (i+1)):=by
 rw[drop_cons h];simp[nc]
theorem HH (D:List AR)(i:Nat):nc D=nc (D.take i)+nc (D.drop i):=by
 unfold nc;rw[<- List.sum_append_nat,<- oF,pI]
theorem H2 {D:List AR}(hD:D.length<=1048576)(hn:nc D<=1048576){i:Nat}(hi:i<=D.length){N:Nat}(hN:2000000<=N):GU N D i=some (nc (D.take i):Int):=by
 unfold GU;have key:∀{N j:Nat},j<=i->i-j<N->D4 D i N (nc (D.take j)) j=some (nc (D.take i):Int):=by
  intro N j hj hN;refine A4 i (λN j=>D4 D i N (nc (D.take j)) j=some (nc (D.take i):Int)) ?_ ?_ hj hN
  ·intro n;rw[D4,mj (by simp)]
  ·intro n j hj ih;obtain⟨d,hd,_⟩:=Ax (l:=D) (i:=j) (by omega);have hs:=HH D (j+1);have ht:=MC hd;rw[D4,me (by simp;omega),An hd,mR,Ae,wI (n:=(j:Int)+1),wI,show ((nc (D.take j):Int)+(d.cons.length:Int))=((nc (D.take (j+1)):Nat):Int) by omega,show ((j:Int)+1)=((j+1:Nat):Int) by omega];exact ih
 have:=key (mi _) (by omega:i-0<N);rw[show (((nc (D.take 0):Nat):Int))=0 from rfl,show (((0:Nat):Int))=0 from rfl]at this;rw[this];rfl
theorem R4 {D:List AR}(hD:D.length<=1048576)(hn:nc D<=1048576){N:Nat}(hN:2000000<=N):IN N D=some (nc D:Int):=by
 unfold IN;have key:∀{N j:Nat},j<=D.length->D.length-j<N->D2 D N (nc (D.take j)) j=some (nc D:Int):=by
  intro N j hj hN;refine A4 D.length (λN j=>D2 D N (nc (D.take j)) j=some (nc D:Int)) ?_ ?_ hj hN
  ·intro n;rw[D2,CG,nT]
  ·intro n j hj ih;obtain⟨d,hd,_⟩:=Ax hj;have hs:=HH D (j+1);have ht:=MC hd;rw[D2,Cf,An hd,mR,Ae,wI (n:=(j:Int)+1),wI,show ((nc (D.take j):Int)+(d.cons.length:Int))=((nc (D.take (j+1)):Nat):Int) by omega,show ((j:Int)+1)=((j+1:Nat):Int) by omega];exact ih
 have:=key (mi _) (by omega:D.length-0<N);rw[show (((nc (D.take 0):Nat):Int))=0 from rfl,show (((0:Nat):Int))=0 from rfl]at this;rw[this];rfl
def Lf:List AR->Nat->Nat->Option (Nat×BN)
 | [],_,_=>none
 | d::r,k,c=>match d.cons[c]? with
  | some x=>some (k+1,x)
  | none=>Lf r (k+1) (c-d.cons.length)
theorem O9 {D:List AR}(hD:D.length<=1048576)(hn:nc D<=1048576){c:Nat}(hc:c<nc D){N:Nat}(hN:2000000<=N):∃t x,Lf D 0 c=some (t,x)/\HR N D c=some ((t:Int),x):=by
 have key:∀(m j N c:Nat),D.length-j=m->j<=D.length->m<N->c<nc (D.drop j)->∃t x,Lf (D.drop j) j c=some (t,x)/\Eo D N c j=some (.inl ((t:Int),x)):=by
  intro m
  induction m with
  | zero=>
   intro j N c h1 h2 _ h3;rw[pB (by omega)]at h3;simp[nc]at h3
  | succ m ih=>
   intro j N c h1 h2 h3 h4;obtain⟨N,rfl⟩ :∃n,N=n+1:=⟨N-1,by omega⟩
   obtain⟨d,hd,_⟩:=Ax (l:=D) (i:=j) (by omega);have hs:=HH D j;rw[Sj hd]at h4 hs;rw[drop_cons hd];unfold Lf;rw[Eo,Cf,An hd,mR,me (by simp),Ae,wI (n:=(j:Int)+1),wI];cases hx:d.cons[c]? with
   | some x=>
    have rh:=(mT.1 hx).1;refine⟨j+1,x,rfl,?_⟩;have e:((c:Int)<(d.cons.length:Int)):=by omega
    simp[e,An hx]
   | none=>
    have hle:d.cons.length<=c:=by simpa using hx
    obtain⟨t,x,g1,g2⟩:=ih (j+1) N (c-d.cons.length) (by omega) (by omega) (by omega) (by omega);refine⟨t,x,g1,?_⟩;have e:¬ ((c:Int)<(d.cons.length:Int)):=by omega
    rw[<- g2,show ((c:Int)-(d.cons.length:Int))=((c-d.cons.length:Nat):Int) by omega,show ((j:Int)+1)=((j+1:Nat):Int) by omega];simp[e]
 obtain⟨t,x,g1,g2⟩:=key D.length 0 N c (by omega) (by omega) (by omega) (by simpa using hc);refine⟨t,x,by simpa using g1,?_⟩;unfold HR;rw[show (((0:Nat):Int))=0 from rfl]at g2;rw[g2];rfl
end RC
namespace RC
open Go
theorem Nv {D:List AR}(hD:D.length<=1048576)(hn:nc D<=1048576){c:Nat}(hc:c<nc D){N:Nat}(hN:2000000<=N):∃t x,Lf D 0 c=some (t,x)/\Cx N D c=some (t:Int):=by
 have key:∀(m j M c:Nat),D.length-j=m->j<=D.length->m<M->c<nc (D.drop j)->∃t x,Lf (D.drop j) j c=some (t,x)/\DF N D ((nc (D.take j)+c:Nat):Int) M j=some (.inl (t:Int)):=by
  intro m
  induction m with
  | zero=>
   intro j M c h1 h2 _ h3;rw[pB (by omega)]at h3;simp[nc]at h3
  | succ m ih=>
   intro j M c h1 h2 h3 h4;obtain⟨M,rfl⟩ :∃n,M=n+1:=⟨M-1,by omega⟩
   obtain⟨d,hd,_⟩:=Ax (l:=D) (i:=j) (by omega);have hs:=HH D j;rw[Sj hd]at h4 hs;have ht:=MC hd;rw[drop_cons hd];unfold Lf;rw[DF,Cf,H2 hD hn (by omega) hN,An hd];simp only[mR];rw[Ae,wI (n:=(j:Int)+1),wI (n:=(nc (D.take j):Int)+(d.cons.length:Int)),wI,Cb];simp only[mR];cases hx:d.cons[c]? with
   | some x=>
    have rh:=(mT.1 hx).1;refine⟨j+1,x,rfl,?_⟩;rw[me (by simp;omega)];rfl
   | none=>
    have hle:d.cons.length<=c:=by simpa using hx
    obtain⟨t,x,g1,g2⟩:=ih (j+1) M (c-d.cons.length) (by omega) (by omega) (by omega) (by omega);refine⟨t,x,g1,?_⟩;rw[mj (by simp;omega),<- g2,show nc (D.take j)+c=nc (D.take (j+1))+(c-d.cons.length) by omega];rfl
 obtain⟨t,x,g1,g2⟩:=key D.length 0 N c (by omega) (by omega) (by omega) (by simpa using hc);refine⟨t,x,by simpa using g1,?_⟩;unfold Cx;rw[show nc (D.take 0)+c=c by simp[nc],show (((0:Nat):Int))=0 from rfl]at g2;rw[g2];rfl
theorem Mt {D:List AR}(hD:D.length<=1048576)(hn:nc D<=1048576){c:Int}(hc:c<0∨(nc D:Int)<=c){N:Nat}(hN:2000000<=N):Cx N D c=some (-1):=by
 unfold Cx;have key:∀{M j:Nat},j<=D.length->D.length-j<M->DF N D c M j=some (.inr ()):=by
  intro M j hj hM;refine A4 D.length (λM j=>DF N D c M j=some (.inr ())) ?_ ?_ hj hM
  ·intro n;rw[DF,CG]
  ·intro n j hj ih;obtain⟨d,hd,_⟩:=Ax hj;have hs:=HH D (j+1);have ht:=MC hd;rw[DF,Cf,H2 hD hn (by omega) hN,An hd];simp only[mR];rw[Ae,wI (n:=(j:Int)+1),wI (n:=(nc (D.take j):Int)+(d.cons.length:Int)),wI,Cb];simp only[mR];rw[mj (by simp;omega)];exact ih
 have:=key (mi _) (by omega:D.length-0<N);rw[show (((0:Nat):Int))=0 from rfl]at this;rw[this];rfl
end RC
namespace RC
open Go
theorem aO {D:List AR}:∀(m j c t:Nat) (x:BN),D.length-j=m->j<=D.length->Lf (D.drop j) j c=some (t,x)->∃d,1<=t/\D[t-1]?=some d/\nc (D.take (t-1))<=nc (D.take j)+c/\d.cons[nc (D.take j)+c-nc (D.take (t-1))]?=some x:=by
 intro m
 induction m with
 | zero=>
  intro j c t x h1 h2 h;rw[pB (by omega)]at h;simp[Lf]at h
 | succ m ih=>
  intro j c t x h1 h2 h;obtain⟨d,hd,_⟩:=Ax (l:=D) (i:=j) (by omega);have ht:=MC hd;rw[drop_cons hd]at h;unfold Lf at h;cases hx:d.cons[c]? with
  | some y=>
   rw[hx]at h;simp only[mU,qV]at h;obtain⟨rfl,rfl⟩:=h;exact⟨d,by omega,by simpa using hd,by simp,by simpa using hx⟩
  | none=>
   rw[hx]at h;have hle:d.cons.length<=c:=by simpa using hx
   obtain⟨e,g1,g2,g3,g4⟩:=ih (j+1) (c-d.cons.length) t x (by omega) (by omega) h;rw[show nc (D.take (j+1))+(c-d.cons.length)=nc (D.take j)+c by omega]at g3 g4;exact⟨e,g1,g2,g3,g4⟩
theorem JW {D:List AR}(hD:D.length<=1048576)(hn:nc D<=1048576){c:Nat}(hc:c<nc D){N:Nat}(hN:2000000<=N):∃t x,Lf D 0 c=some (t,x)/\B5 N D c=some x.fields:=by
 obtain⟨t,x,e1,e2⟩:=Nv hD hn hc hN;obtain⟨d,g1,g2,g3,g4⟩:=aO (D:=D) D.length 0 c t x (by omega) (by omega) (by simpa using e1);have rh:=(mT.1 g2).1;have hs:=HH D (t-1);rw[show nc (D.take 0)+c=c by simp[nc]]at g3 g4;refine⟨t,x,e1,?_⟩;unfold B5;rw[e2];simp only[mR];rw[mj (by simp;omega),wI (n:=(t:Int)-1),show ((t:Int)-1)=((t-1:Nat):Int) by omega,An g2,H2 hD hn (by omega) hN];simp only[mR];rw[wI,show ((c:Int)-(nc (D.take (t-1)):Int))=((c-nc (D.take (t-1)):Nat):Int) by omega,An g4];rfl
theorem SW {D:List AR}(hD:D.length<=1048576)(hn:nc D<=1048576){c:Nat}(hc:c<nc D){N:Nat}(hN:2000000<=N):∃t x,Lf D 0 c=some (t,x)/\GZ N D c=some x.fields:=by
 obtain⟨t,x,e1,e2⟩:=O9 hD hn hc hN;exact⟨t,x,e1,by unfold GZ;rw[e2];rfl⟩
end RC
namespace RC
open Go
def En (D:List AR)(t:Int):List Int:=
 if 1<=t/\t<=(D.length:Int) then (List.range ((D[(t-1).toNat]?).elim 0 (·.cons.length))).map λ(i:Nat)=>(nc (D.take (t-1).toNat):Int)+(i:Int) else []
theorem Tu {f:Nat->Int}{i:Nat}:(List.range (i+1)).map f=(List.range i).map f++[f i]:=by rw[List.range_succ,oF];rfl
theorem UK {D:List AR}(hD:D.length<=1048576)(hn:nc D<=1048576){t:Int}{N:Nat}(hN:2000000<=N):J2 N D t=some (En D t):=by
 unfold J2 En;rw[Cb,Ae,mR];by_cases h:1<=t/\t<=(D.length:Int)
 ·obtain⟨a,ha⟩ :∃a:Nat,t=(a:Int)+1:=⟨(t-1).toNat,by omega⟩
  subst ha;obtain⟨d,hd,_⟩:=Ax (l:=D) (i:=a) (by omega);have hs:=HH D (a+1);have ht:=MC hd;rw[mj (by simp;omega),me h,show (((a:Int)+1)-1).toNat=a by omega,hd];simp only[oG];have key:∀{M i:Nat},i<=d.cons.length->d.cons.length-i<M->Es N D ((a:Int)+1) M i ((List.range i).map λ(i:Nat)=>(nc (D.take a):Int)+(i:Int))=some ((List.range d.cons.length).map λ(i:Nat)=>(nc (D.take a):Int)+(i:Int)):=by
   intro M i hi hM;refine A4 d.cons.length (λM i=>Es N D ((a:Int)+1) M i ((List.range i).map λ(i:Nat)=>(nc (D.take a):Int)+(i:Int))=some ((List.range d.cons.length).map λ(i:Nat)=>(nc (D.take a):Int)+(i:Int))) ?_ ?_ hi hM
   ·intro n;rw[Es,wI,show ((a:Int)+1-1)=((a:Nat):Int) by omega,An hd,mR,CG]
   ·intro n i hi ih;rw[Es,wI (n:=(a:Int)+1-1),show ((a:Int)+1-1)=((a:Nat):Int) by omega,An hd,mR,Cf,H2 hD hn (by omega) hN,mR,DD _ _ _ (by simp;omega) (by simp;omega),wI (n:=(i:Int)+1),wI,show ((i:Int)+1)=((i+1:Nat):Int) by omega,mR,<- ih,Tu]
  have:=key (mi _) (by omega:d.cons.length-0<N);rw[show (((0:Nat):Int))=0 from rfl,List.range_zero,od]at this;rw[this];rfl
 ·rw[me (by simp;omega),mj h]
theorem UJ {D:List AR}(hD:D.length<=1048576)(hn:nc D<=1048576){t:Int}{N:Nat}(hN:2000000<=N):J9 N D t=some (En D t):=by
 unfold J9 En;rw[Ae];by_cases h:1<=t/\t<=(D.length:Int)
 ·obtain⟨a,ha⟩ :∃a:Nat,t=(a:Int)+1:=⟨(t-1).toNat,by omega⟩
  subst ha;obtain⟨d,hd,_⟩:=Ax (l:=D) (i:=a) (by omega);have hs:=HH D (a+1);have hs0:=HH D a;have ht:=MC hd;have e1:¬ ((a:Int)+1<1):=by omega
  have e2:¬ ((D.length:Int)<(a:Int)+1):=by omega
  rw[me h,show (((a:Int)+1)-1).toNat=a by omega,hd,wI,show ((a:Int)+1-1)=((a:Nat):Int) by omega,Ze (by omega) (by omega),An hd];simp only[oG,e1,e2,nH,mW,my,mR];rw[R4 (by simp;omega) (by omega) hN,mR];have key:∀{M i:Nat},i<=d.cons.length->d.cons.length-i<M->Eu d (nc (D.take a):Int) M i ((List.range i).map λ(i:Nat)=>(nc (D.take a):Int)+(i:Int))=some ((List.range d.cons.length).map λ(i:Nat)=>(nc (D.take a):Int)+(i:Int)):=by
   intro M i hi hM;refine A4 d.cons.length (λM i=>Eu d (nc (D.take a):Int) M i ((List.range i).map λ(i:Nat)=>(nc (D.take a):Int)+(i:Int))=some ((List.range d.cons.length).map λ(i:Nat)=>(nc (D.take a):Int)+(i:Int))) ?_ ?_ hi hM
   ·intro n;rw[Eu,CG]
   ·intro n i hi ih;rw[Eu,Cf];rw[DD _ _ _ (by simp;omega) (by simp;omega),wI (n:=(i:Int)+1),wI,show ((i:Int)+1)=((i+1:Nat):Int) by omega,mR,<- ih,Tu]
  have:=key (mi _) (by omega:d.cons.length-0<N);rw[show (((0:Nat):Int))=0 from rfl,List.range_zero,od]at this;rw[this];rfl
 ·rw[mj h];by_cases e1:t<1
  ·simp[e1]
  ·have e2:(D.length:Int)<t:=by omega
   simp[e1,e2]
end RC
namespace RC
open Go
theorem VD {α:Type}{l:List α}(f:α->Nat)(L:Nat->Int->Int->Option (Int ⊕ Int))(h0 :∀n left,L (n+1) left (l.length:Int)=some (.inr left))
  (hs :∀n (i:Nat) x left,l[i]?=some x->0<=left->left<=1048576->L (n+1) left (i:Int)=if left-(f x:Int)<0 then some (.inl (-1)) else L n (left-(f x:Int)) ((i+1:Nat):Int))
  {N:Nat} (hN:l.length<N) {left:Int} (hl0:0<=left) (hl1:left<=1048576):L N left 0=some (if left-((l.map f).sum:Nat)<0 then .inl (-1) else .inr (left-((l.map f).sum:Nat))):=by
 have key:∀{N i:Nat},i<=l.length->l.length-i<N->∀left:Int,0<=left->left<=1048576->L N left (i:Int)=some (if left-(((l.drop i).map f).sum:Nat)<0 then .inl (-1) else .inr (left-(((l.drop i).map f).sum:Nat))):=by
  intro N i hi hN;refine A4 l.length (λN i=>∀left:Int,0<=left->left<=1048576->L N left (i:Int)=some (if left-(((l.drop i).map f).sum:Nat)<0 then .inl (-1) else .inr (left-(((l.drop i).map f).sum:Nat)))) ?_ ?_ hi hN
  ·intro n left a b;rw[h0,nf];simp;omega
  ·intro n i hi ih left a b;obtain⟨x,hx,_⟩:=Ax hi;rw[hs n i x left hx a b,drop_cons hx,mz,oV];by_cases h:left-(f x:Int)<0
   ·rw[me h,me (by omega)]
   ·rw[mj h,ih (left-(f x:Int)) (by omega) (by omega)];rw[show left-((f x+(List.map f (l.drop (i+1))).sum:Nat):Int)=left-(f x:Int)-((List.map f (l.drop (i+1))).sum:Nat) by omega]
 have:=key (mi _) (by omega:l.length-0<N) left hl0 hl1;simpa using this
theorem Vt {α:Type}{l:List α}(L:Nat->Int->List α->Option (List α))(h0 :∀n m,L (n+1) (l.length:Int) m=some m)
  (hs :∀n (i:Nat) x m,l[i]?=some x->m.length=l.length->L (n+1) (i:Int) m=L n ((i+1:Nat):Int) (m.set i x)) {N:Nat} (hN:l.length<N) {m:List α} (hm:m.length=l.length):L N 0 m=some l:=by
 have key:∀{N i:Nat},i<=l.length->l.length-i<N->∀m:List α,m.length=l.length->m.take i=l.take i->L N (i:Int) m=some l:=by
  intro N i hi hN;refine A4 l.length (λN i=>∀m:List α,m.length=l.length->m.take i=l.take i->L N (i:Int) m=some l) ?_ ?_ hi hN
  ·intro n m a b;rw[h0];rw[nT,<- a,nT]at b;rw[b]
  ·intro n i hi ih m a b;obtain⟨x,hx,_⟩:=Ax hi;rw[hs n i x m hx a];refine ih (m.set i x) (by simp[a]) ?_;have tz:(m.set i x)[i]?=some x:=by rw[mc (by omega)]
   rw[CO tz,CO hx,<- b,pN (ml _)]
 exact key (mi _) (by omega:l.length-0<N) m hm rfl
end RC
namespace RC
open Go
def U5 (left:Int)(s:Nat):Int:=if left-s<0 then -1 else left-s
theorem FA {left:Int}{s:Nat}(h:left-s<0):U5 left s=-1:=me h
theorem Gk {left:Int}{s:Nat}(h:¬ left-s<0):U5 left s=left-s:=mj h
def cz (c:BN):Nat:=c.fields.length
def dz (d:AR):Nat:=d.cons.length+(d.cons.map cz).sum
theorem dK {c:BN}(hc:Sp c){left:Int}(h0:0<=left)(h1:left<=1048576):LJ c left=some (U5 left (cz c)):=by
 unfold LJ;rw[OG h0 h1 hc.fields.2];unfold U5 cz;by_cases h:left-(c.fields.length:Int)<0
 ·rw[me h];rfl
 ·rw[mj h];simp[h]
theorem bf {l:List BN}(hl:Ep Sp l){left:Int}(h0:0<=left)(h1:left<=1048576){N:Nat}(hN:2000000<=N):J0 N l left=some (U5 left (l.length+(l.map cz).sum)):=by
 unfold J0;have hlen:=hl.2;rw[Ae,wI];by_cases h:left-(l.length:Int)<0
 ·rw[me (by simpa using h),FA (by omega)]
 ·rw[mj (by simpa using h),VD (l:=l) cz (FO l) (λn left=>by rw[FO,CG]) (λn i x left hx a b=>?_) (by omega) (by omega) (by omega)]
  ·by_cases g:left-(l.length:Int)-((l.map cz).sum:Nat)<0
   ·rw[me g,FA (by omega)];rfl
   ·rw[mj g,Gk (by omega)];show some _=some _;congr 1;omega
  ·have hi:=(mT.1 hx).1;rw[FO,Cf,An hx,mR,dK (hl.1 x (mS hx)) a b,wI,show ((i:Int)+1)=((i+1:Nat):Int) by omega,mR];by_cases g:left-(cz x:Int)<0
   ·rw[me g,FA g];rfl
   ·rw[mj g,Gk g,mj (by simpa using g)]
end RC
namespace RC
open Go
theorem bL {d:AR}(hd:PE d){left:Int}(h0:0<=left)(h1:left<=1048576){N:Nat}(hN:2000000<=N):Jv N d left=some (U5 left (dz d)):=by
 unfold Jv;rw[bf hd.cons h0 h1 hN,mR];by_cases a:left-((d.cons.length+(d.cons.map cz).sum:Nat):Int)<0
 ·rw[FA a,FA (by unfold dz;omega)];rfl
 ·rw[Gk a,mj (by simpa using a),Gk (by unfold dz;omega)];rfl
theorem Y9 {l:List AR}(hl:Ep PE l){left:Int}(h0:0<=left)(h1:left<=1048576){N:Nat}(hN:2000000<=N):JE N l left=some (U5 left (l.length+(l.map dz).sum)):=by
 unfold JE;have hlen:=hl.2;rw[Ae,wI];by_cases h:left-(l.length:Int)<0
 ·rw[me (by simpa using h),FA (by omega)]
 ·rw[mj (by simpa using h),VD (l:=l) dz (E8 N l) (λn left=>by rw[E8,CG]) (λn i x left hx a b=>?_) (by omega) (by omega) (by omega)]
  ·by_cases g:left-(l.length:Int)-((l.map dz).sum:Nat)<0
   ·rw[me g,FA (by omega)];rfl
   ·rw[mj g,Gk (by omega)];show some _=some _;congr 1;omega
  ·have hi:=(mT.1 hx).1;rw[E8,Cf,An hx,mR,bL (hl.1 x (mS hx)) a b hN,wI,show ((i:Int)+1)=((i+1:Nat):Int) by omega,mR];by_cases g:left-(dz x:Int)<0
   ·rw[me g,FA g];rfl
   ·rw[mj g,Gk g,mj (by simpa using g)]
end RC
namespace RC
open Go
end RC
namespace RC
open Go
def ka (op:Int):Bool:=(decide (0<=op)&&decide (op<=11)&&!decide (op=7)&&!decide (op=8)) || decide (op=18) || decide (op=19)
def preB (p:ak)(i:Ye):Bool:=
 (decide (0<=i.dst)&&decide (i.dst<p.lQ))&&(decide (i.dst=0) || ka i.op)&&(decide (i.A5=0) || decide (i.op=6))&&(decide (i.op=21) || decide (i.jumps.length=0))
end RC
namespace RC
open Go
section
variable {im : iN} {p : ak} {at_ : Nat} {i : Ye} {N : Nat}
end
end RC
namespace RC
open Go
theorem Ga {α:Type}(f:α->Nat){l:List α}{x:α}(h:x∈l):f x<=(l.map f).sum:=by
 induction l with
 | nil=>cases h
 | cons y r ih=>
  rw[mz,oV];rcases mr.1 h with rfl|h
  ·omega
  ·have:=ih h;omega
theorem dC {c:BN}(h:cz c<=1048576){N:Nat}(hN:2000000<=N):LK N c=some c:=by
 unfold cz at h;unfold LK;rw[OJ h hN];rfl
theorem bO {l:List BN}(hl:l.length+(l.map cz).sum<=1048576){N:Nat}(hN:2000000<=N):KF N l=some l:=by
 unfold KF;rw[Ae,MT _ _ _ (by omega) (by omega)];simp only[mR];rw[Vt (l:=l) (FP N l) (λn m=>by rw[FP,CG]) (λn i x m hx hm=>?_) (by omega) (by simp)]
 ·rfl
 ·have hi:=(mT.1 hx).1;have hz:=Ga cz (mS hx);obtain⟨y,hy,_⟩:=Ax (l:=m) (i:=i) (by omega);rw[FP,Cf,An hx];simp only[mR];rw[dC (by omega) hN,An hy];simp only[mR];rw[Ky,wI,show ((i:Int)+1)=((i+1:Nat):Int) by omega]
theorem bE {d:AR}(h:dz d<=1048576){N:Nat}(hN:2000000<=N):J5 N d=some d:=by
 unfold dz at h;unfold J5;rw[bO h hN];rfl
theorem Yp {l:List AR}(hl:l.length+(l.map dz).sum<=1048576){N:Nat}(hN:2000000<=N):I8 N l=some l:=by
 unfold I8;rw[Ae,MT _ _ _ (by omega) (by omega)];simp only[mR];rw[Vt (l:=l) (E6 N l) (λn m=>by rw[E6,CG]) (λn i x m hx hm=>?_) (by omega) (by simp)]
 ·rfl
 ·have hi:=(mT.1 hx).1;have hz:=Ga dz (mS hx);obtain⟨y,hy,_⟩:=Ax (l:=m) (i:=i) (by omega);rw[E6,Cf,An hx];simp only[mR];rw[bE (by omega) hN,An hy];simp only[mR];rw[Ky,wI,show ((i:Int)+1)=((i+1:Nat):Int) by omega]
end RC
namespace RC
open Go
theorem db {c:BN}(h:cz c<=1048576){N:Nat}(hN:2000000<=N):LL N c c=some true:=by
 unfold cz at h;unfold LL;rw[OI h hN];rfl
theorem aD {l:List BN}(hl:l.length+(l.map cz).sum<=1048576){N:Nat}(hN:2000000<=N):Js N l l=some true:=by
 unfold Js;have L:=Cj (l:=l) (FN N l l) (λ_ _=>true) (λn=>by rw[FN,CG]) (λn i x hx=>?_) (by omega:l.length<N)
 ·rw[Dr (p:=λ_=>true)]at L;simp[L,Sh.cont]
 ·have hi:=(mT.1 hx).1;have hz:=Ga cz (mS hx);rw[FN,Cf,An hx];simp only[mR];rw[db (by omega) hN,wI,show ((i:Int)+1)=((i+1:Nat):Int) by omega];rfl
theorem aK {d:AR}(h:dz d<=1048576){N:Nat}(hN:2000000<=N):Jl N d d=some true:=by
 unfold dz at h;unfold Jl;rw[aD h hN];simp
theorem ZR {l:List AR}(hl:l.length+(l.map dz).sum<=1048576){N:Nat}(hN:2000000<=N):JC N l l=some true:=by
 unfold JC;have L:=Cj (l:=l) (E5 N l l) (λ_ _=>true) (λn=>by rw[E5,CG]) (λn i x hx=>?_) (by omega:l.length<N)
 ·rw[Dr (p:=λ_=>true)]at L;simp[L,Sh.cont]
 ·have hi:=(mT.1 hx).1;have hz:=Ga dz (mS hx);rw[E5,Cf,An hx];simp only[mR];rw[aK (by omega) hN,wI,show ((i:Int)+1)=((i+1:Nat):Int) by omega];rfl
end RC
namespace RC
open Go
end RC
namespace RC
open Go
end RC
namespace RC
open Go
theorem Mr {α:Type}{g:Nat->α->Bool}:∀(l:List α) (k:Nat),Db g k l=true↔∀(i:Nat) x,l[i]?=some x->g (k+i) x=true
 | [],_=>by simp[Db]
 | x::r,k=>by
  rw[Db,mh,Mr r (k+1)];constructor
  ·rintro⟨h1,h2⟩ i y hy;cases i with
   | zero=>simp only[mw,mU]at hy;subst hy;exact h1
   | succ i=>have:=h2 i y hy;rw[show k+(i+1)=k+1+i by omega];exact this
  ·intro h;exact⟨h 0 x rfl,λi y hy=>by have:=h (i+1) y hy;rw[show k+(i+1)=k+1+i by omega]at this;exact this⟩
theorem XX {a b:List Int}(h:a.length=b.length):Db (λi x=>decide (b[i]?=some x)) 0 a=decide (a=b):=by
 rw[Bool.eq_iff_iff,Mr,pF];constructor
 ·intro g;refine oU λi=>?_;by_cases hi:i<a.length
  ·obtain⟨x,hx,_⟩:=Ax hi;have:=g i x hx;rw[pF,ns]at this;rw[hx,this]
  ·rw[nG (by omega),nG (by omega)]
 ·rintro rfl i x hx;rw[pF,ns,hx]
theorem Na {a b:List Int}(ha:a.length<=1048576){N:Nat}(hN:2000000<=N):CZ N a b=some (decide (a=b)):=by
 unfold CZ;by_cases h:a.length=b.length
 ·rw[mj (by simp[Ae,h]),Cj (l:=a) (CE a b) (λi x=>decide (b[i]?=some x)) (λn=>by rw[CE,CG]) (λn i x hx=>?_) (by omega),DP,XX h]
  ·cases decide (a=b)<;>rfl
  ·have hi:=(mT.1 hx).1;obtain⟨y,hy,_⟩:=Ax (l:=b) (i:=i) (by omega);rw[CE,Cf,An hx,mR,An hy,hy,wI,show ((i:Int)+1)=((i+1:Nat):Int) by omega,mR];by_cases e:x=y
   ·simp[e]
   ·have e':¬ y=x:=λq=>e q.symm;simp[e,e']
 ·have sB:¬ a=b:=λe=>h (by rw[e]);have h':¬ ((a.length:Int)=(b.length:Int)):=by omega
  simp[Ae,h',sB]
structure NI (D:List AR) (F:List HZ):Prop where
 Pj:D.length<=4
 VM :∀d∈D,d.cons.length<=3
 NV :∀d∈D,∀c∈d.cons,c.fields.length<=3/\∀t∈c.fields,Cw D t=true
 lL :∀d∈D,Cw D d.from_=true/\Cw D d.to=true
 jW:F.length<=4
 bj :∀f∈F,f.params.length<=3/\(∀t∈f.params,Cw D t=true)/\Cw D f.result=true
theorem fw {D:List AR}(h :∀d∈D,d.cons.length<=3):nc D<=3*D.length:=by
 induction D with
 | nil=>simp[nc]
 | cons d r ih=>
  have h1:=h d (by simp);have h2:=ih λe he=>h e (by simp[he]);simp only[nc,mz,oV,nE]at h2⊢;omega
theorem NI.nc {D:List AR}{F:List HZ}(S:NI D F):nc D<=12:=by have:=fw S.VM;have:=S.Pj;omega
theorem Mn {D:List AR}{t:Int}(h:Cw D t=true):0<=t/\t<=(D.length:Int):=by
 unfold Cw at h;simpa using h
theorem NI.of {p:Dg}(h:Oz p.decls (p.funcs.map λf=>(f.params,f.result))=true):NI p.decls p.funcs:=by
 unfold Oz at h;simp only[mh,mf,qZ,mv]at h;obtain⟨h1,⟨_,h2⟩,h3,_⟩:=h;unfold Ml at h1;simp only[mh,mv]at h1;obtain⟨h4,h5⟩:=h1;rw[Mr]at h5;have hd:∀d∈p.decls,∃i,Ld p.decls i d=true:=λd hd=>by
  obtain⟨i,hi⟩:=nC.1 hd;exact⟨_,h5 i d hi⟩
 refine⟨h4,λd hm=>?_,λd hm c hc=>?_,λd hm=>?_,h2,λf hf=>?_⟩
 ·obtain⟨i,hi⟩:=hd d hm;unfold Ld at hi;split at hi
  ·simp only[mh,mv]at hi;exact hi.1.1
  ·omega
 ·obtain⟨i,hi⟩:=hd d hm;unfold Ld at hi;split at hi
  ·simp only[mh,mv,ma]at hi;have:=hi.2 c hc;unfold Q1 at this;simp only[mh,mv,ma]at this;exact this
  ·have:=oc hc;omega
 ·obtain⟨i,hi⟩:=hd d hm;unfold Ld at hi;split at hi
  ·simp only[mh,mv]at hi;rw[hi.1.2.1,hi.1.2.2];have:Cw p.decls 0=true:=by unfold Cw;simp
   exact⟨this,this⟩
  ·simp only[mh]at hi;exact hi.2
 ·have:=ma.1 h3 f hf;simp only[Function.comp,NS,mh,mv,ma]at this;exact this
section
variable {p : Dg} {sg : Aq} {R1 : Dg -> List Int -> Da -> Option Int} {R2 : List Int -> Aq -> Da -> Option Int} {T : List Int -> Da -> Int} {e : Da} {v : List Int} {N : Nat}
def GJ:List Int->Int
 | []=>-1
 | t::r=>if r.all (λx=>decide (x=t))=true then t else -1
end
end RC
namespace RC
open Go
theorem bn {n:Int}(h1:n < -9223372036854775808)(h2:-18446744073709551616<=n):Sh.w n=n+18446744073709551616:=by
 unfold Sh.w;rw[IntKind.wrap_i64];omega
theorem UW {D:List AR}(hD:D.length<=1048576)(hn:nc D<=1048576){c:Int}(hI:Ji c)(hc:c<0∨(nc D:Int)<=c){N:Nat}(hN:2000000<=N):HR N D c=some (-1,⟨[]⟩):=by
 have key:∀(m j N:Nat) (c:Int),D.length-j=m->j<=D.length->m<N->Ji c->(c<0∨(nc (D.drop j):Int)<=c)->Eo D N c j=some (.inr ()):=by
  intro m
  induction m with
  | zero=>
   intro j N c h1 h2 h3 _ _;obtain⟨N,rfl⟩ :∃n,N=n+1:=⟨N-1,by omega⟩
   rw[Eo,mj (by simp[Ae];omega)]
  | succ m ih=>
   intro j N c h1 h2 h3 hI h4;obtain⟨N,rfl⟩ :∃n,N=n+1:=⟨N-1,by omega⟩
   obtain⟨d,hd,_⟩:=Ax (l:=D) (i:=j) (by omega);have hs:=HH D j;rw[Sj hd]at h4 hs;rw[Eo,Cf,An hd,mR];have yu:=hI.1;have xY:=hI.2;have e1:¬ (0<=c/\c<(d.cons.length:Int)):=by omega
   have e2:(if decide (0<=c)=true then some (decide (c<Sh.len d.cons)) else some false)=some false:=by
    by_cases h0:0<=c
    ·have:¬ c<(d.cons.length:Int):=by omega
     simp[h0,Ae,this]
    ·simp[h0]
   rw[wI (n:=(j:Int)+1),show ((j:Int)+1)=((j+1:Nat):Int) by omega,Ae];rw[Ae]at e2;by_cases h5:c-(d.cons.length:Int) < -9223372036854775808
   ·have:=ih (j+1) N (Sh.w (c-(d.cons.length:Int))) (by omega) (by omega) (by omega) (by rw[bn h5 (by omega)];unfold Ji;omega) (by rw[bn h5 (by omega)];omega);rw[e2];simp only[mR,mW,my];exact this
   ·have:=ih (j+1) N (Sh.w (c-(d.cons.length:Int))) (by omega) (by omega) (by omega) (by rw[wI];unfold Ji;omega) (by rw[wI];omega);rw[e2];simp only[mR,mW,my];exact this
 have:=key D.length 0 N c (by omega) (by omega) (by omega) hI (by simpa using hc);unfold HR;rw[show (((0:Nat):Int))=0 from rfl]at this;rw[this];rfl
theorem QF:∀{D:List AR} {k c t:Nat} {x:BN},Lf D k c=some (t,x)->k<t/\t<=k+D.length/\∃d∈D,x∈d.cons
 | [],_,_,_,_,h=>by simp[Lf]at h
 | d::r,k,c,t,x,h=>by
  unfold Lf at h;cases hx:d.cons[c]? with
  | some y=>
   rw[hx]at h;simp only[mU,qV]at h;obtain⟨rfl,rfl⟩:=h;exact⟨by omega,by simp,d,by simp,mS hx⟩
  | none=>
   rw[hx]at h;obtain⟨h1,h2,e,h3,h4⟩:=QF h;exact⟨by omega,by simp;omega,e,by simp[h3],h4⟩
def TN (a b:Int)(d:AR):Bool:=decide (d.cons.length=0)&&(decide (d.from_=a)&&decide (d.to=b))
def H3 (a b:Int):List AR->Nat->Int
 | [],_=>-1
 | d::r,k=>if TN a b d=true then (k:Int)+1 else H3 a b r (k+1)
theorem Yu {a b:Int}:∀(l:List AR) (k:Nat),H3 a b l k=-1∨((k:Int)<H3 a b l k/\H3 a b l k<=k+l.length)
 | [],_=>.inl rfl
 | d::r,k=>by
  unfold H3;by_cases h:TN a b d=true
  ·rw[me h];right;simp only[nE];omega
  ·rw[mj h];rcases Yu r (k+1) with h1|h1
   ·exact .inl h1
   ·right;simp only[nE];omega
theorem XA {a b:Int}{d:AR}:(if decide ((Sh.len d.cons)=0)=true then if decide (d.from_=a)=true then some (decide (d.to=b)) else some false else some false)=some (TN a b d):=by
 unfold TN;by_cases h1:d.cons.length=0<;>by_cases h2:d.from_=a<;>simp[Ae,h1,h2]
theorem Te {D:List AR}(hD:D.length<=1048576){a b:Int}{N:Nat}(hN:2000000<=N):Hw N D a b=some (H3 a b D 0):=by
 unfold Hw;have key:∀{M i:Nat},i<=D.length->D.length-i<M->Sh.cont (ER D a b M i) id (λ()=>some (-1))=some (H3 a b (D.drop i) i):=by
  intro M i hi hM;refine A4 D.length (λM i=>Sh.cont (ER D a b M i) id (λ()=>some (-1))=some (H3 a b (D.drop i) i)) ?_ ?_ hi hM
  ·intro n;rw[ER,CG];simp[H3,Sh.cont]
  ·intro n i hi ih;obtain⟨d,hd,_⟩:=Ax hi;rw[ER,Cf,An hd,drop_cons hd,mR,XA,wI,show ((i:Int)+1)=((i+1:Nat):Int) by omega];simp only[mR,H3];by_cases h:TN a b d=true
   ·rw[me h,me h];simp[Sh.cont]
   ·rw[mj h,mj h,ih]
 have:=key (mi _) (by omega:D.length-0<N);simpa using this
theorem Sq {D:List AR}(hD:D.length<=1048576){a b:Int}{N:Nat}(hN:2000000<=N):I7 N D a b=some (H3 a b D 0):=by
 unfold I7;have key:∀{M i:Nat},i<=D.length->D.length-i<M->Sh.cont (EJ D a b M i) id (λ()=>some (-1))=some (H3 a b (D.drop i) i):=by
  intro M i hi hM;refine A4 D.length (λM i=>Sh.cont (EJ D a b M i) id (λ()=>some (-1))=some (H3 a b (D.drop i) i)) ?_ ?_ hi hM
  ·intro n;rw[EJ,CG];simp[H3,Sh.cont]
  ·intro n i hi ih;obtain⟨d,hd,_⟩:=Ax hi;rw[EJ,Cf,An hd,drop_cons hd,mR,XA,wI,show ((i:Int)+1)=((i+1:Nat):Int) by omega];simp only[mR,H3];by_cases h:TN a b d=true
   ·rw[me h,me h];simp[Sh.cont]
   ·rw[mj h,mj h,ih]
 have:=key (mi _) (by omega:D.length-0<N);simpa using this
def J8 (D:List AR)(t:Int):Option AR:=if 1<=t/\t<=(D.length:Int) then (D[(t-1).toNat]?).bind λd=>if d.cons.length=0 then some d else none else none
theorem XD {D:List AR}{t:Int}{d:AR}(h:J8 D t=some d):d∈D/\1<=t/\t<=(D.length:Int)/\D[(t-1).toNat]?=some d:=by
 unfold J8 at h;split at h
 ·rename_i h1;obtain⟨e,he,h2⟩:=nK.1 h;split at h2
  ·cases h2;exact⟨mS he,h1.1,h1.2,he⟩
  ·cases h2
 ·cases h
theorem NP {D:List AR}(hD:D.length<=1048576){t:Int}:Gx D t=some ((J8 D t).elim (⟨0,0,[]⟩,false) λd=>(d,true)):=by
 unfold Gx J8;by_cases h:1<=t/\t<=(D.length:Int)
 ·obtain⟨a,ha⟩ :∃a:Nat,t=(a:Int)+1:=⟨(t-1).toNat,by omega⟩
  subst ha;obtain⟨d,hd,_⟩:=Ax (l:=D) (i:=a) (by omega);have e1:¬ ((a:Int)+1<1):=by omega
  have e2:¬ ((D.length:Int)<(a:Int)+1):=by omega
  rw[me h,wI,show ((a:Int)+1-1)=((a:Nat):Int) by omega,An hd,oJ,hd];by_cases h2:d.cons.length=0
  ·have zA:d.cons=[]:=nI h2;simp[e1,e2,Ae,zA]
  ·have h3:0<d.cons.length:=by omega
   have zA:¬ d.cons=[]:=λq=>h2 (by rw[q];rfl);simp[e1,e2,Ae,zA,h3]
 ·rw[mj h];by_cases h1:t<1
  ·simp[h1]
  ·have h2:(D.length:Int)<t:=by omega
   simp[h1,Ae,h2]
theorem Nq {D:List AR}(hD:D.length<=1048576){t:Int}:Gy D t=some (J8 D t).isSome:=by
 unfold Gy J8;rw[Cb];by_cases h:1<=t/\t<=(D.length:Int)
 ·obtain⟨a,ha⟩ :∃a:Nat,t=(a:Int)+1:=⟨(t-1).toNat,by omega⟩
  subst ha;obtain⟨d,hd,_⟩:=Ax (l:=D) (i:=a) (by omega);have e1:((1:Int)<=(a:Int)+1):=by omega
  have e2:((a:Int)+1<=(D.length:Int)):=by omega
  rw[me h,wI,show ((a:Int)+1-1)=((a:Nat):Int) by omega,An hd,oJ,hd];by_cases h2:d.cons=[]<;>simp[e1,e2,Ae,h2]
 ·rw[mj h];have:(decide (1<=t)&&decide (t<=Sh.len D))=false:=by
   rw[Ae];by_cases h1:1<=t
   ·have h2:¬ t<=(D.length:Int):=λq=>h ⟨h1,q⟩;simp[h1,h2]
   ·simp[h1]
  simp[this]
section
variable {p : Dg} {sg : Aq} {R1 : Dg -> List Int -> Da -> Option Int} {R2 : List Int -> Aq -> Da -> Option Int} {T : List Int -> Da -> Int} {e : Da} {v : List Int} {N : Nat}
end
end RC
namespace RC
open Go
section
variable {p : Dg} {R1 : Dg -> List Int -> Da -> Option Int} {R2 : List Int -> Aq -> Da -> Option Int} {T : List Int -> Da -> Int} {e : Da} {v : List Int} {N : Nat}
theorem jx {D:List AR}:Cw D 0=true:=by unfold Cw;simp
theorem len_nil {α:Type}{l:List α}:decide ((Sh.len l)=0)=decide (l=[]):=by
 cases l with
 | nil=>rfl
 | cons x r=>exact nx.2 (by rw[Ae,nE];exact⟨λh=>by omega,λh=>nomatch h⟩)
end
end RC
namespace RC
open Go
section
variable {p : Dg} {R1 : Dg -> List Int -> Da -> Option Int} {R2 : List Int -> Aq -> Da -> Option Int} {T : List Int -> Da -> Int} {e : Da} {v : List Int} {N : Nat}
theorem ZO {α:Type}{l:List α}{m:Nat}(h:m<=l.length):Sh.sl l 0 (m:Int)=some (l.take m):=by
 unfold Sh.sl;rw[me ⟨by omega,by omega,by omega⟩];simp
end
end RC
namespace RC
open Go
def L3 (D:List AR)(c:Int):List Int:=(Lf D 0 c.toNat).elim [] λx=>x.2.fields
theorem aC {D:List AR}{t c:Int}(h:c∈En D t):∃k:Nat,c=(k:Int)/\k<nc D:=by
 unfold En at h;split at h
 ·rename_i h1;obtain⟨a,ha⟩ :∃a:Nat,t=(a:Int)+1:=⟨(t-1).toNat,by omega⟩
  subst ha;obtain⟨d,hd,_⟩:=Ax (l:=D) (i:=a) (by omega);rw[show (((a:Int)+1)-1).toNat=a by omega,hd]at h;simp only[oG,mu,ot]at h;obtain⟨i,hi,rfl⟩:=h;have hs:=HH D a;rw[Sj hd]at hs;exact⟨nc (D.take a)+i,by omega,by omega⟩
 ·cases h
theorem L6 {D:List AR}(h :∀d∈D,d.cons.length<=3)(t:Int):(En D t).length<=3:=by
 unfold En;split
 ·rename_i h1;obtain⟨a,ha⟩ :∃a:Nat,t=(a:Int)+1:=⟨(t-1).toNat,by omega⟩
  subst ha;obtain⟨d,hd,hm⟩:=Ax (l:=D) (i:=a) (by omega);rw[show (((a:Int)+1)-1).toNat=a by omega,hd];simp only[oG,mf,List.length_range];exact h d hm
 ·simp
theorem N6 {D:List AR}{F:List HZ}(S:NI D F){t c:Int}(h:c∈En D t){N:Nat}(hN:2000000<=N):B5 N D c=some (L3 D c)/\GZ N D c=some (L3 D c)/\(L3 D c).length<=3/\∀x∈L3 D c,Cw D x=true:=by
 obtain⟨k,rfl,hk⟩:=aC h;have hD:=S.Pj;have hn:=S.nc;obtain⟨t,x,e1,e2⟩:=JW (D:=D) (by omega) (by omega) hk hN;obtain⟨t',x',yy,e3⟩:=SW (D:=D) (by omega) (by omega) hk hN;rw[e1]at yy;cases yy;obtain⟨_,_,d,g3,g4⟩:=QF e1;have hf:L3 D (k:Int)=x.fields:=by unfold L3;rw[oJ,e1];rfl
 rw[hf];exact⟨e2,e3,S.NV d g3 x g4⟩
section
variable {p : Dg} {R1 : Dg -> List Int -> Da -> Option Int} {R2 : List Int -> Aq -> Da -> Option Int} {T : List Int -> Da -> Int} {e : Da} {v : List Int} {N : Nat}
end
end RC
namespace RC
open Go
end RC
namespace RC
open Go
end RC
namespace RC
open Go
mutual
def MX:Step->Nat|.mk _ _ _ a k=>a.length+k.length+Kj k
def Kj:List (ET Step)->Nat|[]=>0|b::k=>IB b+Kj k
def IB:ET Step->Nat|⟨ss,_⟩=>ss.length+Lq ss
def Lq:List Step->Nat|[]=>0|s::l=>MX s+Lq l
end
theorem Kp (s:Step):MX s=s.args.length+s.kids.length+Kj s.kids:=by cases s;simp[MX,Step.args,Step.kids]
theorem OB (b:Block):IB b=b.steps.length+Lq b.steps:=by cases b;simp[IB]
theorem dq {k:List Block}{i:Nat}{b:Block}(h:k[i]?=some b):Kj (k.drop i)=IB b+Kj (k.drop (i+1)):=by rw[drop_cons h];simp[Kj]
theorem cn {l:List Step}{i:Nat}{s:Step}(h:l[i]?=some s):Lq (l.drop i)=MX s+Lq (l.drop (i+1)):=by rw[drop_cons h];simp[Lq]
theorem ga {k:List Block}{b:Block}(h:b∈k):IB b<=Kj k:=by
 induction k with
 | nil=>cases h
 | cons c k ih=>
  simp only[Kj];rcases mr.1 h with rfl|h
  ·omega
  ·have:=ih h;omega
theorem Y8 {l:List Step}{s:Step}(h:s∈l):MX s<=Lq l:=by
 induction l with
 | nil=>cases h
 | cons c l ih=>
  simp only[Lq];rcases mr.1 h with rfl|h
  ·omega
  ·have:=ih h;omega
inductive H7:Step->Prop where
 | mk {s:Step}:Ji s.op->Ji s.num->Ji s.A5->Ep Ji s.args->s.kids.length<=9223372036854775807->(∀b∈s.kids,b.steps.length<=9223372036854775807)->(∀b∈s.kids,Ji b.result)->(∀b∈s.kids,∀t∈b.steps,H7 t)->H7 s
structure JA (b:Block):Prop where
 steps:Ep H7 b.steps
 result:Ji b.result
theorem H7.args {s:Step}(h:H7 s):Ep Ji s.args:=by cases h;assumption
theorem H7.Vk {s:Step}(h:H7 s):s.kids.length<=9223372036854775807:=by cases h;assumption
theorem H7.kids {s:Step}(h:H7 s):∀b∈s.kids,JA b:=by
 cases h with
 | mk _ _ _ _ _ h1 h2 h3=>exact λb hb=>⟨⟨h3 b hb,h1 b hb⟩,h2 b hb⟩
def lf (left:Int)(s:Nat):Int:=if left-s<0 then -1 else left-s
theorem T4 {rec:Block->Int->Option Int}{k:List Block}{L:Int}(hk:k.length<=1048576)(rv :∀b∈k,∀left:Int,0<=left->left<=L->rec b left=some (lf left (IB b))){N i:Nat}(hi:i<=k.length)(hN:k.length-i<N):
  ∀left:Int,0<=left->left<=L->D1 k rec N left i=some (if left-Kj (k.drop i)<0 then Sum.inl (-1) else Sum.inr (left-Kj (k.drop i))):=by
 refine A4 k.length (λN i=>∀left:Int,0<=left->left<=L->D1 k rec N left i=some (if left-Kj (k.drop i)<0 then Sum.inl (-1) else Sum.inr (left-Kj (k.drop i)))) ?_ ?_ hi hN
 ·intro n left h0 h1;rw[D1,CG];simp[Kj];omega
 ·intro n i hi ih left h0 h1;obtain⟨b,hb,hbm⟩:=Ax hi;rw[D1,Cf,An hb,mR,rv b hbm left h0 h1,dq hb,mR];unfold lf;by_cases h2:left-IB b<0
  ·simp only[h2,nL];rw[me (by simp),me (by omega)]
  ·simp only[h2,my];rw[mj (by simp),wI,show ((i:Int)+1)=((i+1:Nat):Int) by omega,ih (left-IB b) (by omega) (by omega)];have e:left-(IB b:Int)-Kj (k.drop (i+1))=left-((IB b+Kj (k.drop (i+1)):Nat):Int):=by omega
   rw[e]
theorem Xk {N:Nat}(hN:2000000<=N){rec:Block->Int->Option Int}{k:List Block}(hk:k.length<=9223372036854775807){left:Int}(h0:0<=left)(h1:left<=1048576)
  (rv :∀b∈k,∀l:Int,0<=l->l<=left-k.length->rec b l=some (lf l (IB b))):IK N rec k left=some (lf left (k.length+Kj k)):=by
 unfold IK;rw[Ae,wI];unfold lf;by_cases h2:left-(k.length:Int)<0
 ·rw[me (by simpa using h2),me (by omega)]
 ·rw[mj (by simpa using h2)];have:=T4 (by omega) rv (mi _) (by omega:k.length-0<N) (left-k.length) (by omega) (qG _);rw[rD,nP]at this;rw[this];by_cases h3:left-(k.length:Int)-Kj k<0
  ·rw[me h3,me (by omega)];rfl
  ·rw[mj h3,mj (by omega)];simp only[Sh.Il];congr 1;omega
theorem bK {N:Nat}(hN:2000000<=N){rec:Block->Int->Option Int}{s:Step}(hs:H7 s){left:Int}(h0:0<=left)(h1:left<=1048576)
  (rv :∀b∈s.kids,∀l:Int,0<=l->l<left->rec b l=some (lf l (IB b))):Jp N rec s left=some (lf left (MX s)):=by
 unfold Jp;rw[OG h0 h1 hs.args.2,Kp,mR];by_cases h2:left-(s.args.length:Int)<0
 ·have:left-((s.args.length+s.kids.length+Kj s.kids:Nat):Int)<0:=by omega
  simp only[lf,me h2,me this];rfl
 ·rw[mj h2,mj (by simpa using h2),Xk hN hs.Vk (by omega) (by omega) (λb hb l l0 l1=>rv b hb l l0 (by
   have:0<s.kids.length:=oc hb;omega))]
  simp only[mR];have e:lf (left-(s.args.length:Int)) (s.kids.length+Kj s.kids)=lf left (s.args.length+s.kids.length+Kj s.kids):=by
   unfold lf;have e:left-(s.args.length:Int)-((s.kids.length+Kj s.kids:Nat):Int)=left-((s.args.length+s.kids.length+Kj s.kids:Nat):Int):=by omega
   rw[e]
  rw[e];unfold lf;split<;>simp<;>omega
theorem Uu {M:Nat}(hM:2000000<=M){rec:Block->Int->Option Int}{l:List Step}{L:Int}(hL:L<=1048576)(hk:l.length<=1048576)(hs :∀s∈l,H7 s)(rv :∀s∈l,∀b∈s.kids,∀left:Int,0<=left->left<L->rec b left=some (lf left (IB b))){N i:Nat}(hi:i<=l.length)(hN:l.length-i<N):
  ∀left:Int,0<=left->left<=L->EM M l rec N left i=some (if left-Lq (l.drop i)<0 then Sum.inl (-1) else Sum.inr (left-Lq (l.drop i))):=by
 refine A4 l.length (λN i=>∀left:Int,0<=left->left<=L->EM M l rec N left i=some (if left-Lq (l.drop i)<0 then Sum.inl (-1) else Sum.inr (left-Lq (l.drop i)))) ?_ ?_ hi hN
 ·intro n left h0 h1;rw[EM,CG];simp[Lq];omega
 ·intro n i hi ih left h0 h1;obtain⟨b,hb,hbm⟩:=Ax hi;rw[EM,Cf,An hb,mR,bK hM (hs b hbm) h0 (by omega) (λc hc l' l0 l1=>rv b hbm c hc l' l0 (by omega)),cn hb,mR];unfold lf;by_cases h2:left-MX b<0
  ·simp only[h2,nL];rw[me (by simp),me (by omega)]
  ·simp only[h2,my];rw[mj (by simp),wI,show ((i:Int)+1)=((i+1:Nat):Int) by omega,ih (left-MX b) (by omega) (by omega)];have e:left-(MX b:Int)-Lq (l.drop (i+1))=left-((MX b+Lq (l.drop (i+1)):Nat):Int):=by omega
   rw[e]
theorem Wa {N:Nat}(hN:2000000<=N):∀(n:Nat) (b:Block) (left:Int),JA b->0<=left->left<=1048576->left<n->F6 N n b left=some (lf left (IB b)):=by
 intro n
 induction n with
 | zero=>intro b left _ h0 _ h2;omega
 | succ n ih=>
  intro b left hb h0 h1 h2;rw[F6];unfold JP Ko;have hl:=hb.steps.2;rw[Ae,wI,OB];by_cases h3:left-(b.steps.length:Int)<0
  ·have:left-((b.steps.length+Lq b.steps:Nat):Int)<0:=by omega
   rw[me (by simpa using h3)];simp only[lf,me this];rfl
  ·rw[mj (by simpa using h3)];have:=Uu hN (rec:=F6 N n) (l:=b.steps) (L:=left-b.steps.length) (by omega) (by omega) hb.steps.1 (λs hs c hc l l0 l1=>ih c l ((hb.steps.1 s hs).kids c hc) l0 (by omega) (by have:=oc hs;omega)) (mi _) (by omega:b.steps.length-0<N) (left-b.steps.length) (by omega) (qG _);rw[rD,nP]at this;rw[this];unfold lf;by_cases h5:left-(b.steps.length:Int)-Lq b.steps<0
   ·rw[me h5,me (by omega)];rfl
   ·rw[mj h5,mj (by omega)];simp only[Sh.Il,mR];rw[mj (by simp;omega)];congr 1;omega
end RC
namespace RC
open Go
def Bs (b:Block):Prop:=IB b<=1048576
theorem Bs.len {b:Block}(h:Bs b):b.steps.length<=1048576:=by unfold Bs at h;rw[OB]at h;omega
theorem Hr {b:Block}{s:Step}(hs:s∈b.steps):MX s+1<=IB b:=by
 have h1:=Y8 hs;have h2:=oc hs;rw[OB];omega
theorem OH {s:Step}{b:Block}(hb:b∈s.kids):IB b+1<=MX s:=by
 have h1:=ga hb;have h2:=oc hb;rw[Kp];omega
theorem UM {rec:Block->Option Block}{k:List Block}(hk:k.length<=1048576)(rv :∀b∈k,rec b=some b){N i:Nat}(hi:i<=k.length)(hN:k.length-i<N):∀m:List Block,m.length=k.length->m.take i=k.take i->Dt k rec N i m=some k:=by
 refine A4 k.length (λN i=>∀m:List Block,m.length=k.length->m.take i=k.take i->Dt k rec N i m=some k) ?_ ?_ hi hN
 ·intro n m hm ht;rw[Dt,CG];rw[oN (by omega),nT]at ht;rw[ht]
 ·intro n i hi ih m hm ht;obtain⟨x,hx,uM⟩:=Ax hi;obtain⟨y,hy,_⟩:=Ax (l:=m) (i:=i) (by omega);rw[Dt,Cf,An hx,mR,rv x uM,mR,An hy,mR,wI,Ky,show ((i:Int)+1)=((i+1:Nat):Int) by omega];refine ih _ (by simp[hm]) ?_;rw[CO hx,CO (x:=x) (by rw[qQ];simp;omega),pN (ml _),ht]
theorem aw {N:Nat}(hN:2000000<=N){rec:Block->Option Block}{s:Step}(hs:MX s<=1048576)(rv :∀b∈s.kids,rec b=some b):J7 N rec s=some s:=by
 rw[Kp]at hs;unfold J7 Ju;rw[OJ (by omega) hN,Ae,MT _ s.kids.length 32 (by omega) (by omega)];simp only[mR];have:=UM (by omega) rv (mi _) (by omega:s.kids.length-0<N) (List.replicate s.kids.length (Block.mk [] 0)) (by simp) (by simp);rw[rD]at this;rw[this];exact nO some (Mb s).symm
theorem VW {M:Nat}(hM:2000000<=M){rec:Block->Option Block}{k:List Step}(hk:k.length<=1048576)(hs :∀s∈k,MX s<=1048576)(rv :∀s∈k,∀b∈s.kids,rec b=some b){N i:Nat}(hi:i<=k.length)(hN:k.length-i<N):∀m:List Step,m.length=k.length->m.take i=k.take i->EK M k rec N i m=some k:=by
 refine A4 k.length (λN i=>∀m:List Step,m.length=k.length->m.take i=k.take i->EK M k rec N i m=some k) ?_ ?_ hi hN
 ·intro n m hm ht;rw[EK,CG];rw[oN (by omega),nT]at ht;rw[ht]
 ·intro n i hi ih m hm ht;obtain⟨x,hx,uM⟩:=Ax hi;obtain⟨y,hy,_⟩:=Ax (l:=m) (i:=i) (by omega);rw[EK,Cf,An hx,mR,aw hM (hs x uM) (rv x uM),mR,An hy,mR,wI,Ky,show ((i:Int)+1)=((i+1:Nat):Int) by omega];refine ih _ (by simp[hm]) ?_;rw[CO hx,CO (x:=x) (by rw[qQ];simp;omega),pN (ml _),ht]
theorem WL {N:Nat}(hN:2000000<=N):∀(n:Nat) (b:Block),Bs b->IB b<n->F7 N n b=some b:=by
 intro n
 induction n with
 | zero=>intro b _ h;omega
 | succ n ih=>
  intro b hb hn;have hl:=hb.len;rw[F7];unfold JM Kt;rw[Ae,MT _ b.steps.length 72 (by omega) (by omega),mR];have:=VW hN (rec:=F7 N n) hl (λs hs=>by have:=Hr hs;unfold Bs at hb;omega) (λs hs c hc=>ih c (by have:=Hr hs;have:=OH hc;unfold Bs at *;omega) (by have:=Hr hs;have:=OH hc;omega)) (mi _) (by omega:b.steps.length-0<N) (List.replicate b.steps.length (Step.mk 0 0 0 [] [])) (by simp) (by simp);rw[rD]at this;rw[this];rfl
theorem Z2 {b:Block}(hb:Bs b){N:Nat}(hN:2000000<=N):Kr N b=some b:=by
 unfold Kr;exact WL hN N b hb (by unfold Bs at hb;omega)
theorem UX {rec:Block->Block->Option Bool}{k:List Block}(hk:k.length<=1048576)(rv :∀b∈k,rec b b=some true){N i:Nat}(hi:i<=k.length)(hN:k.length-i<N):D3 k k rec N i=some (Sum.inr ()):=by
 refine A4 k.length (λN i=>D3 k k rec N i=some (Sum.inr ())) ?_ ?_ hi hN
 ·intro n;rw[D3,CG]
 ·intro n i hi ih;obtain⟨x,hx,uM⟩:=Ax hi;rw[D3,Cf,An hx];simp only[mR];rw[rv x uM,wI,show ((i:Int)+1)=((i+1:Nat):Int) by omega];simpa using ih
theorem aQ {N:Nat}(hN:2000000<=N){rec:Block->Block->Option Bool}{s:Step}(hs:MX s<=1048576)(rv :∀b∈s.kids,rec b b=some true):J3 N rec s s=some true:=by
 rw[Kp]at hs;unfold J3 Jm;have:=UX (k:=s.kids) (by omega) rv (mi _) (by omega:s.kids.length-0<N);rw[rD]at this;simp[OI (l:=s.args) (by omega) hN,this]
theorem Ve {M:Nat}(hM:2000000<=M){rec:Block->Block->Option Bool}{k:List Step}(hk:k.length<=1048576)(hs :∀s∈k,MX s<=1048576)(rv :∀s∈k,∀b∈s.kids,rec b b=some true){N i:Nat}(hi:i<=k.length)(hN:k.length-i<N):EO M k k rec N i=some (Sum.inr ()):=by
 refine A4 k.length (λN i=>EO M k k rec N i=some (Sum.inr ())) ?_ ?_ hi hN
 ·intro n;rw[EO,CG]
 ·intro n i hi ih;obtain⟨x,hx,uM⟩:=Ax hi;rw[EO,Cf,An hx];simp only[mR];rw[aQ hM (hs x uM) (rv x uM),wI,show ((i:Int)+1)=((i+1:Nat):Int) by omega];simpa using ih
theorem WD {N:Nat}(hN:2000000<=N):∀(n:Nat) (b:Block),Bs b->IB b<n->F8 N n b b=some true:=by
 intro n
 induction n with
 | zero=>intro b _ h;omega
 | succ n ih=>
  intro b hb hn;have hl:=hb.len;rw[F8];unfold JH Kn;have:=Ve hN (rec:=F8 N n) hl (λs hs=>by have:=Hr hs;unfold Bs at hb;omega) (λs hs c hc=>ih c (by have:=Hr hs;have:=OH hc;unfold Bs at *;omega) (by have:=Hr hs;have:=OH hc;omega)) (mi _) (by omega:b.steps.length-0<N);rw[rD]at this;simp[this]
theorem ZF {b:Block}(hb:Bs b){N:Nat}(hN:2000000<=N):Ks N b b=some true:=by
 unfold Ks;exact WD hN N b hb (by unfold Bs at hb;omega)
mutual
def Ot:Step->Nat|.mk _ _ _ _ k=>Iy k+1
def Iy:List (ET Step)->Nat|[]=>0|b::k=>GL b+Iy k
def GL:ET Step->Nat|⟨ss,_⟩=>IP ss
def IP:List Step->Nat|[]=>0|s::l=>Ot s+IP l
end
theorem Mm (s:Step):Ot s=Iy s.kids+1:=by cases s;simp[Ot,Step.kids]
theorem OM (b:Block):GL b=IP b.steps:=by cases b;simp[GL]
theorem W2 {k:List Block}{i:Nat}{b:Block}(h:k[i]?=some b):Iy (k.drop i)=GL b+Iy (k.drop (i+1)):=by rw[drop_cons h];simp[Iy]
theorem P9 {l:List Step}{i:Nat}{s:Step}(h:l[i]?=some s):IP (l.drop i)=Ot s+IP (l.drop (i+1)):=by rw[drop_cons h];simp[IP]
theorem Zd {b:Block}{s:Step}{i:Nat}{rec:Block->Int->Option Int}(hs:b.steps[i]?=some s)(hk:s.kids.length<=1048576)(rv :∀c∈s.kids,∀l:Int,0<=l->l<=600->rec c l=some (lf l (GL c))){N k:Nat}(hi:k<=s.kids.length)(hN:s.kids.length-k<N):∀left:Int,0<=left->left<=600->
  Co i b rec N left k=some (if left-Iy (s.kids.drop k)<0 then Sum.inl (-1) else Sum.inr (left-Iy (s.kids.drop k))):=by
 refine A4 s.kids.length (λN k=>∀left:Int,0<=left->left<=600->Co i b rec N left k=some (if left-Iy (s.kids.drop k)<0 then Sum.inl (-1) else Sum.inr (left-Iy (s.kids.drop k)))) ?_ ?_ hi hN
 ·intro n left h0 h1;rw[Co,An hs,mR,CG];simp[Iy];omega
 ·intro n k hi ih left h0 h1;obtain⟨c,hc,vJ⟩:=Ax hi;rw[Co,An hs,mR,Cf,An hc,mR,rv c vJ left h0 h1,W2 hc,mR];unfold lf;by_cases h2:left-GL c<0
  ·simp only[h2,nL];rw[me (by simp),me (by omega)]
  ·simp only[h2,my];rw[mj (by simp),wI,show ((k:Int)+1)=((k+1:Nat):Int) by omega,ih (left-GL c) (by omega) (by omega)];have e:left-(GL c:Int)-Iy (s.kids.drop (k+1))=left-((GL c+Iy (s.kids.drop (k+1)):Nat):Int):=by omega
   rw[e]
theorem Z8 {b:Block}{rec:Block->Int->Option Int}{M:Nat}(hM:2000000<=M)(hl:b.steps.length<=1048576)(hk :∀s∈b.steps,s.kids.length<=1048576)(rv :∀s∈b.steps,∀c∈s.kids,∀l:Int,0<=l->l<=600->rec c l=some (lf l (GL c))){N i:Nat}(hi:i<=b.steps.length)(hN:b.steps.length-i<N):∀left:Int,0<=left->left<=600->
  Cr M b rec N left i=some (if left-IP (b.steps.drop i)<0 then Sum.inl (-1) else Sum.inr (left-IP (b.steps.drop i))):=by
 refine A4 b.steps.length (λN i=>∀left:Int,0<=left->left<=600->Cr M b rec N left i=some (if left-IP (b.steps.drop i)<0 then Sum.inl (-1) else Sum.inr (left-IP (b.steps.drop i)))) ?_ ?_ hi hN
 ·intro n left h0 h1;rw[Cr,CG];simp[IP];omega
 ·intro n i hi ih left h0 h1;obtain⟨s,hs,tn⟩:=Ax hi;rw[Cr,Cf,P9 hs,Mm];by_cases h2:left<1
  ·rw[me (by simpa using h2),me (by omega)]
  ·rw[mj (by simpa using h2),wI (n:=left-1)];have hks:=hk s tn;have L2:=Zd hs hks (rv s tn) (mi _) (by omega:s.kids.length-0<M) (left-1) (by omega) (by omega);rw[rD,nP]at L2;rw[L2];by_cases h3:left-1-(Iy s.kids:Int)<0
   ·rw[me h3,me (by omega)];rfl
   ·rw[mj h3];simp only[Sh.Il];rw[wI,show ((i:Int)+1)=((i+1:Nat):Int) by omega,ih _ (by omega) (by omega)];have e:left-1-(Iy s.kids:Int)-IP (b.steps.drop (i+1))=left-((Iy s.kids+1+IP (b.steps.drop (i+1)):Nat):Int):=by omega
    rw[e]
theorem NZ {b:Block}(hb:Bs b){s:Step}(hs:s∈b.steps):s.kids.length<=1048576:=by
 have h1:=Hr hs;rw[Kp]at h1;unfold Bs at hb;omega
theorem Iv {b:Block}(hb:Bs b){s:Step}(hs:s∈b.steps){c:Block}(hc:c∈s.kids):Bs c/\IB c+2<=IB b:=by
 have h1:=Hr hs;have h2:=OH hc;unfold Bs at *;exact⟨by omega,by omega⟩
theorem T3 {N:Nat}(hN:2000000<=N):∀(n:Nat) (b:Block) (left:Int),Bs b->IB b<n->0<=left->left<=600->FK N n b left=some (lf left (GL b)):=by
 intro n
 induction n with
 | zero=>intro b left _ h;omega
 | succ n ih=>
  intro b left hb hn h0 h1;have hl:=hb.len;rw[FK];unfold H5;have:=Z8 (rec:=FK N n) hN hl (λs hs=>NZ hb hs) (λs hs c hc l l0 l1=>ih c l (Iv hb hs hc).1 (by have:=(Iv hb hs hc).2;omega) l0 l1) (mi _) (by omega:b.steps.length-0<N) left h0 h1;rw[rD,nP,<- OM]at this;rw[this];unfold lf;by_cases h3:left-(GL b:Int)<0
  ·rw[me h3,me h3];rfl
  ·rw[mj h3,mj h3];rfl
theorem Nw {b:Block}(hb:Bs b){N:Nat}(hN:2000000<=N):JD N b=some (if GL b<=600 then (GL b:Int) else -1):=by
 unfold JD Lb;rw[T3 hN N b 600 hb (by unfold Bs at hb;omega) (by decide) (by decide),mR];by_cases h:GL b<=600
 ·have e:lf 600 (GL b)=600-(GL b:Int):=by unfold lf;rw[mj (by omega)]
  rw[e,mj (by simp;omega),me h,wI];congr 1;omega
 ·have e:lf 600 (GL b)=-1:=by unfold lf;rw[me (by omega)]
  rw[e,mj h];rfl
def Cs (n:Int)(m:Nat)(r:Bool×Int):Prop:=(n+m<=600->r=(true,n+m))/\(¬ n+m<=600->r.1=false)
theorem X0 {s:Step}{rec:Int->Block->Option (Bool×Int)}(hk:s.kids.length<=1048576)(rv :∀c∈s.kids,∀n:Int,0<=n->n<=600->∃r,rec n c=some r/\Cs n (GL c) r){N k:Nat}(hi:k<=s.kids.length)(hN:s.kids.length-k<N):∀n:Int,0<=n->n<=600->
  ∃r,CX s rec N k n=some r/\(n+Iy (s.kids.drop k)<=600->r=Sum.inr (n+Iy (s.kids.drop k)))/\(¬ n+Iy (s.kids.drop k)<=600->∃m,r=Sum.inl (false,m)):=by
 refine A4 s.kids.length (λN k=>∀n:Int,0<=n->n<=600->∃r,CX s rec N k n=some r/\(n+Iy (s.kids.drop k)<=600->r=Sum.inr (n+Iy (s.kids.drop k)))/\(¬ n+Iy (s.kids.drop k)<=600->∃m,r=Sum.inl (false,m))) ?_ ?_ hi hN
 ·intro f n h0 h1;rw[CX,CG];refine⟨_,rfl,λ_=>by simp[Iy],λh=>?_⟩;simp[Iy]at h;omega
 ·intro f k hi ih n h0 h1;obtain⟨c,hc,vJ⟩:=Ax hi;obtain⟨⟨ok,m⟩,r1,r2,r3⟩:=rv c vJ n h0 h1;rw[CX,Cf,An hc,mR,r1,W2 hc,mR];by_cases h2:n+(GL c:Int)<=600
  ·cases r2 h2;rw[mj (by simp),wI,show ((k:Int)+1)=((k+1:Nat):Int) by omega];obtain⟨r,e1,e2,e3⟩:=ih (n+GL c) (by omega) h2;have e:n+(GL c:Int)+Iy (s.kids.drop (k+1))=n+((GL c+Iy (s.kids.drop (k+1)):Nat):Int):=by omega
   rw[e]at e2 e3;exact⟨r,e1,e2,e3⟩
  ·have:ok=false:=r3 h2;subst this;rw[me (by simp)];exact⟨_,rfl,λh=>by omega,λ_=>⟨_,rfl⟩⟩
theorem YW {b:Block}{rec:Int->Block->Option (Bool×Int)}{M:Nat}(hM:2000000<=M)(hl:b.steps.length<=1048576)(hk :∀s∈b.steps,s.kids.length<=1048576)(rv :∀s∈b.steps,∀c∈s.kids,∀n:Int,0<=n->n<=600->∃r,rec n c=some r/\Cs n (GL c) r){N i:Nat}(hi:i<=b.steps.length)(hN:b.steps.length-i<N):∀n:Int,0<=n->n<=600->
  ∃r,CV M b rec N i n=some r/\(n+IP (b.steps.drop i)<=600->r=Sum.inr (n+IP (b.steps.drop i)))/\(¬ n+IP (b.steps.drop i)<=600->∃m,r=Sum.inl (false,m)):=by
 refine A4 b.steps.length (λN i=>∀n:Int,0<=n->n<=600->∃r,CV M b rec N i n=some r/\(n+IP (b.steps.drop i)<=600->r=Sum.inr (n+IP (b.steps.drop i)))/\(¬ n+IP (b.steps.drop i)<=600->∃m,r=Sum.inl (false,m))) ?_ ?_ hi hN
 ·intro f n h0 h1;rw[CV,CG];refine⟨_,rfl,λ_=>by simp[IP],λh=>?_⟩;simp[IP]at h;omega
 ·intro f i hi ih n h0 h1;obtain⟨s,hs,tn⟩:=Ax hi;rw[CV,Cf,An hs,P9 hs,Mm,mR,wI (n:=n+1)];by_cases h2:600<n+1
  ·rw[me (by simpa using h2)];exact⟨_,rfl,λh=>by omega,λ_=>⟨_,rfl⟩⟩
  ·rw[mj (by simpa using h2)];have hks:=hk s tn;obtain⟨r,e1,e2,e3⟩:=X0 hks (rv s tn) (mi _) (by omega:s.kids.length-0<M) (n+1) (by omega) (by omega);rw[rD]at e1;rw[nP]at e2 e3;rw[e1];by_cases h3:n+1+(Iy s.kids:Int)<=600
   ·rw[e2 h3];simp only[Sh.Il];rw[wI,show ((i:Int)+1)=((i+1:Nat):Int) by omega];obtain⟨r',f1,f2,f3⟩:=ih _ (by omega) h3;have e:n+1+(Iy s.kids:Int)+IP (b.steps.drop (i+1))=n+((Iy s.kids+1+IP (b.steps.drop (i+1)):Nat):Int):=by omega
    rw[e]at f2 f3;exact⟨r',f1,f2,f3⟩
   ·obtain⟨m,hm⟩:=e3 h3;rw[hm];exact⟨_,rfl,λh=>by omega,λ_=>⟨_,rfl⟩⟩
theorem TP {N:Nat}(hN:2000000<=N):∀(f:Nat) (b:Block) (n:Int),Bs b->IB b<f->0<=n->n<=600->∃r,E4 N f n b=some r/\Cs n (GL b) r:=by
 intro f
 induction f with
 | zero=>intro b n _ h;omega
 | succ f ih=>
  intro b n hb hn h0 h1;have hl:=hb.len;rw[E4];unfold Ha;obtain⟨r,e1,e2,e3⟩:=YW (rec:=E4 N f) hN hl (λs hs=>NZ hb hs) (λs hs c hc l l0 l1=>ih c l (Iv hb hs hc).1 (by have:=(Iv hb hs hc).2;omega) l0 l1) (mi _) (by omega:b.steps.length-0<N) n h0 h1;rw[rD]at e1;rw[nP,<- OM]at e2 e3;rw[e1];by_cases h3:n+(GL b:Int)<=600
  ·rw[e2 h3];exact⟨_,rfl,λ_=>rfl,λh=>absurd h3 h⟩
  ·obtain⟨m,hm⟩:=e3 h3;rw[hm];exact⟨_,rfl,λh=>absurd h h3,λ_=>rfl⟩
theorem TY {b:Block}(hb:Bs b){N:Nat}(hN:2000000<=N):JB N b=some (if GL b<=600 then (GL b:Int) else -1):=by
 unfold JB KN;obtain⟨⟨ok,m⟩,e1,e2,e3⟩:=TP hN N b 0 hb (by unfold Bs at hb;omega) (by decide) (by decide);rw[e1,mR];by_cases h:GL b<=600
 ·cases e2 (by omega);rw[mj (by simp),me h];congr 1;omega
 ·have:ok=false:=e3 (by omega);subst this;rw[me (by simp),mj h]
end RC
namespace RC
open Go
def MO (o:Int):Bool:=decide (14<=o)&&decide (o<=17)
mutual
def us (v:Int):Step->Nat|.mk o _ _ a k=>if MO o then 0 else a.countP (λx=>decide (x=v))+uk v k
def uk (v:Int):List (ET Step)->Nat|[]=>0|b::k=>ub v b+uk v k
def ub (v:Int):ET Step->Nat|⟨ss,r⟩=>(if r=v then 1 else 0)+ul v ss
def ul (v:Int):List Step->Nat|[]=>0|s::l=>us v s+ul v l
end
def ua (v:Int)(a:List Int):Nat:=a.countP λx=>decide (x=v)
theorem mI (v:Int)(a:List Int):ua v a<=a.length:=List.countP_le_length
theorem dU (o:Int):HI o=some (MO o):=by unfold HI;rw[Cb];rfl
theorem Ja (o:Int):Ch o=some (MO o):=by
 unfold Ch MO;by_cases h:14<=o<;>simp[h]
end RC
namespace RC
open Go
def MA (v:List Int)(a:Int):Option Int:=if 0<=a/\a<(v.length:Int) then v[a.toNat]? else none
def CK (v:List Int):List Int->Option (List Int)
 | []=>some []
 | a::r=>(MA v a).bind λt=>(CK v r).map (t::·)
theorem Uh {v:List Int}{a:Int}(h0:0<=a)(h1:a<(v.length:Int)):∃t,MA v a=some t/\Sh.get v a=some t/\t∈v:=by
 obtain⟨t,g1,g2⟩:=Nh h0 h1;exact⟨t,by unfold MA;rw[me ⟨h0,h1⟩,g2],g1,mS g2⟩
theorem Zl {v:List Int}{a:Int}(h:¬ (0<=a/\a<(v.length:Int))):MA v a=none:=mj h
theorem NY {v:List Int}:∀{args l:List Int},CK v args=some l↔args.length=l.length/\∀(i:Nat) a,args[i]?=some a->MA v a=l[i]?/\(MA v a).isSome=true
 | [],l=>by
  simp only[CK,mU,nj];constructor
  ·rintro rfl;simp
  ·rintro⟨h,_⟩;exact (nI h.symm).symm
 | a::r,l=>by
  simp only[CK];constructor
  ·intro h;obtain⟨t,h1,h2⟩:=nK.1 h;obtain⟨m,h3,rfl⟩:=mZ.1 h2;obtain⟨h4,h5⟩:=NY.1 h3;refine⟨by simp[h4],λi b hb=>?_⟩;cases i with
   | zero=>simp only[mw,mU]at hb⊢;subst hb;rw[h1];simp
   | succ i=>simpa using h5 i b (by simpa using hb)
  ·rintro⟨h1,h2⟩;cases l with
   | nil=>simp at h1
   | cons t m=>
    have h3:=h2 0 a rfl;simp only[mw]at h3;have h4:CK v r=some m:=NY.2 ⟨by simpa using h1,λi b hb=>by have:=h2 (i+1) b (by simpa using hb);simpa using this⟩;rw[h3.1,h4];rfl
theorem Jc {v args types:List Int}(hv:v.length<=1048576)(ha:args.length<=1048576){N:Nat}(hN:2000000<=N):Bd N v args types=some (decide (CK v args=some types)):=by
 unfold Bd;by_cases h:args.length=types.length
 ·rw[mj (by simp[Ae,h]),Cj (l:=args) (Fx v args types) (λi a=>decide (MA v a=types[i]?/\(MA v a).isSome=true)) (λn=>by rw[Fx,CG]) (λn i a hi=>?_) (by omega),DP]
  ·have:Db (λi a=>decide (MA v a=types[i]?/\(MA v a).isSome=true)) 0 args=decide (CK v args=some types):=by
    rw[Bool.eq_iff_iff,Mr,pF,NY];constructor
    ·intro g;exact⟨h,λi a ha=>by have:=g i a ha;rw[pF,ns]at this;exact this⟩
    ·rintro⟨_,g⟩ i a ha;rw[pF,ns];exact g i a ha
   rw[this];cases decide (CK v args=some types)<;>rfl
  ·have tj:=(mT.1 hi).1;obtain⟨t,ht,_⟩:=Ax (l:=types) (i:=i) (by omega);rw[Fx,Cf,An hi,mR,Cb,Ae,wI (n:=(v.length:Int)-1),wI (n:=(i:Int)+1),show ((i:Int)+1)=((i+1:Nat):Int) by omega,mR];by_cases hr:0<=a/\a<(v.length:Int)
   ·obtain⟨x,x1,x2,_⟩:=Uh hr.1 hr.2;have hr2:a<=(v.length:Int)-1:=by omega
    rw[x1,x2,An ht,ht];by_cases q:x=t<;>simp[hr.1,hr2,q]
   ·rw[Zl hr];have:(decide (0<=a)&&decide (a<=(v.length:Int)-1))=false:=by
     rw[nY,mm,mm];omega
    rw[this];simp
 ·have h1:¬ ((args.length:Int)=(types.length:Int)):=by omega
  have h2:¬ CK v args=some types:=λq=>h (NY.1 q).1;simp[Ae,h1,h2]
theorem ba {v:List Int}{s:Step}(hv:v.length<=1048576)(ha:s.args.length<=1048576){N:Nat}(hN:2000000<=N):
  BF v s N 0 []=some ((CK v s.args).elim (.inl (-1,false)) .inr):=by
 have key:∀{M i:Nat},i<=s.args.length->s.args.length-i<M->∀acc:List Int,acc.length=i->BF v s M i acc=some ((CK v (s.args.drop i)).elim (.inl (-1,false)) λl=>.inr (acc++l)):=by
  intro M i hi hM;refine A4 s.args.length (λM i=>∀acc:List Int,acc.length=i->BF v s M i acc=some ((CK v (s.args.drop i)).elim (.inl (-1,false)) λl=>.inr (acc++l))) ?_ ?_ hi hM
  ·intro n acc _;rw[BF,CG,nf];simp[CK]
  ·intro n i hi ih acc hacc;obtain⟨a,hx,_⟩:=Ax hi;rw[BF,Cf,An hx,drop_cons hx];simp only[mR,CK,Ae];by_cases hr:0<=a/\a<(v.length:Int)
   ·obtain⟨x,x1,x2,_⟩:=Uh hr.1 hr.2;have r1:¬ a<0:=by omega
    have r2:¬ (v.length:Int)<=a:=by omega
    rw[x1,x2];simp only[r1,r2,nH,mW,my,mR];rw[DD acc [x] 8 (by simp;omega) (by simp;omega),wI,show ((i:Int)+1)=((i+1:Nat):Int) by omega,mR,ih (acc++[x]) (by simp[hacc])];cases CK v (s.args.drop (i+1))<;>simp
   ·rw[Zl hr];by_cases r1:a<0
    ·simp[r1]
    ·have r2:(v.length:Int)<=a:=by omega
     simp[r1,r2]
 have:=key (mi _) (by omega:s.args.length-0<N) [] rfl;simpa using this
section
variable {D : List AR} {G : List BM} {ks : List Int} {op num : Int} {N : Nat}
theorem Wy (h:op=0):Af N ⟨D,G⟩ op num ks=some (0,(decide (-999<=num)&&decide (num<=999))&&decide (ks=[])):=by
 unfold Af;simp only[h,nB,nL,len_nil];by_cases a:-999<=num<;>by_cases b:num<=999<;>simp[a,b,Sh.cont]
theorem O7 (hk:ks.length<=1048576)(hN:2000000<=N)(h:op=1∨op=2∨op=3∨op=4):Af N ⟨D,G⟩ op num ks=some (0,decide (num=0)&&decide (ks=[0,0])):=by
 unfold Af;have e3:CZ N ks [0,0]=some (decide (ks=[0,0])):=Na hk hN;rcases h with h|h|h|h<;>simp only[h,Int.reduceEq,nB,nH,mW,nL,my,mR,Sh.Il]<;>rw[e3]<;>by_cases a:num=0<;>simp[a]
theorem O6 (hk:ks.length<=1048576)(hN:2000000<=N)(h:op=5):Af N ⟨D,G⟩ op num ks=some (0,decide (num=0)&&decide (ks=[0])):=by
 unfold Af;simp only[h,Int.reduceEq,nB,nH,mW,nL,my,mR,Sh.Il];rw[Na hk hN];by_cases a:num=0<;>simp[a]
theorem QK {F:List HZ}(S:NI D F)(hk:ks.length<=1048576)(hI:Ji num)(hN:2000000<=N)(h:op=6):
  (∃t x,0<t/\Cw D t=true/\(∀y∈x,0<=y)/\Cx N D num=some t/\B5 N D num=some x/\Af N ⟨D,G⟩ op num ks=some (t,decide (ks=x)))∨
  (Cx N D num=some (-1)/\Af N ⟨D,G⟩ op num ks=some (-1,false)):=by
 have hD:=S.Pj;have hn:=S.nc;by_cases hr:0<=num/\num<(nc D:Int)
 ·obtain⟨c,hc⟩:=nm hr.1;have hc2:c<nc D:=by omega
  obtain⟨t,x,e1,e2⟩:=Nv (D:=D) (by omega) (by omega) hc2 hN;obtain⟨t',x',yy,e3⟩:=JW (D:=D) (by omega) (by omega) hc2 hN;obtain⟨t'',x'',e1'',e4⟩:=O9 (D:=D) (by omega) (by omega) hc2 hN;rw[e1]at yy e1'';cases yy;cases e1'';obtain⟨g1,g2,d,g3,g4⟩:=QF e1;have hx:=S.NV d g3 x g4;refine .inl ⟨(t:Int),x.fields,by omega,by unfold Cw;simp;omega,λy hy=>(Mn (hx.2 y hy)).1,by rw[hc,e2],by rw[hc,e3],?_⟩;unfold Af;simp only[h,Int.reduceEq,nB,nH,mW,nL,my,mR];rw[hc,e4,mR,Na hk hN,me (by simp)];simp[Sh.cont]
 ·refine .inr ⟨Mt (by omega) (by omega) (by omega) hN,?_⟩;unfold Af;simp only[h,Int.reduceEq,nB,nH,mW,nL,my,mR];rw[UW (by omega) (by omega) hI (by omega) hN];simp[Sh.cont]
theorem VI {f:BM}(hk:ks.length<=1048576)(hG:G.length<=4)(hN:2000000<=N)(h:op=9)(f0:0<=num)(f1:num<(G.length:Int))(f5:Sh.get G num=some f):Af N ⟨D,G⟩ op num ks=some (f.result,decide (ks=f.params)):=by
 have f0':¬ num<0:=by omega
 have f1':¬ (G.length:Int)<=num:=by omega
 unfold Af;simp only[h,Int.reduceEq,nB,nH,mW,nL,my,mR,Ae,f0',f1'];rw[f5,mR,Na hk hN];simp[Sh.cont]
theorem PH {f:BM}(hk:ks.length<=1048576)(hD:D.length<=4)(hG:G.length<=4)(hp:f.params.length<=3)(hN:2000000<=N)(h:op=10)(f0:0<=num)(f1:num<(G.length:Int))(f5:Sh.get G num=some f):
  (f.params=[]/\Af N ⟨D,G⟩ op num ks=some (-1,false))∨
  (∃m x,f.params.length=m+1/\f.params[m]?=some x/\Af N ⟨D,G⟩ op num ks=some (H3 x f.result D 0,decide (0<=H3 x f.result D 0)&&decide (ks=f.params.take m))):=by
 have f0':¬ num<0:=by omega
 have f1':¬ (G.length:Int)<=num:=by omega
 by_cases hp0:f.params.length=0
 ·refine .inl ⟨nI hp0,?_⟩;unfold Af;simp only[h,Int.reduceEq,nB,nH,mW,nL,my,mR,Ae,f0',f1'];rw[f5];simp only[mR,hp0];rw[wI];simp[Sh.cont]
 ·obtain⟨m,hm⟩ :∃m,f.params.length=m+1:=⟨f.params.length-1,by omega⟩
  obtain⟨x,hx,uM⟩:=Ax (l:=f.params) (i:=m) (by omega);have hw:Sh.w ((f.params.length:Int)-1)=(m:Int):=by rw[wI];omega
  have hm0:¬ ((m:Int)<0):=by omega
  refine .inr ⟨m,x,hm,hx,?_⟩;unfold Af;simp only[h,Int.reduceEq,nB,nH,mW,nL,my,mR,Ae,f0',f1'];rw[f5];simp only[mR,hw,hm0,nH,mW,my];rw[An hx];simp only[mR];rw[Sq (by omega) hN,ZO (by omega)];simp only[mR];rw[Na hk hN];by_cases z:0<=H3 x f.result D 0<;>simp[z,Sh.cont]
theorem I5 (hG:G.length<=4)(h:op=9∨op=10)(hr:num<0∨(G.length:Int)<=num):Af N ⟨D,G⟩ op num ks=some (-1,false):=by
 unfold Af;rcases h with h|h<;>simp only[h,Int.reduceEq,nB,nH,mW,nL,my,mR,Ae]<;>rcases hr with hr|hr
 ·simp[hr,Sh.cont]
 ·have:¬ num<0:=by omega
  simp[hr,this,Sh.cont]
 ·simp[hr,Sh.cont]
 ·have:¬ num<0:=by omega
  simp[hr,this,Sh.cont]
theorem Ph (hD:D.length<=4)(h:op=11){a b:Int}(hk:ks=[a,b]):Af N ⟨D,G⟩ op num ks=some ((J8 D a).elim (0,false) λd=>(d.to,decide (b=d.from_/\num=0))):=by
 subst hk;unfold Af;simp only[h,Int.reduceEq,nB,nH,mW,nL,my,mR,Ae,nE,nj];rw[show Sh.get [a,b] 0=some a from rfl,show Sh.get [a,b] 1=some b from rfl,mR,NP (by omega),mR];cases hA:J8 D a with
 | none=>simp[Sh.cont]
 | some d=>by_cases c1:b=d.from_<;>by_cases c2:num=0<;>simp[c1,c2,Sh.cont]
theorem ML (h:op=11)(hk:¬ ks.length=2):Af N ⟨D,G⟩ op num ks=some (-1,false):=by
 have hk':¬ ((ks.length:Int)=2):=by omega
 unfold Af;simp only[h,Int.reduceEq,nB,nH,mW,nL,my,mR,Ae,hk'];simp[Sh.cont]
theorem Zj (h:op<0∨11<op∨op=7∨op=8):Af N ⟨D,G⟩ op num ks=some (-1,false):=by
 unfold Af;simp only[show ¬ op=0 by omega,show ¬ op=1 by omega,show ¬ op=2 by omega,show ¬ op=3 by omega,show ¬ op=4 by omega,show ¬ op=5 by omega,show ¬ op=6 by omega,show ¬ op=9 by omega,show ¬ op=10 by omega,show ¬ op=11 by omega,nH,mW,my,mR];simp[Sh.cont]
end
end RC
namespace RC
open Go
def Cg (n:AL):Aq:=⟨n.decls,n.AB.map λr=>⟨r.params,r.Ao,r.result⟩⟩
def Qp (r:AP):HZ:=⟨r.params,r.result,.mk 0 0 []⟩
abbrev Hn (n:AL):Prop:=NI n.decls (n.AB.map Qp)
theorem Fp {n:AL}:(Cg n).funcs.length=n.AB.length:=by show (n.AB.map _).length=_;simp
theorem Hn.Pb {n:AL}(S:Hn n):n.AB.length<=4:=by have:=S.jW;simpa using this
theorem Sn {n:AL}(S:Hn n)(k:Int):(∃r,0<=k/\k<(n.AB.length:Int)/\Sh.get n.AB k=some r/\Sh.get (Cg n).funcs k=some ⟨r.params,r.Ao,r.result⟩/\r.params.length<=3/\(∀t∈r.params,Cw n.decls t=true)/\Cw n.decls r.result=true)∨(k<0∨(n.AB.length:Int)<=k):=by
 by_cases h:0<=k/\k<(n.AB.length:Int)
 ·obtain⟨r,h1,h2⟩:=Nh h.1 h.2;have hm:=mS h2;obtain⟨q1,q2,q3⟩:=S.bj (Qp r) (pc hm);refine .inl ⟨r,h.1,h.2,h1,?_,q1,q2,q3⟩;rw[P7 h.1];show ((n.AB.map λr=>(⟨r.params,r.Ao,r.result⟩:BM)))[k.toNat]?=_;rw[mX,h2];rfl
 ·exact .inr (by omega)
theorem W9 {γ:Type}{bad:γ}{ts:List Int}(L:Nat->Int->Int->Option (γ ⊕ Int))(h0 :∀n r,L (n+1) r (ts.length:Int)=some (.inr r))
  (hs :∀n (i:Nat) r t,ts[i]?=some t->L (n+1) r (i:Int)=if t<0∨(0<i/\t≠r) then some (.inl bad) else L n t ((i+1:Nat):Int)) {N:Nat} (hN:ts.length<N) (sB:ts≠[]) (vg :∀t∈ts,t<0->t=-1) (r0:Int) :
  L N r0 0=some (if GJ ts<0 then .inl bad else .inr (GJ ts)):=by
 have rest:∀(d i n:Nat) (r:Int),0<=r->ts.length-i=d->0<i->i<=ts.length->d<n->L n r i=some (if (ts.drop i).all (λx=>decide (x=r))=true then .inr r else .inl bad):=by
  intro d
  induction d with
  | zero=>
   intro i n r _ h1 h2 h3 h4;obtain⟨n,rfl⟩ :∃q,n=q+1:=⟨n-1,by omega⟩
   rw[show i=ts.length by omega,h0,nf];rfl
  | succ d ih=>
   intro i n r hr h1 h2 h3 h4;obtain⟨n,rfl⟩ :∃q,n=q+1:=⟨n-1,by omega⟩
   obtain⟨t,ht,_⟩:=Ax (l:=ts) (i:=i) (by omega);rw[hs n i r t ht,drop_cons ht,pM];by_cases h5:t=r
   ·subst h5;rw[mj (by rintro (h|h);omega;exact h.2 rfl),ih (i+1) n _ hr (by omega) (by omega) (by omega) (by omega)];simp
   ·rw[me (.inr ⟨h2,h5⟩)];simp[h5]
 cases hts:ts with
 | nil=>exact absurd hts sB
 | cons t r=>
  obtain⟨n,hn⟩ :∃q,N=q+1:=⟨N-1,by omega⟩
  have h1:=hs n 0 r0 t (by rw[hts];rfl);rw[rD]at h1;have sQ:1<=ts.length:=by rw[hts];simp
  rw[hn,h1];by_cases h2:t<0
  ·have:=vg t (by rw[hts];simp) h2;subst this;have ho:GJ (-1::r)=-1:=by
    show (if (r.all λx=>decide (x=-1))=true then (-1:Int) else -1)=-1;split<;>rfl
   rw[me (.inl h2),ho,me (by omega)]
  ·rw[mj (by rintro (h|h);exact h2 h;exact absurd h.1 (qU _)),rest _ 1 n t (by omega) rfl (by omega) sQ (by omega),hts,List.drop_succ_cons,nP];by_cases h3:r.all (λx=>decide (x=t))=true
   ·have ho:GJ (t::r)=t:=me h3;rw[me h3,ho,mj h2]
   ·have ho:GJ (t::r)=-1:=mj h3;rw[mj h3,ho,me (by omega)]
theorem XP {ts:List Int}:GJ ts=-1∨GJ ts∈ts:=by
 cases ts with
 | nil=>exact .inl rfl
 | cons t r=>
  unfold GJ;dsimp only;split
  ·exact .inr (by simp)
  ·exact .inl rfl
def RY (n:AL)(R1:AL->List Int->Block->Option Int)(R2:Aq->List Int->Block->Option Int)(T:List Int->Block->Int)(m:Nat):Prop:=
 ∀(v:List Int) (b:Block),JA b->Bs b->GL b<m->v.length+4*GL b<=4000->(∀x∈v,Cw n.decls x=true)->R1 n v b=some (T v b)/\R2 (Cg n) v b=some (T v b)/\(T v b=-1∨Cw n.decls (T v b)=true)
structure SK (n:AL) (s:Step) (v:List Int):Prop where
 WQ:H7 s
 size:MX s<=1048576
 len:v.length+4*Ot s<=4000
 aP :∀x∈v,Cw n.decls x=true
theorem Zb {k:List Block}{b:Block}(h:b∈k):GL b<=Iy k:=by
 induction k with
 | nil=>cases h
 | cons c k ih=>
  simp only[Iy];rcases mr.1 h with rfl|h
  ·omega
  ·have:=ih h;omega
theorem ZI {N:Nat}{a b:List Int}(ha:a.length<=4000)(hb:b.length<=4000)(hN:2000000<=N):EN N [a,b]=some (a++b):=by
 obtain⟨n,rfl⟩ :∃n,N=n+3:=⟨N-3,by omega⟩
 unfold EN;have e1:Bl [a,b] (n+3) 0 0=some ((a.length+b.length:Nat):Int):=by
  rw[Bl,me (by simp[Ae]),show Sh.get [a,b] 0=some a from rfl,mR,Ae,wI (n:=(0:Int)+1),wI,mj (by rw[mv];omega)];rw[Bl,me (by simp[Ae]),show Sh.get [a,b] (0+1)=some b from rfl,mR,Ae,wI (n:=(0:Int)+1+1),wI,mj (by rw[mv];omega)];rw[Bl,mj (by simp[Ae])];congr 1;omega
 have e2:Bm [a,b] (n+3) 0 []=some (a++b):=by
  rw[Bm,me (by simp[Ae]),show Sh.get [a,b] 0=some a from rfl,mR,DD [] a 8 (by simp;omega) (by simp;omega),wI (n:=(0:Int)+1)];simp only[mR,ny];rw[Bm,me (by simp[Ae]),show Sh.get [a,b] (0+1)=some b from rfl,mR,DD a b 8 (by omega) (by omega),W0 (n:=(0:Int)+1+1) (by omega) (by omega),mR,Bm,mj (by simp[Ae])]
 have e3:Fg ((a.length+b.length:Nat):Int)=some []:=by
  unfold Fg;rw[mj (by simp;omega),wI (n:=(0:Int)-0),wI];by_cases h:0<a.length+b.length
  ·rw[me (by simp;omega),show (((a.length+b.length:Nat):Int)-(0-0))=((a.length+b.length:Nat):Int) by omega,MT _ _ _ (by omega) (by omega),mR];have:=jw (l:=List.replicate (a.length+b.length) (0:Int)) (j:=0) (by omega);rw[rD]at this;rw[this];rfl
  ·rw[mj (by simp;omega)];rfl
 rw[e1,mR,e3,mR];rw[e2];rfl
section
variable {n : AL} {R1 : AL -> List Int -> Block -> Option Int} {R2 : Aq -> List Int -> Block -> Option Int} {T : List Int -> Block -> Int} {s : Step} {v : List Int} {N : Nat}
theorem SK.KM (V:SK n s v):v.length<=4000:=by have:=V.len;omega
theorem SK.Jf (V:SK n s v):s.args.length<=1048576:=by have:=V.size;rw[Kp]at this;omega
theorem Xo (H:RY n R1 R2 T (Ot s))(V:SK n s v){b:Block}(hb:b∈s.kids){m:List Int}(hm:m.length<=3)(ht :∀x∈m,Cw n.decls x=true):
  R1 n (v++m) b=some (T (v++m) b)/\R2 (Cg n) (v++m) b=some (T (v++m) b)/\(T (v++m) b=-1∨Cw n.decls (T (v++m) b)=true):=by
 have h1:=Zb hb;have h2:=Mm s;have h3:=OH hb;have h4:=V.size;have h5:=V.len;refine H (v++m) b (V.WQ.kids b hb) (by unfold Bs;omega) (by omega) (by rw[nW];omega) λx hx=>?_;rcases nM.1 hx with h|h
 ·exact V.aP x h
 ·exact ht x h
def IZ (T:List Int->Block->Int)(v:List Int)(ms:List (List Int))(ks:List Block):List Int:=List.zipWith (λm k=>T (v++m) k) ms ks
theorem Us {ms:List (List Int)}{ks:List Block}{i:Nat}{m:List Int}{k:Block}(h1:ms[i]?=some m)(h2:ks[i]?=some k):(IZ T v ms ks)[i]?=some (T (v++m) k):=by
 unfold IZ;rw[pS,h1,h2]
theorem Ui (H:RY n R1 R2 T (Ot s))(V:SK n s v){ms:List (List Int)}(hm :∀m∈ms,m.length<=3/\∀x∈m,Cw n.decls x=true):∀t∈IZ T v ms s.kids,t=-1∨Cw n.decls t=true:=λt ht=>by
 obtain⟨i,hi⟩:=nC.1 ht;unfold IZ at hi;rw[pS]at hi;cases h1:ms[i]? with
 | none=>rw[h1]at hi;simp at hi
 | some m=>
  cases h2:s.kids[i]? with
  | none=>rw[h1,h2]at hi;simp at hi
  | some k=>
   rw[h1,h2]at hi;simp only[mU]at hi;subst hi;obtain⟨q1,q2⟩:=hm m (mS h1);exact (Xo H V (mS h2) q1 q2).2.2
theorem OE (H:RY n R1 R2 T (Ot s))(V:SK n s v)(hN:2000000<=N){ms:List (List Int)}(hl:ms.length=s.kids.length)(sB:ms≠[])(zM:ms.length<=10)(hm :∀m∈ms,m.length<=3/\∀x∈m,Cw n.decls x=true):
  B6 N R2 (Cg n) v s.kids ms=some (if GJ (IZ T v ms s.kids)<0 then (-1,false) else (GJ (IZ T v ms s.kids),true)):=by
 unfold B6;have vK:(IZ T v ms s.kids).length=s.kids.length:=by unfold IZ;simp[hl]
 rw[W9 (bad:=(-1,false)) (ts:=IZ T v ms s.kids) (Bj N (Cg n) v s.kids ms R2) (λq r=>by rw[Bj,mj (by simp[Ae,vK])]) (λq i r t ht=>?_) (by omega) (λq=>by have:=nO List.length q;rw[vK,<- hl]at this;exact sB (nI (by simpa using this))) (λt ht hn=>by rcases Ui H V hm t ht with q|q;exact q;have:=(Mn q).1;omega) (-1)]
 ·by_cases h:GJ (IZ T v ms s.kids)<0<;>simp[h,Sh.cont]
 ·have hi:=(mT.1 ht).1;obtain⟨m,h1,yJ⟩:=Ax (l:=ms) (i:=i) (by omega);obtain⟨k,h2,vy⟩:=Ax (l:=s.kids) (i:=i) (by omega);rw[Us h1 h2]at ht;simp only[mU]at ht;subst ht;obtain⟨q1,q2⟩:=hm m yJ;rw[Bj,Cf,An h2,mR,An h1,mR];have vr:=V.KM;have hc:EN N [v,m]=some (v++m):=ZI vr (by omega) hN;rw[hc,mR,(Xo H V vy q1 q2).2.1,wI,show ((i:Int)+1)=((i+1:Nat):Int) by omega,mR];by_cases c1:T (v++m) k<0
  ·simp[c1]
  ·by_cases c2:0<i
   ·by_cases c3:T (v++m) k=r
    ·have c1':¬ r<0:=c3▸c1;simp[c1',c2,c3]
    ·simp[c1,c2,c3]
   ·simp[c1,c2]
theorem V8 (H:RY n R1 R2 T (Ot s))(V:SK n s v)(S:Hn n)(hN:2000000<=N){ms:List (List Int)}(h:(s.op=7/\ms=[[],[]])∨(s.op=8/\ms=(En n.decls s.num).map (L3 n.decls))):
  Ff N R1 n v s=some (if ms=[]∨¬ s.kids.length=ms.length then -1 else GJ (IZ T v ms s.kids)):=by
 have hD:=S.Pj;have hn:=S.nc;have vr:=V.KM;have uL:=L6 S.VM s.num;unfold Ff;rw[UK (by omega) (by omega) hN,mR];have hmany:(if decide (s.op=7)=true then some (2:Int) else some (Sh.len (En n.decls s.num)))=some (ms.length:Int):=by
  rcases h with ⟨h1,h2⟩|⟨h1,h2⟩
  ·rw[h2];simp[h1]
  ·rw[h2];simp[h1,Ae]
 rw[hmany];simp only[mR,Ae];by_cases h0:ms=[]
 ·have eg:(if ms=[]∨¬ s.kids.length=ms.length then (-1:Int) else GJ (IZ T v ms s.kids))=-1:=me (.inl h0);rw[eg];simp[h0]
 ·have yc:¬ ((ms.length:Int)=0):=λq=>h0 (nI (by omega));by_cases hl:s.kids.length=ms.length
  ·have tY:((s.kids.length:Int)=(ms.length:Int)):=by omega
   have eg:(if ms=[]∨¬ s.kids.length=ms.length then (-1:Int) else GJ (IZ T v ms s.kids))=GJ (IZ T v ms s.kids):=mj (by rintro (q|q);exact h0 q;exact q hl);rw[eg];simp only[yc,tY,nH,nB,nb,mW,my,mR];have vK:(IZ T v ms s.kids).length=s.kids.length:=by unfold IZ;simp[hl]
   have zM:ms.length<=3:=by rcases h with ⟨_,h2⟩|⟨_,h2⟩<;>rw[h2]<;>simp;exact uL
   have hm:∀m∈ms,m.length<=3/\∀x∈m,Cw n.decls x=true:=λm hm=>by
    rcases h with ⟨_,h2⟩|⟨_,h2⟩
    ·rw[h2]at hm;simp at hm;subst hm;simp
    ·rw[h2]at hm;obtain⟨c,hc,rfl⟩:=mu.1 hm;exact (N6 S hc hN).2.2
   rw[W9 (bad:=(-1:Int)) (ts:=IZ T v ms s.kids) (Eh N (ms.length:Int) n v s (En n.decls s.num) R1) (λq r=>by rw[Eh,mj (by simp;omega)]) (λq i r t ht=>?_) (by omega) (λq=>by have:=nO List.length q;rw[vK,hl]at this;exact h0 (nI (by simpa using this))) (λt ht hn=>by rcases Ui H V hm t ht with q|q;exact q;have:=(Mn q).1;omega) 0]
   ·by_cases q:GJ (IZ T v ms s.kids)<0
    ·have:GJ (IZ T v ms s.kids)=-1:=by
      rcases XP (ts:=IZ T v ms s.kids) with z|z
      ·exact z
      ·rcases Ui H V hm _ z with y|y
       ·exact y
       ·have:=(Mn y).1;omega
     rw[this];simp[Sh.cont]
    ·simp[q,Sh.cont]
   ·have hi:=(mT.1 ht).1;obtain⟨m,h1,yJ⟩:=Ax (l:=ms) (i:=i) (by omega);obtain⟨k,h2,vy⟩:=Ax (l:=s.kids) (i:=i) (by omega);rw[Us h1 h2]at ht;simp only[mU]at ht;subst ht;obtain⟨q1,q2⟩:=hm m yJ;have tE:(if decide (s.op=8)=true then (Sh.get (En n.decls s.num) i).bind λxA=>(B5 N n.decls xA).bind λq44=>(Ik v q44).bind λvq=>some vq else some v)=some (v++m):=by
     rcases h with ⟨o1,o2⟩|⟨o1,o2⟩
     ·have:m=[]:=by rw[o2]at yJ;simpa using yJ
      simp[o1,this]
     ·rw[o2]at h1;rw[mX,mZ]at h1;obtain⟨c,hc,rfl⟩:=h1;simp only[o1,nB,nL];rw[An hc,mR,(N6 S (mS hc) hN).1,mR];unfold Ik Dc;rw[DD [] v 8 (by simp;omega) (by simp;omega)];simp only[mR,ny];rw[DD _ _ 8 (by omega) (by omega)];rfl
    rw[Eh,me (by simp;omega),tE,An h2];simp only[mR];rw[(Xo H V vy q1 q2).1,wI,show ((i:Int)+1)=((i+1:Nat):Int) by omega];simp only[mR];by_cases c1:T (v++m) k<0
    ·simp[c1]
    ·by_cases c2:0<i
     ·by_cases c3:T (v++m) k=r
      ·have c1':¬ r<0:=c3▸c1;simp[c1',c2,c3]
      ·simp[c1,c2,c3]
     ·simp[c1,c2]
  ·have tY:¬ ((s.kids.length:Int)=(ms.length:Int)):=by omega
   have eg:(if ms=[]∨¬ s.kids.length=ms.length then (-1:Int) else GJ (IZ T v ms s.kids))=-1:=me (.inr hl);rw[eg];simp[h0,yc,tY]
theorem PC (S:Hn n)(hN:2000000<=N)(t:Int):CM N (Cg n) t=some ((En n.decls t).map (L3 n.decls)):=by
 have hD:=S.Pj;have hn:=S.nc;have uL:=L6 S.VM t;unfold CM;rw[show (Cg n).decls=n.decls from rfl,UJ (by omega) (by omega) hN,mR];have hm:∀c∈En n.decls t,GZ N n.decls c=some (L3 n.decls c):=λc hc=>(N6 S hc hN).2.1;generalize En n.decls t=C at uL hm;have key:∀{M i:Nat},i<=C.length->C.length-i<M->BX N (Cg n) C M i ((C.take i).map (L3 n.decls))=some (C.map (L3 n.decls)):=by
  intro M i hi hM;refine A4 C.length (λM i=>BX N (Cg n) C M i ((C.take i).map (L3 n.decls))=some (C.map (L3 n.decls))) ?_ ?_ hi hM
  ·intro q;rw[BX,CG,nT]
  ·intro q i hi ih;obtain⟨c,hc,vJ⟩:=Ax hi;rw[BX,Cf,An hc,mR,show (Cg n).decls=n.decls from rfl,hm c vJ,mR,DD _ _ _ (by simp;omega) (by simp;omega),wI,show ((i:Int)+1)=((i+1:Nat):Int) by omega,mR];rw[<- ih,CO hc,oF];rfl
 have:=key (mi _) (by omega:C.length-0<N);rw[rD,oO,od]at this;rw[this];rfl
end
end RC
namespace RC
open Go
def B2 (N:Nat)(rG:AL->(List Int)->Block->Option (Int))(p0:AL)(p1:(List Int))(p2:Step):Option (Int):=
 Sh.cont (
  if (decide (p2.op=0))=true then
   (
    if (decide ((Sh.len p2.args)=0))=true then
     (BO p2.num (-999) 999).bind λtJ=>
     some tJ
    else
     some false
   ).bind λt15=>
   if t15=true then
    some (Sum.inl 0)
   else
    some (Sum.inr ())
  else
   (
    if (decide (p2.op=1))=true then
     some true
    else
    if (decide (p2.op=2))=true then
     some true
    else
    if (decide (p2.op=3))=true then
     some true
    else
     some (decide (p2.op=4))
   ).bind λt22=>
   if t22=true then
    (Bd N p1 p2.args [(0:Int),0]).bind λwA=>
    if wA=true then
     some (Sum.inl 0)
    else
     some (Sum.inr ())
   else
   if (decide (p2.op=5))=true then
    (Bd N p1 p2.args [(0:Int)]).bind λvN=>
    if vN=true then
     some (Sum.inl 0)
    else
     some (Sum.inr ())
   else
   if (decide (p2.op=6))=true then
    (
     Option.bind (Cx N p0.decls p2.num) λwX=>
     if (decide (0<wX))=true then
      (B5 N p0.decls p2.num).bind λvq=>
      (Bd N p1 p2.args vq).bind λxh=>
      some xh
     else
      some false
    ).bind λt38=>
    if t38=true then
     (Cx N p0.decls p2.num).bind λq42=>
     some (Sum.inl q42)
    else
     some (Sum.inr ())
   else
   if (decide (p2.op=7))=true then
    (Bd N p1 p2.args [(0:Int)]).bind λzZ=>
    if zZ=true then
     (Ff N rG p0 p1 p2).bind λq53=>
     some (Sum.inl q53)
    else
     some (Sum.inr ())
   else
   if (decide (p2.op=8))=true then
    (Bd N p1 p2.args [p2.num]).bind λq57=>
    if q57=true then
     (Ff N rG p0 p1 p2).bind λzU=>
     some (Sum.inl zU)
    else
     some (Sum.inr ())
   else
    (
     if (decide (p2.op=9))=true then
      some true
     else
      some (decide (p2.op=10))
    ).bind λt62=>
    if t62=true then
     (Eb N p0 p1 p2).bind λq66=>
     some (Sum.inl q66)
    else
    if (decide (p2.op=11))=true then
     (
      if (decide ((Sh.len p2.args)=2))=true then
       (Sh.get p2.args 0).bind λc79=>
       (BO c79 0 (Sh.w ((Sh.len p1)-1))).bind λza=>
       if za=true then
        (Sh.get p1 c79).bind λxk=>
        (Gy p0.decls xk).bind λq83=>
        some q83
       else
        some false
      else
       some false
     ).bind λt70=>
     if t70=true then
      (Sh.get p2.args 0).bind λc74=>
      (Sh.get p1 c74).bind λc75=>
      (Sh.get p0.decls (Sh.w (c75-1))).bind λc76=>
      (Sh.sl p2.args 1 (Sh.len p2.args)).bind λl79=>
      (Bd N p1 l79 [c76.from_]).bind λza=>
      if za=true then
       some (Sum.inl c76.to)
      else
       some (Sum.inr ())
     else
      some (Sum.inr ())
    else
     (
      if (decide (p2.op=14))=true then
       some true
      else
      if (decide (p2.op=15))=true then
       some true
      else
      if (decide (p2.op=16))=true then
       some true
      else
       some (decide (p2.op=17))
     ).bind λt85=>
     if t85=true then
      (FX p0 p1 p2).bind λq89=>
      some (Sum.inl q89)
     else
      some (Sum.inr ())
 ) (id) λ()=>
 some (-1)
def CN (N:Nat)(rE:Aq->(List Int)->Block->Option (Int))(p0:Aq)(p1:(List Int))(p2:Step)(l8:List Int):Option (Int×Bool):=
 (Ch p2.op).bind λzh=>
 if zh=true then
  (
   if (decide ((Sh.len l8)=1))=true then
    (Sh.get l8 0).bind λc38=>
    if (!decide (c38=0))=true then
     if (decide (p2.num=0))=true then
      some (decide ((Sh.len p2.kids)=0))
     else
      some false
    else
     some false
   else
    some false
  ).bind λxD=>
  (
   Option.bind (
    if xD=true then
     if (decide (p2.op=16))=true then
      some true
     else
      some (decide (p2.op=17))
    else
     some false
   ) λt28=>
   if t28=true then
    (Sh.get l8 0).bind λc32=>
    (Gx p0.decls c32).bind λwP=>
    some (!wP.2)
   else
    some xD
  ).bind λzi=>
  some (-1,zi)
 else
 if (decide (p2.op=7))=true then
  (
   if (!decide ((Sh.len l8)=1))=true then
    some true
   else
    (Sh.get l8 0).bind λc53=>
    if (!decide (c53=0))=true then
     some true
    else
    if (!decide (p2.num=0))=true then
     some true
    else
     some (!decide ((Sh.len p2.kids)=2))
  ).bind λt45=>
  if t45=true then
   some (-1,false)
  else
   (Sh.mk [] 2 24).bind λl50=>
   (B6 N rE p0 p1 p2.kids l50).bind λq51=>
   some (q51.1,q51.2)
 else
 if (decide (p2.op=8))=true then
  (CM N p0 p2.num).bind λzj=>
  (
   if (!decide ((Sh.len l8)=1))=true then
    some true
   else
    (Sh.get l8 0).bind λc69=>
    if (!decide (c69=p2.num))=true then
     some true
    else
    if (decide ((Sh.len zj)=0))=true then
     some true
    else
     some (!decide ((Sh.len p2.kids)=(Sh.len zj)))
  ).bind λt62=>
  if t62=true then
   some (-1,false)
  else
   (B6 N rE p0 p1 p2.kids zj).bind λq67=>
   some (q67.1,q67.2)
 else
  (
   if (decide (0<(Sh.len p2.kids)))=true then
    some true
   else
   if (decide (p2.op=10))=true then
    if (decide (0<=p2.num))=true then
     if (decide (p2.num<(Sh.len p0.funcs)))=true then
      (Sh.get p0.funcs p2.num).bind λxm=>
      some (decide (0<(Sh.len xm.Ao)))
     else
      some false
    else
     some false
   else
    some false
  ).bind λt73=>
  if t73=true then
   some (-1,false)
  else
   (Af N p0 p2.op p2.num l8).bind λq78=>
   some (q78.1,q78.2)
def EU (p1:(List Int))(p2:Step):Option Bool:=
  if (!decide (p2.A5=0))=true then
   if (!decide (p2.op=6))=true then
    some true
   else
   if (decide (p2.A5<1))=true then
    some true
   else
   if (decide ((Sh.len p1)<p2.A5))=true then
    some true
   else
    (Sh.get p1 (Sh.w (p2.A5-1))).bind λc88=>
    some (decide (c88=0))
  else
   some false
section
variable {n : AL} {R1 : AL -> List Int -> Block -> Option Int} {R2 : Aq -> List Int -> Block -> Option Int} {T : List Int -> Block -> Int} {s : Step} {v : List Int} {N : Nat}
theorem Rf (hv :∀x∈v,Cw n.decls x=true)(hl:v.length<=1048576):∃b,BP v s=some b/\EU v s=some (!b):=by
 unfold BP EU;by_cases h0:s.A5=0
 ·exact⟨true,by simp[h0],by simp[h0]⟩
 ·by_cases h6:s.op=6
  ·by_cases hr:1<=s.A5/\s.A5<=(v.length:Int)
   ·have hw:Sh.w (s.A5-1)=s.A5-1:=wI;obtain⟨x,x1,x2⟩:=Nh (l:=v) (j:=s.A5-1) (by omega) (by omega);have hx:=(Mn (hv x (mS x2))).1;have r1:¬ s.A5<1:=by omega
    have r2:¬ (v.length:Int)<s.A5:=by omega
    rw[Cb,hw,x1,Ae];by_cases q:x=0
    ·exact⟨false,by simp[h0,h6,hr.1,hr.2,q],by simp[h0,h6,r1,r2,q]⟩
    ·have q':0<x:=by omega
     exact⟨true,by simp[h0,h6,hr.1,hr.2,q'],by simp[h0,h6,r1,r2,q]⟩
   ·refine⟨false,?_,?_⟩
    ·rw[Cb,Ae];have:(decide (1<=s.A5)&&decide (s.A5<=(v.length:Int)))=false:=by
      rw[nY,mm,mm];omega
     rw[this];simp[h0,h6]
    ·rw[Ae];by_cases r1:s.A5<1
     ·simp[h0,h6,r1]
     ·have r2:(v.length:Int)<s.A5:=by omega
      simp[h0,h6,r1,r2]
  ·exact⟨false,by simp[h0,h6],by simp[h0,h6]⟩
def Ni (o:Int):Bool:=decide (o=0∨o=6∨o=8∨o=9∨o=10)
theorem ay (o:Int):Ii o=some (Ni o):=by
 unfold Ii Ni;by_cases h0:o=0
 ·simp[h0]
 by_cases h6:o=6
 ·simp[h6]
 by_cases h8:o=8
 ·simp[h8]
 by_cases h9:o=9
 ·simp[h9]
 simp[h0,h6,h8,h9]
def GY (b:Bool)(s:Step):Bool:=((decide (s.num=0) || Ni s.op)&&b)&&(decide (s.kids=[]) || (decide (s.op=7) || decide (s.op=8)))
theorem L4 {b:Bool}(hb:BP v s=some b):Em N R1 n v s=if GY b s=true then B2 N R1 n v s else some (-1):=by
 have e:Em N R1 n v s=(
  if (!decide (s.num=0))=true then
   (Ii s.op).bind λzW=>
   if (!zW)=true then some true
   else (BP v s).bind λzX=>if (!zX)=true then some true else if (decide (0<(Sh.len s.kids)))=true then (if (!decide (s.op=7))=true then some (!decide (s.op=8)) else some false) else some false
  else (BP v s).bind λzY=>if (!zY)=true then some true else if (decide (0<(Sh.len s.kids)))=true then (if (!decide (s.op=7))=true then some (!decide (s.op=8)) else some false) else some false).bind λt4=>if t4=true then some (-1) else B2 N R1 n v s:=rfl
 rw[e,ay,hb];have hk:(if (decide (0<(Sh.len s.kids)))=true then (if (!decide (s.op=7))=true then some (!decide (s.op=8)) else some false) else some false)=some (!(decide (s.kids=[]) || (decide (s.op=7) || decide (s.op=8)))):=by
  cases hk:s.kids with
  | nil=>simp[Ae]
  | cons a r=>
   have:decide ((0:Int)<Sh.len (a::r))=true:=qN (by rw[Ae,nE];omega);rw[this];by_cases h7:s.op=7
   ·simp[h7]
   ·simp[h7]
 simp only[mR];rw[hk];unfold GY;cases decide (s.num=0)<;>cases Ni s.op<;>cases b<;>cases (decide (s.kids=[]) || (decide (s.op=7) || decide (s.op=8)))<;>simp
theorem JT (hl:v.length<=1048576)(ha:s.args.length<=1048576)(hN:2000000<=N){b:Bool}(hb:EU v s=some (!b)):
  BT N R2 (Cg n) v s=(CK v s.args).elim (some (-1,false)) λl=>if b=true then CN N R2 (Cg n) v s l else some (-1,false):=by
 have e:BT N R2 (Cg n) v s=(Sh.mk (0:Nat) (Sh.len s.args) 8).bind λl3=>Sh.cont (BF v s N 0 []) (id) λl8=>(EU v s).bind λt12=>if t12=true then some (-1,false) else CN N R2 (Cg n) v s l8:=rfl;rw[e,Ae,MT _ _ _ (by omega) (by omega),ba hl ha hN,hb];cases CK v s.args with
 | none=>rfl
 | some l=>cases b<;>simp[Sh.cont]
def Ix (n:AL)(R1:AL->List Int->Block->Option Int)(R2:Aq->List Int->Block->Option Int)(N:Nat)(v:List Int)(s:Step):Prop:=
 ∃(q t:Int) (ok:Bool),Em N R1 n v s=some q/\BT N R2 (Cg n) v s=some (t,ok)/\(if ok=true then 0<=q/\(if MO s.op=true then True else t=q/\Cw n.decls q=true/\0<=s.op/\s.op<=11) else q<0)
theorem GD {q t:Int}{ok:Bool}(h1:Em N R1 n v s=some q)(h2:BT N R2 (Cg n) v s=some (t,ok))(h3:ok=false)(h4:q<0):Ix n R1 R2 N v s:=⟨q,t,ok,h1,h2,by rw[h3];exact h4⟩
theorem fW {q:Int}(h1:Em N R1 n v s=some q)(h2:BT N R2 (Cg n) v s=some (q,true))(h3:Cw n.decls q=true)(h4:0<=s.op)(h5:s.op<=11):Ix n R1 R2 N v s:=
 ⟨q,q,true,h1,h2,by
  have:MO s.op=false:=by unfold MO;rw[nY,mm,mm];omega
  rw[me rfl,mj (by rw[this];simp)];exact⟨(Mn h3).1,rfl,h3,h4,h5⟩⟩
theorem Gc (V:SK n s v)(hN:2000000<=N){b:Bool}(sf:BP v s=some b)(sd:EU v s=some (!b))(h0:0<=s.op)(h5:s.op<=11){want:List Int}{c:Bool}{t:Int}(ht:c=true->Cw n.decls t=true)
  (hs:GY b s=true->B2 N R1 n v s=some (if c=true/\CK v s.args=some want then t else -1))
  (hi :∀l,CK v s.args=some l->GY b s=true->∃t',CN N R2 (Cg n) v s l=some (t',c&&decide (l=want))/\(c=true->l=want->t'=t))
  (wh :∀l,CK v s.args=some l->GY b s=false->b=true->∃t',CN N R2 (Cg n) v s l=some (t',false)):Ix n R1 R2 N v s:=by
 have hl:v.length<=1048576:=by have:=V.KM;omega
 have e1:=L4 (n:=n) (R1:=R1) (N:=N) sf;have e2:=JT (n:=n) (R2:=R2) hl V.Jf hN sd;cases hA:CK v s.args with
 | none=>
  rw[hA]at e2 hs;refine GD (q:=-1) ?_ e2 rfl (by omega);rw[e1];by_cases hp:GY b s=true
  ·rw[me hp,hs hp];simp
  ·rw[mj hp]
 | some l=>
  rw[hA]at e2 hs;simp only[oG]at e2;cases hp:GY b s with
  | false=>
   rw[hp]at e1;simp only[mW,my]at e1;cases b with
   | false=>exact GD e1 e2 rfl (by omega)
   | true=>
    obtain⟨t',h7⟩:=wh l hA hp rfl;simp only[nL]at e2;exact GD e1 (e2.trans h7) rfl (by omega)
  | true=>
   rw[hp]at e1;simp only[nL]at e1;have hbt:b=true:=by
    unfold GY at hp;simp only[mh]at hp;exact hp.1.2
   rw[hbt]at e2;simp only[nL]at e2;obtain⟨t',h7,h8⟩:=hi l hA hp;by_cases hc:c=true/\l=want
   ·have ht':=h8 hc.1 hc.2;rw[hs hp,me ⟨hc.1,by rw[hc.2]⟩]at e1;rw[h7,ht',hc.1,hc.2]at e2;simp only[nB,Bool.and_self]at e2;exact fW e1 e2 (ht hc.1) h0 h5
   ·rw[hs hp,mj (by rintro⟨q1,q2⟩;exact hc ⟨q1,by simpa using q2⟩)]at e1;refine GD e1 (e2.trans h7) ?_ (by omega);cases c with
    | false=>rfl
    | true=>simp only[true_and]at hc;simp[hc]
end
end RC
namespace RC
open Go
section
variable {n : AL} {R1 : AL -> List Int -> Block -> Option Int} {R2 : Aq -> List Int -> Block -> Option Int} {T : List Int -> Block -> Int} {s : Step} {v : List Int} {N : Nat} {b : Bool}
theorem FW {v args l:List Int}(h:CK v args=some l):l.length=args.length:=(NY.1 h).1.symm
theorem Y6 (h0:0<=s.op)(h5:s.op<=11):Ch s.op=some false:=by
 rw[Ja];have:MO s.op=false:=by unfold MO;rw[nY,mm,mm];omega
 rw[this]
theorem DW {l:List Int}{t:Int}{ok:Bool}(hk:s.kids=[])(hs:Af N (Cg n) s.op s.num l=some (t,ok))(h0:0<=s.op:=by omega)(h5:s.op<=11:=by omega)(h7:¬ s.op=7:=by omega)(h8:¬ s.op=8:=by omega)(h10:¬ s.op=10:=by omega):CN N R2 (Cg n) v s l=some (t,ok):=by
 unfold CN;rw[Y6 h0 h5];simp only[mR,mW,my,h7,h8,h10,nH];rw[hs,hk];simp[Ae]
theorem JX {l:List Int}(hk:¬ s.kids=[])(h0:0<=s.op:=by omega)(h5:s.op<=11:=by omega)(h7:¬ s.op=7:=by omega)(h8:¬ s.op=8:=by omega):CN N R2 (Cg n) v s l=some (-1,false):=by
 unfold CN;rw[Y6 h0 h5];have:decide ((0:Int)<Sh.len s.kids)=true:=by
  cases hq:s.kids with
  | nil=>exact absurd hq hk
  | cons a r=>exact qN (by rw[Ae,nE];omega)
 simp only[mR,mW,my,h7,h8,nH,this,nL]
theorem GP (hp:GY b s=true)(h7:¬ s.op=7:=by omega)(h8:¬ s.op=8:=by omega):s.kids=[]:=by
 unfold GY at hp;simp only[mh,pJ,mv,h7,h8,qY]at hp;exact hp.2
theorem NW (hp:GY b s=false)(hb:b=true)(h7:¬ s.op=7:=by omega)(h8:¬ s.op=8:=by omega):¬ s.kids=[]∨(¬ s.num=0/\Ni s.op=false):=by
 by_cases hk:s.kids=[]
 ·right;unfold GY at hp;simp only[hb,hk,nB,qC,Bool.true_or,qF,mm]at hp;exact hp
 ·exact .inl hk
theorem Vo (hn:Ni s.op=false)(hp:GY b s=true):s.num=0:=by
 unfold GY at hp;simp only[mh,pJ,mv,hn,mW,qY]at hp;exact hp.1.1
theorem hP (V:SK n s v)(hN:2000000<=N)(sf:BP v s=some b)(sd:EU v s=some (!b))(h:s.op=0):Ix n R1 R2 N v s:=by
 have ha:=V.Jf;refine Gc V hN sf sd (by omega) (by omega) (want:=[]) (c:=decide (-999<=s.num)&&decide (s.num<=999)) (t:=0) (λ_=>jx) (λhp=>?_) (λl hA hp=>⟨0,?_,λ_ _=>rfl⟩) (λl hA hp hb=>?_)
 ·have e1:(CK v s.args=some [])↔s.args=[]:=by
   constructor
   ·intro q;exact nI (FW q).symm
   ·intro q;rw[q];rfl
  unfold B2;simp only[h,nB,nL,len_nil,Cb,e1];by_cases a:-999<=s.num<;>by_cases c:s.num<=999<;>by_cases d:s.args=[]<;>simp[a,c,d,Sh.cont]
 ·exact DW (GP hp) (Wy h)
 ·rcases NW hp hb with q|q
  ·exact⟨_,JX q⟩
  ·rw[h]at q;exact absurd q.2 (by decide)
theorem dw (V:SK n s v)(hN:2000000<=N)(sf:BP v s=some b)(sd:EU v s=some (!b))(h:s.op=1∨s.op=2∨s.op=3∨s.op=4):Ix n R1 R2 N v s:=by
 have ha:=V.Jf;have vr:=V.KM;have hh:Ni s.op=false:=by rcases h with h|h|h|h<;>rw[h]<;>decide
 refine Gc V hN sf sd (by omega) (by omega) (want:=[0,0]) (c:=decide (s.num=0)) (t:=0) (λ_=>jx) (λhp=>?_) (λl hA hp=>⟨0,?_,λ_ _=>rfl⟩) (λl hA hp hb=>?_)
 ·have hn:=Vo hh hp;have e2:Bd N v s.args [0,0]=some (decide (CK v s.args=some [0,0])):=Jc (by omega) ha hN;unfold B2;rcases h with h|h|h|h<;>simp only[h,Int.reduceEq,nB,nH,mW,nL,my,mR]<;>rw[e2]<;>by_cases q:CK v s.args=some [0,0]<;>simp[q,hn,Sh.cont]
 ·have hl:=FW hA;exact DW (GP hp) (O7 (by omega) hN h)
 ·have hl:=FW hA;by_cases hk:s.kids=[]
  ·rcases NW hp hb with q|q
   ·exact absurd hk q
   ·exact⟨0,DW hk (by rw[show (Cg n)=⟨n.decls,(Cg n).funcs⟩ from rfl,O7 (by omega) hN h];simp[q.1])⟩
  ·exact⟨_,JX hk⟩
theorem dJ (V:SK n s v)(hN:2000000<=N)(sf:BP v s=some b)(sd:EU v s=some (!b))(h:s.op=5):Ix n R1 R2 N v s:=by
 have ha:=V.Jf;have vr:=V.KM;have hh:Ni s.op=false:=by rw[h];decide
 refine Gc V hN sf sd (by omega) (by omega) (want:=[0]) (c:=decide (s.num=0)) (t:=0) (λ_=>jx) (λhp=>?_) (λl hA hp=>⟨0,?_,λ_ _=>rfl⟩) (λl hA hp hb=>?_)
 ·have hn:=Vo hh hp;have e2:Bd N v s.args [0]=some (decide (CK v s.args=some [0])):=Jc (by omega) ha hN;unfold B2;simp only[h,Int.reduceEq,nB,nH,mW,nL,my,mR];rw[e2];by_cases q:CK v s.args=some [0]<;>simp[q,hn,Sh.cont]
 ·have hl:=FW hA;exact DW (GP hp) (O6 (by omega) hN h)
 ·have hl:=FW hA;by_cases hk:s.kids=[]
  ·rcases NW hp hb with q|q
   ·exact absurd hk q
   ·exact⟨0,DW hk (by rw[show (Cg n)=⟨n.decls,(Cg n).funcs⟩ from rfl,O6 (by omega) hN h];simp[q.1])⟩
  ·exact⟨_,JX hk⟩
theorem Zh (h:H7 s):Ji s.num:=by cases h;assumption
theorem iR (V:SK n s v)(S:Hn n)(hN:2000000<=N)(sf:BP v s=some b)(sd:EU v s=some (!b))(h:s.op=6):Ix n R1 R2 N v s:=by
 have ha:=V.Jf;have vr:=V.KM;have hI:=Zh V.WQ;have uO:∀l,CK v s.args=some l->GY b s=false->b=true->∃t',CN N R2 (Cg n) v s l=some (t',false):=λl hA hp hb=>by
  rcases NW hp hb with q|q
  ·exact⟨_,JX q⟩
  ·rw[h]at q;exact absurd q.2 (by decide)
 have uI:(∃t x,0<t/\Cw n.decls t=true/\Cx N n.decls s.num=some t/\B5 N n.decls s.num=some x)∨Cx N n.decls s.num=some (-1):=by
  rcases QK (G:=(Cg n).funcs) (ks:=[]) S (by simp) hI hN h with ⟨t,x,q1,q2,q3,q4,q5,q6⟩|⟨q1,q2⟩
  ·exact .inl ⟨t,x,q1,q2,q4,q5⟩
  ·exact .inr q1
 rcases uI with ⟨t,x,q1,q2,q4,q5⟩|q1
 ·refine Gc V hN sf sd (by omega) (by omega) (want:=x) (c:=true) (t:=t) (λ_=>q2) (λhp=>?_) (λl hA hp=>⟨t,?_,λ_ _=>rfl⟩) uO
  ·have e2:Bd N v s.args x=some (decide (CK v s.args=some x)):=Jc (by omega) ha hN;unfold B2;simp only[h,Int.reduceEq,nB,nH,mW,nL,my,mR];rw[q4,q5];simp only[mR];rw[e2];by_cases q:CK v s.args=some x<;>simp[q,q1,Sh.cont]
  ·have hl:=FW hA;refine DW (GP hp) ?_;rcases QK (G:=(Cg n).funcs) (ks:=l) S (by omega) hI hN h with ⟨t',x',p1,p2,p3,p4,p5,p6⟩|⟨p1,p2⟩
   ·rw[q4]at p4;rw[q5]at p5;cases p4;cases p5;rw[pR];exact p6
   ·rw[q4]at p1;cases p1;omega
 ·refine Gc V hN sf sd (by omega) (by omega) (want:=[]) (c:=false) (t:=0) (λq=>nomatch q) (λhp=>?_) (λl hA hp=>⟨-1,?_,λq=>nomatch q⟩) uO
  ·unfold B2;simp only[h,Int.reduceEq,nB,nH,mW,nL,my,mR];rw[q1];simp[Sh.cont]
  ·have hl:=FW hA;refine DW (GP hp) ?_;rcases QK (G:=(Cg n).funcs) (ks:=l) S (by omega) hI hN h with ⟨t',x',p1,p2,p3,p4,p5,p6⟩|⟨p1,p2⟩
   ·rw[q1]at p4;cases p4;omega
   ·rw[Bool.false_and];exact p2
end
end RC
namespace RC
open Go
section
variable {n : AL} {R1 : AL -> List Int -> Block -> Option Int} {R2 : Aq -> List Int -> Block -> Option Int} {T : List Int -> Block -> Int} {s : Step} {v : List Int} {N : Nat} {b : Bool}
theorem VA:∀m∈([[],[]]:List (List Int)),m.length<=3/\∀x∈m,Cw n.decls x=true:=λm hm=>by
 simp at hm;subst hm;simp
theorem cV {o:Int}(h0:0<=s.op)(h5:s.op<=11)(ho:o=-1∨Cw n.decls o=true)(h1:Em N R1 n v s=some o)(h2:BT N R2 (Cg n) v s=some (if o<0 then (-1,false) else (o,true))):Ix n R1 R2 N v s:=by
 by_cases h:o<0
 ·rw[me h]at h2;exact GD h1 h2 rfl h
 ·rw[mj h]at h2;refine fW h1 h2 ?_ h0 h5;rcases ho with q|q
  ·omega
  ·exact q
theorem cc (H:RY n R1 R2 T (Ot s))(V:SK n s v){ms:List (List Int)}(hm :∀m∈ms,m.length<=3/\∀x∈m,Cw n.decls x=true):GJ (IZ T v ms s.kids)=-1∨Cw n.decls (GJ (IZ T v ms s.kids))=true:=by
 rcases XP (ts:=IZ T v ms s.kids) with z|z
 ·exact .inl z
 ·exact Ui H V hm _ z
theorem kO (H:RY n R1 R2 T (Ot s))(V:SK n s v)(S:Hn n)(hN:2000000<=N)(sf:BP v s=some b)(sd:EU v s=some (!b))(h:s.op=7):Ix n R1 R2 N v s:=by
 have hl:v.length<=1048576:=by have:=V.KM;omega
 have e1:=L4 (n:=n) (R1:=R1) (N:=N) sf;have e2:=JT (n:=n) (R2:=R2) hl V.Jf hN sd;have ht:Bd N v s.args [0]=some (decide (CK v s.args=some [0])):=Jc hl V.Jf hN;have hp:GY b s=(decide (s.num=0)&&b):=by
  unfold GY;rw[h,show Ni 7=false by decide];simp
 have sG:B2 N R1 n v s=some (if CK v s.args=some [0] then (if s.kids.length=2 then GJ (IZ T v [[],[]] s.kids) else -1) else -1):=by
  unfold B2;simp only[h,Int.reduceEq,nB,nH,mW,nL,my,mR];rw[ht,V8 H V S hN (.inl ⟨h,rfl⟩)];by_cases q:CK v s.args=some [0]
  ·by_cases q2:s.kids.length=2<;>simp[q,q2,Sh.cont]
  ·simp[q,Sh.cont]
 rw[hp,sG]at e1;cases hA:CK v s.args with
 | none=>
  rw[hA]at e1 e2;refine GD (q:=-1) ?_ e2 rfl (by omega);rw[e1];simp
 | some l=>
  rw[hA]at e1 e2;simp only[oG]at e2;have xI:decide (Sh.len l=1)=decide (l.length=1):=nx.2 (by rw[Ae];omega);cases b with
  | false=>
   refine GD (q:=-1) ?_ e2 rfl (by omega);rw[e1];simp
  | true=>
   simp only[nL]at e2;have hc:CN N R2 (Cg n) v s l=if l=[0]/\s.num=0/\s.kids.length=2 then some (if GJ (IZ T v [[],[]] s.kids)<0 then (-1,false) else (GJ (IZ T v [[],[]] s.kids),true)) else some (-1,false):=by
    unfold CN;rw[Y6 (by omega) (by omega),xI];simp only[mR,mW,my,h,nB,nL]
    match l with
    | []=>simp
    | [x]=>
     have Vk:decide (Sh.len s.kids=2)=decide (s.kids.length=2):=nx.2 (by rw[Ae];omega);rw[show Sh.get [x] 0=some x from rfl,Vk,mR];by_cases q1:x=0
     ·by_cases q2:s.num=0
      ·by_cases q3:s.kids.length=2
       ·have mk2:Sh.mk ([]:List Int) 2 24=some [[],[]]:=MT [] 2 24 (by omega) (by omega);rw[mk2];have ik:=OE (ms:=[[],[]]) H V hN (by rw[q3];rfl) (by simp) (by simp) VA;simp only[mR];rw[ik];by_cases z:GJ (IZ T v [[],[]] s.kids)<0<;>simp[q1,q2,q3,z]
       ·simp[q1,q2,q3]
      ·simp[q1,q2]
     ·simp[q1]
    | x::y::r=>simp
   rw[hc]at e2;by_cases q:l=[0]/\s.num=0/\s.kids.length=2
   ·rw[me q]at e2;refine cV (by omega) (by omega) (cc H V VA) ?_ e2;rw[e1];simp[q.1,q.2.1,q.2.2]
   ·rw[mj q]at e2;refine GD (q:=-1) ?_ e2 rfl (by omega);rw[e1];by_cases q1:s.num=0
    ·by_cases q2:l=[0]
     ·have q3:¬ s.kids.length=2:=λz=>q ⟨q2,q1,z⟩;simp[q1,q2,q3]
     ·simp[q1,q2]
    ·simp[q1]
theorem cm (H:RY n R1 R2 T (Ot s))(V:SK n s v)(S:Hn n)(hN:2000000<=N)(sf:BP v s=some b)(sd:EU v s=some (!b))(h:s.op=8):Ix n R1 R2 N v s:=by
 have hl:v.length<=1048576:=by have:=V.KM;omega
 have e1:=L4 (n:=n) (R1:=R1) (N:=N) sf;have e2:=JT (n:=n) (R2:=R2) hl V.Jf hN sd;have ht:Bd N v s.args [s.num]=some (decide (CK v s.args=some [s.num])):=Jc hl V.Jf hN;have hp:GY b s=b:=by
  unfold GY;rw[h,show Ni 8=true by decide];simp
 have uL:=L6 S.VM s.num;have hm:∀m∈(En n.decls s.num).map (L3 n.decls),m.length<=3/\∀x∈m,Cw n.decls x=true:=λm hm=>by
  obtain⟨c,hc,rfl⟩:=mu.1 hm;exact (N6 S hc hN).2.2
 have sk:=V8 H V S hN (.inr ⟨h,rfl⟩);have af:=PC (n:=n) S hN s.num;have zM:((En n.decls s.num).map (L3 n.decls)).length<=10:=by simp;omega
 generalize (En n.decls s.num).map (L3 n.decls)=ms at hm sk af zM;have sG:B2 N R1 n v s=some (if CK v s.args=some [s.num] then (if ms=[]∨¬ s.kids.length=ms.length then -1 else GJ (IZ T v ms s.kids)) else -1):=by
  unfold B2;simp only[h,Int.reduceEq,nB,nH,mW,nL,my,mR];rw[ht,sk];by_cases q:CK v s.args=some [s.num]<;>simp[q,Sh.cont]
 rw[hp,sG]at e1;cases hA:CK v s.args with
 | none=>
  rw[hA]at e1 e2;refine GD (q:=-1) ?_ e2 rfl (by omega);rw[e1];simp
 | some l=>
  rw[hA]at e1 e2;simp only[oG]at e2;have xI:decide (Sh.len l=1)=decide (l.length=1):=nx.2 (by rw[Ae];omega);cases b with
  | false=>
   refine GD (q:=-1) ?_ e2 rfl (by omega);rw[e1];simp
  | true=>
   simp only[nL]at e1 e2;have hc:CN N R2 (Cg n) v s l=if l=[s.num]/\¬ ms=[]/\s.kids.length=ms.length then some (if GJ (IZ T v ms s.kids)<0 then (-1,false) else (GJ (IZ T v ms s.kids),true)) else some (-1,false):=by
    unfold CN;rw[Y6 (by omega) (by omega),xI,af];simp only[mR,mW,my,h,Int.reduceEq,nH,nB,nL,len_nil]
    match l with
    | []=>simp
    | [x]=>
     have Vk:decide (Sh.len s.kids=Sh.len ms)=decide (s.kids.length=ms.length):=nx.2 (by rw[Ae,Ae];omega);rw[show Sh.get [x] 0=some x from rfl,Vk,mR];by_cases q1:x=s.num
     ·by_cases q2:ms=[]
      ·simp[q1,q2]
      ·by_cases q3:s.kids.length=ms.length
       ·have ik:=OE (ms:=ms) H V hN q3.symm q2 zM hm;rw[ik];by_cases z:GJ (IZ T v ms s.kids)<0<;>simp[q1,q2,q3,z]
       ·simp[q1,q2,q3]
     ·simp[q1]
    | x::y::r=>simp
   rw[hc]at e2;by_cases q:l=[s.num]/\¬ ms=[]/\s.kids.length=ms.length
   ·rw[me q]at e2;refine cV (by omega) (by omega) (cc H V hm) ?_ e2;rw[e1];simp[q.1,q.2.1,q.2.2]
   ·rw[mj q]at e2;refine GD (q:=-1) ?_ e2 rfl (by omega);rw[e1];by_cases q2:l=[s.num]
    ·have q3:ms=[]∨¬ s.kids.length=ms.length:=by
      by_cases z:ms=[]
      ·exact .inl z
      ·exact .inr λy=>q ⟨q2,z,y⟩
     rw[me (by rw[q2]),me q3]
    ·rw[mj (by simpa using q2)]
theorem Wu (hh:Ni s.op=true)(h0:0<=s.op)(h5:s.op<=11)(h7:¬ s.op=7)(h8:¬ s.op=8):∀l,CK v s.args=some l->GY b s=false->b=true->∃t',CN N R2 (Cg n) v s l=some (t',false):=λl _ hp hb=>by
 rcases NW hp hb with q|q
 ·exact⟨_,JX q⟩
 ·rw[hh]at q;exact absurd q.2 (by decide)
theorem gH (V:SK n s v)(S:Hn n)(hN:2000000<=N)(sf:BP v s=some b)(sd:EU v s=some (!b))(h:s.op=9):Ix n R1 R2 N v s:=by
 have hl:v.length<=1048576:=by have:=V.KM;omega
 have ha:=V.Jf;have hR:=S.Pb;have hG:(Cg n).funcs.length<=4:=by rw[Fp];exact hR
 have uO:=Wu (n:=n) (R2:=R2) (N:=N) (v:=v) (b:=b) (s:=s) (by rw[h];decide) (by omega) (by omega) (by omega) (by omega);rcases Sn S s.num with ⟨r,r0,r1,r2,r3,r4,r5,r6⟩|hr
 ·refine Gc V hN sf sd (by omega) (by omega) (want:=r.params) (c:=true) (t:=r.result) (λ_=>r6) (λhp=>?_) (λl hA hp=>⟨r.result,?_,λ_ _=>rfl⟩) uO
  ·have ht:Bd N v s.args r.params=some (decide (CK v s.args=some r.params)):=Jc hl ha hN;have r1':s.num<=(n.AB.length:Int)-1:=by omega
   unfold B2 Eb;simp only[h,Int.reduceEq,nB,nH,mW,nL,my,mR];rw[Cb,Ae n.AB,wI (n:=(n.AB.length:Int)-1),r2];simp only[mR,r0,r1',nB,Bool.and_self,nb,mW,my];rw[ht];by_cases q:CK v s.args=some r.params<;>simp[q,Sh.cont]
  ·have uW:=FW hA;refine DW (GP hp) ?_;rw[pR];exact VI (D:=n.decls) (f:=⟨r.params,r.Ao,r.result⟩) (by omega) hG hN h r0 (by first|(rw[Fp];exact r1)|(rw[mf];exact r1)) r3
 ·refine Gc V hN sf sd (by omega) (by omega) (want:=[]) (c:=false) (t:=0) (λq=>nomatch q) (λhp=>?_) (λl hA hp=>⟨-1,?_,λq=>nomatch q⟩) uO
  ·unfold B2 Eb;simp only[h,Int.reduceEq,nB,nH,mW,nL,my,mR];rw[Cb,Ae n.AB,wI (n:=(n.AB.length:Int)-1)];have:(decide (0<=s.num)&&decide (s.num<=(n.AB.length:Int)-1))=false:=by
    rw[nY,mm,mm];omega
   rw[this];simp[Sh.cont]
  ·refine DW (GP hp) ?_;rw[Bool.false_and];exact I5 (D:=n.decls) hG (.inl h) (by first|(rw[Fp];exact hr)|(rw[mf];exact hr))
theorem Pr {l:List Int}{t:Int}{ok Ao:Bool}(h:s.op=10)(hk:s.kids=[])(hle:(if decide (0<=s.num)=true then if decide (s.num<Sh.len (Cg n).funcs)=true then (Sh.get (Cg n).funcs s.num).bind λxm=>some (decide (0<Sh.len xm.Ao)) else some false else some false)=some Ao)
  (hs:Af N (Cg n) s.op s.num l=some (t,ok)):CN N R2 (Cg n) v s l=if Ao=true then some (-1,false) else some (t,ok):=by
 unfold CN;rw[Y6 (by omega) (by omega),hs,hk];simp only[mR,mW,my,h,Int.reduceEq,nH,nB,nL];rw[show decide ((0:Int)<Sh.len ([]:List Block))=false from rfl];simp only[mW,my];rw[hle];cases Ao<;>rfl
theorem dy (V:SK n s v)(S:Hn n)(hN:2000000<=N)(sf:BP v s=some b)(sd:EU v s=some (!b))(h:s.op=10):Ix n R1 R2 N v s:=by
 have hl:v.length<=1048576:=by have:=V.KM;omega
 have ha:=V.Jf;have hR:=S.Pb;have hD:=S.Pj;have hG:(Cg n).funcs.length<=4:=by rw[Fp];exact hR
 have uO:=Wu (n:=n) (R2:=R2) (N:=N) (v:=v) (b:=b) (s:=s) (by rw[h];decide) (by omega) (by omega) (by omega) (by omega);rcases Sn S s.num with ⟨r,r0,r1,r2,r3,r4,r5,r6⟩|hr
 ·have r1':s.num<=(n.AB.length:Int)-1:=by omega
  have hle:(if decide (0<=s.num)=true then if decide (s.num<Sh.len (Cg n).funcs)=true then (Sh.get (Cg n).funcs s.num).bind λxm=>some (decide (0<Sh.len xm.Ao)) else some false else some false)=some (decide (¬ r.Ao=[])):=by
   rw[r3,Ae,Fp];simp only[r0,r1,nB,nL,mR];cases r.Ao with
   | nil=>rfl
   | cons a q=>simp[Ae]<;>omega
  have sG:∀(X:Option Int),B2 N R1 n v s=Sh.cont (((
     if decide (r.params=[])=true then some true
     else if decide (0<Sh.len r.Ao)=true then some true
     else (Sh.sl r.params 0 (Sh.w (Sh.len r.params-1))).bind λl36=>(Bd N v s.args l36).bind λq37=>some !q37).bind λt25=>
     if t25=true then some (-1) else (Sh.get r.params (Sh.w (Sh.len r.params-1))).bind λwM=>(Hw N n.decls wM r.result).bind λwz=>some wz).bind λq66=>some (Sum.inl q66)) id λ()=>some (-1):=λ_=>by
   unfold B2 Eb;simp only[h,Int.reduceEq,nB,nH,mW,nL,my,mR];rw[Cb,Ae n.AB,wI (n:=(n.AB.length:Int)-1),r2];simp only[mR,r0,r1',nB,Bool.and_self,nb,mW,my,len_nil]
  have sG:=sG none;have xJ:decide ((0:Int)<Sh.len r.Ao)=decide (¬ r.Ao=[]):=by
   cases r.Ao with
   | nil=>rfl
   | cons a q=>exact nx.2 (by rw[Ae,nE];simp<;>omega)
  rw[xJ]at sG;by_cases hp0:r.params=[]
  ·refine Gc V hN sf sd (by omega) (by omega) (want:=[]) (c:=false) (t:=0) (λq=>nomatch q) (λhp=>by rw[sG];simp[hp0,Sh.cont]) (λl hA hp=>⟨-1,?_,λq=>nomatch q⟩) uO;have uW:=FW hA;rcases PH (D:=n.decls) (G:=(Cg n).funcs) (ks:=l) (N:=N) (f:=⟨r.params,r.Ao,r.result⟩) (by omega) hD hG r4 hN h r0 (by first|(rw[Fp];exact r1)|(rw[mf];exact r1)) r3 with ⟨_,z⟩|⟨m,x,z,_⟩
   ·rw[Pr h (GP hp) hle z];cases decide (¬ r.Ao=[])<;>rfl
   ·exfalso;rw[hp0]at z;simp at z
  ·obtain⟨m,hm⟩ :∃m,r.params.length=m+1:=⟨r.params.length-1,by have:=pb.2 hp0;omega⟩
   obtain⟨x,hx,uM⟩:=Ax (l:=r.params) (i:=m) (by omega);have hw:Sh.w (Sh.len r.params-1)=(m:Int):=by rw[Ae,wI];omega
   have ht:Bd N v s.args (r.params.take m)=some (decide (CK v s.args=some (r.params.take m))):=Jc hl ha hN;have vg:H3 x r.result n.decls 0=-1∨Cw n.decls (H3 x r.result n.decls 0)=true:=by
    rcases Yu (a:=x) (b:=r.result) n.decls 0 with q|q
    ·exact .inl q
    ·right;unfold Cw;simp;omega
   rw[hw,ZO (by omega),An hx]at sG;simp only[mR]at sG;rw[Te (by omega) hN,ht]at sG;simp only[mR]at sG;refine Gc V hN sf sd (by omega) (by omega) (want:=r.params.take m) (c:=decide (r.Ao=[])&&decide (0<=H3 x r.result n.decls 0)) (t:=H3 x r.result n.decls 0) (λq=>?_) (λhp=>?_) (λl hA hp=>?_) uO
   ·simp only[mh,mv]at q;rcases vg with z|z
    ·omega
    ·exact z
   ·rw[sG];by_cases c1:r.Ao=[]
    ·by_cases c2:CK v s.args=some (r.params.take m)
     ·by_cases c3:0<=H3 x r.result n.decls 0
      ·simp[hp0,c1,c2,c3,Sh.cont]
      ·have:H3 x r.result n.decls 0=-1:=by
        rcases vg with z|z
        ·exact z
        ·exact absurd (Mn z).1 c3
       simp[hp0,c1,c2,this,Sh.cont]
     ·simp[hp0,c1,c2,Sh.cont]
    ·simp[hp0,c1,Sh.cont]
   ·have uW:=FW hA;rcases PH (D:=n.decls) (G:=(Cg n).funcs) (ks:=l) (N:=N) (f:=⟨r.params,r.Ao,r.result⟩) (by omega) hD hG r4 hN h r0 (by first|(rw[Fp];exact r1)|(rw[mf];exact r1)) r3 with ⟨z,_⟩|⟨m',x',z,z2,z3⟩
    ·exact absurd z hp0
    ·have:m'=m:=by rw[hm]at z;omega
     subst this;have z2':r.params[m']?=some x':=z2;rw[hx]at z2';cases z2';rw[Pr h (GP hp) hle z3];by_cases c1:r.Ao=[]
     ·exact⟨_,by simp[c1],λ_ _=>rfl⟩
     ·exact⟨-1,by simp[c1],λq=>by simp[c1]at q⟩
 ·refine Gc V hN sf sd (by omega) (by omega) (want:=[]) (c:=false) (t:=0) (λq=>nomatch q) (λhp=>?_) (λl hA hp=>⟨-1,?_,λq=>nomatch q⟩) uO
  ·unfold B2 Eb;simp only[h,Int.reduceEq,nB,nH,mW,nL,my,mR];rw[Cb,Ae n.AB,wI (n:=(n.AB.length:Int)-1)];have:(decide (0<=s.num)&&decide (s.num<=(n.AB.length:Int)-1))=false:=by
    rw[nY,mm,mm];omega
   rw[this];simp[Sh.cont]
  ·have hle:(if decide (0<=s.num)=true then if decide (s.num<Sh.len (Cg n).funcs)=true then (Sh.get (Cg n).funcs s.num).bind λxm=>some (decide (0<Sh.len xm.Ao)) else some false else some false)=some false:=by
    rw[Ae,Fp];by_cases c:0<=s.num
    ·have:¬ s.num<(n.AB.length:Int):=by omega
     simp[c,this]
    ·simp[c]
   rw[Pr h (GP hp) hle (I5 (D:=n.decls) hG (.inr h) (by first|(rw[Fp];exact hr)|(rw[mf];exact hr)))];simp
end
end RC
namespace RC
open Go
section
variable {n : AL} {R1 : AL -> List Int -> Block -> Option Int} {R2 : Aq -> List Int -> Block -> Option Int} {T : List Int -> Block -> Int} {s : Step} {v : List Int} {N : Nat} {b : Bool}
theorem Wq {a x:Int}(h:MA v a=some x):0<=a/\a<(v.length:Int)/\Sh.get v a=some x/\x∈v:=by
 unfold MA at h;split at h
 ·rename_i hr;exact⟨hr.1,hr.2,by rw[P7 hr.1,h],mS h⟩
 ·cases h
theorem Tj {a0 a1:Int}:CK v [a0,a1]=(MA v a0).bind λx=>(MA v a1).map λy=>[x,y]:=by
 simp only[CK];cases MA v a0<;>cases MA v a1<;>rfl
theorem TX {a0:Int}:CK v [a0]=(MA v a0).map λx=>[x]:=by
 simp only[CK];cases MA v a0<;>rfl
theorem eH (V:SK n s v)(S:Hn n)(hN:2000000<=N)(sf:BP v s=some b)(sd:EU v s=some (!b))(h:s.op=11):Ix n R1 R2 N v s:=by
 have hl:v.length<=1048576:=by have:=V.KM;omega
 have ha:=V.Jf;have hD:=S.Pj;have hh:Ni s.op=false:=by rw[h];decide
 by_cases h2:s.args.length=2
 ·obtain⟨a0,a1,sS⟩ :∃a0 a1,s.args=[a0,a1]:=by
   match hk:s.args,h2 with
   | [a,c],_=>exact⟨a,c,rfl⟩
  have sG:B2 N R1 n v s=some (match MA v a0 with
    | some x=>match J8 n.decls x with
     | some d=>if CK v [a1]=some [d.from_] then d.to else -1
     | none=>-1
    | none=>-1):=by
   unfold B2;simp only[h,Int.reduceEq,nB,nH,mW,nL,my,mR];rw[sS,show decide (Sh.len [a0,a1]=2)=true from rfl,show Sh.get [a0,a1] 0=some a0 from rfl,show Sh.sl [a0,a1] 1 (Sh.len [a0,a1])=some [a1] from rfl];simp only[nL,mR];rw[Cb,Ae v,wI (n:=(v.length:Int)-1),mR];cases hA:MA v a0 with
   | none=>
    have hr:¬ (0<=a0/\a0<(v.length:Int)):=λq=>by obtain⟨x,q1,_⟩:=Uh q.1 q.2;rw[hA]at q1;cases q1
    have:(decide (0<=a0)&&decide (a0<=(v.length:Int)-1))=false:=by
     rw[nY,mm,mm];omega
    rw[this];simp[Sh.cont]
   | some x=>
    obtain⟨q1,q2,q3,q4⟩:=Wq hA;have:(decide (0<=a0)&&decide (a0<=(v.length:Int)-1))=true:=by
     rw[mh,mv,mv];omega
    rw[this,q3];simp only[nL,mR];rw[Nq (by omega),mR];cases hB:J8 n.decls x with
    | none=>simp[Sh.cont]
    | some d=>
     obtain⟨m1,m2,m3,m4⟩:=XD hB;have g5:Sh.get n.decls (Sh.w (x-1))=some d:=by rw[wI,P7 (by omega),m4]
     have ht:Bd N v [a1] [d.from_]=some (decide (CK v [a1]=some [d.from_])):=Jc hl (by simp) hN;rw[g5];simp only[Option.isSome_some,nL,mR];rw[ht];by_cases q:CK v [a1]=some [d.from_]<;>simp[q,Sh.cont]
  cases hA0:MA v a0 with
  | none=>
   have hA:CK v s.args=none:=by rw[sS,Tj,hA0];rfl
   refine Gc V hN sf sd (by omega) (by omega) (want:=[]) (c:=false) (t:=0) (λq=>nomatch q) (λhp=>by rw[sG,hA0];simp) (λl q=>by rw[hA]at q;cases q) (λl q=>by rw[hA]at q;cases q)
  | some x=>
   cases hA1:MA v a1 with
   | none=>
    have hA:CK v s.args=none:=by rw[sS,Tj,hA0,hA1];rfl
    have hA2:CK v [a1]=none:=by rw[TX,hA1];rfl
    refine Gc V hN sf sd (by omega) (by omega) (want:=[]) (c:=false) (t:=0) (λq=>nomatch q) (λhp=>by rw[sG,hA0,hA2];simp;split<;>rfl) (λl q=>by rw[hA]at q;cases q) (λl q=>by rw[hA]at q;cases q)
   | some y=>
    have hA:CK v s.args=some [x,y]:=by rw[sS,Tj,hA0,hA1];rfl
    have hA2:CK v [a1]=some [y]:=by rw[TX,hA1];rfl
    have uO:∀l,CK v s.args=some l->GY b s=false->b=true->∃t',CN N R2 (Cg n) v s l=some (t',false):=λl uW hp hb=>by
     by_cases hk:s.kids=[]
     ·rcases NW hp hb with q|q
      ·exact absurd hk q
      ·rw[hA]at uW;cases uW;have e:=Ph (D:=n.decls) (G:=(Cg n).funcs) (ks:=[x,y]) (num:=s.num) (N:=N) hD h rfl;cases hB:J8 n.decls x with
       | none=>rw[hB]at e;exact⟨0,DW hk e⟩
       | some d=>
        rw[hB]at e;refine⟨d.to,DW hk (e.trans ?_)⟩;simp[q.1]
     ·exact⟨_,JX hk⟩
    cases hB:J8 n.decls x with
    | none=>
     refine Gc V hN sf sd (by omega) (by omega) (want:=[]) (c:=false) (t:=0) (λq=>nomatch q) (λhp=>by rw[sG,hA0];dsimp only;rw[hB];simp) (λl uW hp=>⟨0,?_,λq=>nomatch q⟩) uO;rw[hA]at uW;cases uW;refine DW (GP hp) ((Ph (D:=n.decls) (G:=(Cg n).funcs) (N:=N) hD h rfl).trans ?_);rw[hB];rfl
    | some d=>
     obtain⟨m1,m2,m3,m4⟩:=XD hB;have vg:=(S.lL d m1).2;refine Gc V hN sf sd (by omega) (by omega) (want:=[x,y]) (c:=decide (y=d.from_)) (t:=d.to) (λ_=>vg) (λhp=>?_) (λl uW hp=>⟨d.to,?_,λ_ _=>rfl⟩) uO
     ·rw[sG,hA0];dsimp only;rw[hB,hA2,hA];by_cases q:y=d.from_<;>simp[q]
     ·rw[hA]at uW;cases uW;have hn:=Vo hh hp;refine DW (GP hp) ((Ph (D:=n.decls) (G:=(Cg n).funcs) (N:=N) hD h rfl).trans ?_);rw[hB];simp[hn]
 ·have zA:¬ ((s.args.length:Int)=2):=by omega
  refine Gc V hN sf sd (by omega) (by omega) (want:=[]) (c:=false) (t:=0) (λq=>nomatch q) (λhp=>?_) (λl hA hp=>⟨-1,?_,λq=>nomatch q⟩) (λl hA hp hb=>?_)
  ·unfold B2;simp only[h,Int.reduceEq,nB,nH,mW,nL,my,mR,Ae,zA];simp[Sh.cont]
  ·have:=FW hA;exact DW (GP hp) ((ML (D:=n.decls) (G:=(Cg n).funcs) (N:=N) h (by omega)).trans (by simp))
  ·have:=FW hA;by_cases hk:s.kids=[]
   ·exact⟨-1,DW hk (ML (D:=n.decls) (G:=(Cg n).funcs) (N:=N) h (by omega))⟩
   ·exact⟨_,JX hk⟩
def Z4 (D:List AR)(s:Step):List Int->Bool
 | [x]=>decide (¬ x=0/\s.num=0/\s.kids=[]/\¬ ((s.op=16∨s.op=17)/\(J8 D x).isSome=true))
 | _=>false
theorem dP (V:SK n s v)(S:Hn n)(hN:2000000<=N)(sf:BP v s=some b)(sd:EU v s=some (!b))(h:s.op=14∨s.op=15∨s.op=16∨s.op=17):Ix n R1 R2 N v s:=by
 have hl:v.length<=1048576:=by have:=V.KM;omega
 have hD:=S.Pj;have e1:=L4 (n:=n) (R1:=R1) (N:=N) sf;have e2:=JT (n:=n) (R2:=R2) hl V.Jf hN sd;have hc:MO s.op=true:=by rcases h with h|h|h|h<;>rw[h]<;>decide
 have hp:GY b s=((decide (s.num=0)&&b)&&decide (s.kids=[])):=by
  unfold GY;rcases h with h|h|h|h<;>rw[h]<;>simp[Ni]
 have sG:B2 N R1 n v s=some (match CK v s.args with
   | some [x]=>if x=0∨((s.op=16∨s.op=17)/\(J8 n.decls x).isSome=true) then -1 else 0
   | _=>-1):=by
  have hct:B2 N R1 n v s=Sh.cont ((FX n v s).bind λq=>some (Sum.inl q)) id λ()=>some (-1):=by
   unfold B2;rcases h with h|h|h|h<;>simp only[h,Int.reduceEq,nB,nH,mW,nL,my,mR]
  rw[hct];unfold FX;have Vk:decide (Sh.len s.args=1)=decide (s.args.length=1):=nx.2 (by rw[Ae];omega);rw[Vk];by_cases h1:s.args.length=1
  ·obtain⟨a,sS⟩ :∃a,s.args=[a]:=by
    match hk:s.args,h1 with
    | [a],_=>exact⟨a,rfl⟩
   rw[sS,show Sh.get [a] 0=some a from rfl,TX];simp only[mR,nE,nj,nB,nb,mW,my];rw[Cb,Ae,wI,mR];cases hA:MA v a with
   | none=>
    have hr:¬ (0<=a/\a<(v.length:Int)):=λq=>by obtain⟨x,q1,_⟩:=Uh q.1 q.2;rw[hA]at q1;cases q1
    have:(decide (0<=a)&&decide (a<=(v.length:Int)-1))=false:=by
     rw[nY,mm,mm];omega
    rw[this];simp[Sh.cont]
   | some x=>
    obtain⟨q1,q2,q3,q4⟩:=Wq hA;have:(decide (0<=a)&&decide (a<=(v.length:Int)-1))=true:=by
     rw[mh,mv,mv];omega
    rw[this,q3];simp only[nb,mW,my,mR];rw[Nq (by omega)];by_cases z:x=0
    ·simp[z,Sh.cont]
    ·rcases h with h|h|h|h<;>cases hB:J8 n.decls x<;>simp[h,z,hB,Sh.cont]
  ·have :∀x,CK v s.args≠some [x]:=λx q=>h1 (by have:=FW q;simpa using this.symm);simp only[h1,nH,pV,nL,mR];cases hA:CK v s.args with
   | none=>rfl
   | some l=>
    match l,hA with
    | [],_=>rfl
    | [x],hA=>exact absurd hA (this x)
    | x::y::r,_=>rfl
 rw[hp,sG]at e1;cases hA:CK v s.args with
 | none=>
  rw[hA]at e1 e2;refine GD (q:=-1) ?_ e2 rfl (by omega);rw[e1];simp
 | some l=>
  rw[hA]at e1 e2;simp only[oG]at e2;cases b with
  | false=>
   refine GD (q:=-1) ?_ e2 rfl (by omega);rw[e1];simp
  | true=>
   simp only[nL]at e2;have xI:decide (Sh.len l=1)=decide (l.length=1):=nx.2 (by rw[Ae];omega);have hci:Ch s.op=some true:=by rw[Ja,hc]
   have hic:CN N R2 (Cg n) v s l=some (-1,Z4 n.decls s l):=by
    unfold CN;rw[hci,xI];simp only[mR,nL,len_nil]
    match l with
    | []=>simp[Z4]
    | [x]=>
     rw[show Sh.get [x] 0=some x from rfl];simp only[mR,Z4];rw[show (Cg n).decls=n.decls from rfl,NP (by omega)];by_cases z:x=0
     ·simp[z]
     ·by_cases z2:s.num=0
      ·by_cases z3:s.kids=[]
       ·rcases h with h|h|h|h<;>cases hB:J8 n.decls x<;>simp[h,z,z2,z3,hB]
       ·simp[z,z2,z3]
      ·simp[z,z2]
    | x::y::r=>simp[Z4]
   rw[hic]at e2
   match l with
   | []=>exact GD (q:=-1) (by rw[e1];simp) e2 rfl (by omega)
   | x::y::r=>exact GD (q:=-1) (by rw[e1];simp) e2 rfl (by omega)
   | [x]=>
    simp only[Z4]at e2;simp only at e1;by_cases g:¬ x=0/\s.num=0/\s.kids=[]/\¬ ((s.op=16∨s.op=17)/\(J8 n.decls x).isSome=true)
    ·refine⟨0,-1,true,?_,?_,?_⟩
     ·rw[e1];have:¬ (x=0∨((s.op=16∨s.op=17)/\(J8 n.decls x).isSome=true)):=λq=>by
       rcases q with q|q
       ·exact g.1 q
       ·exact g.2.2.2 q
      rw[mj this];simp[g.2.1,g.2.2.1]
     ·rw[e2,qN g]
     ·rw[me rfl,me hc];exact⟨by omega,mV⟩
    ·refine GD (q:=-1) ?_ e2 (decide_eq_false g) (by omega);rw[e1];by_cases z2:s.num=0
     ·by_cases z3:s.kids=[]
      ·have:x=0∨((s.op=16∨s.op=17)/\(J8 n.decls x).isSome=true):=by
        by_cases q:x=0
        ·exact .inl q
        ·refine .inr (Classical.byContradiction λq2=>g ⟨q,z2,z3,q2⟩)
       rw[me this];simp
      ·simp[z3]
     ·simp[z2]
theorem eE (V:SK n s v)(hN:2000000<=N)(sf:BP v s=some b)(sd:EU v s=some (!b))(h:s.op<0∨s.op=12∨s.op=13∨17<s.op):Ix n R1 R2 N v s:=by
 have hl:v.length<=1048576:=by have:=V.KM;omega
 have e1:=L4 (n:=n) (R1:=R1) (N:=N) sf;have e2:=JT (n:=n) (R2:=R2) hl V.Jf hN sd;have hc:MO s.op=false:=by unfold MO;rw[nY,mm,mm];omega
 have sG:B2 N R1 n v s=some (-1):=by
  unfold B2;simp only[show ¬ s.op=0 by omega,show ¬ s.op=1 by omega,show ¬ s.op=2 by omega,show ¬ s.op=3 by omega,show ¬ s.op=4 by omega,show ¬ s.op=5 by omega,show ¬ s.op=6 by omega,show ¬ s.op=7 by omega,show ¬ s.op=8 by omega,show ¬ s.op=9 by omega,show ¬ s.op=10 by omega,show ¬ s.op=11 by omega,show ¬ s.op=14 by omega,show ¬ s.op=15 by omega,show ¬ s.op=16 by omega,show ¬ s.op=17 by omega,nH,mW,my,mR];simp[Sh.cont]
 have h1:Em N R1 n v s=some (-1):=by rw[e1,sG];split<;>rfl
 cases hA:CK v s.args with
 | none=>rw[hA]at e2;exact GD h1 e2 rfl (by omega)
 | some l=>
  rw[hA]at e2;simp only[oG]at e2;cases b with
  | false=>exact GD h1 e2 rfl (by omega)
  | true=>
   simp only[nL]at e2;have hic:CN N R2 (Cg n) v s l=some (-1,false):=by
    unfold CN;rw[Ja,hc];simp only[mR,mW,my,show ¬ s.op=7 by omega,show ¬ s.op=8 by omega,show ¬ s.op=10 by omega,nH];rw[show (Cg n)=⟨n.decls,(Cg n).funcs⟩ from rfl,Zj (by omega)];by_cases hk:decide (0<Sh.len s.kids)=true<;>simp[hk]
   rw[hic]at e2;exact GD h1 e2 rfl (by omega)
theorem VH (H:RY n R1 R2 T (Ot s))(V:SK n s v)(S:Hn n)(hN:2000000<=N):Ix n R1 R2 N v s:=by
 obtain⟨b,sf,sd⟩:=Rf (n:=n) (s:=s) V.aP (by have:=V.KM;omega);by_cases h0:s.op=0
 ·exact hP V hN sf sd h0
 by_cases h1:s.op=1∨s.op=2∨s.op=3∨s.op=4
 ·exact dw V hN sf sd h1
 by_cases h5:s.op=5
 ·exact dJ V hN sf sd h5
 by_cases h6:s.op=6
 ·exact iR V S hN sf sd h6
 by_cases h7:s.op=7
 ·exact kO H V S hN sf sd h7
 by_cases h8:s.op=8
 ·exact cm H V S hN sf sd h8
 by_cases h9:s.op=9
 ·exact gH V S hN sf sd h9
 by_cases h10:s.op=10
 ·exact dy V S hN sf sd h10
 by_cases h11:s.op=11
 ·exact eH V S hN sf sd h11
 by_cases hc:s.op=14∨s.op=15∨s.op=16∨s.op=17
 ·exact dP V S hN sf sd hc
 exact eE V hN sf sd (by omega)
end
end RC
namespace RC
open Go
section
variable {n : AL} {R1 : AL -> List Int -> Block -> Option Int} {R2 : Aq -> List Int -> Block -> Option Int} {T : List Int -> Block -> Int} {b : Block} {v : List Int} {N : Nat}
theorem Nm (o:Int):Gv o=some (decide (0<=o)&&decide (o<=11)):=by unfold Gv;rw[Cb];rfl
theorem U3 {l:List Step}{s:Step}(h:s∈l):Ot s<=IP l:=by
 induction l with
 | nil=>cases h
 | cons c k ih=>
  simp only[IP];rcases mr.1 h with rfl|h
  ·omega
  ·have:=ih h;omega
structure BK (n:AL) (b:Block) (v:List Int):Prop where
 WQ:JA b
 size:Bs b
 len:v.length+4*GL b<=4000
 aP :∀x∈v,Cw n.decls x=true
theorem Si (H:RY n R1 R2 T (GL b))(B:BK n b v)(S:Hn n)(hN:2000000<=N):∃o:Option (List Int),
  BE N n b R1 N 0 v=some (o.elim (.inl (-1)) .inr)/\A6 N (Cg n) b R2 N 0 v=some (o.elim (.inl (-1)) .inr)/\∀l,o=some l->l.length<=8000/\∀x∈l,Cw n.decls x=true:=by
 have hb:=B.size;have hsl:=hb.len;have key:∀{M i:Nat},i<=b.steps.length->b.steps.length-i<M->∀w:List Int,w.length+4*IP (b.steps.drop i)<=4000->(∀x∈w,Cw n.decls x=true)->∃o:Option (List Int),
   BE N n b R1 M i w=some (o.elim (.inl (-1)) .inr)/\A6 N (Cg n) b R2 M i w=some (o.elim (.inl (-1)) .inr)/\∀l,o=some l->l.length<=8000/\∀x∈l,Cw n.decls x=true:=by
  intro M i hi hM;refine A4 b.steps.length (λM i=>∀w:List Int,w.length+4*IP (b.steps.drop i)<=4000->(∀x∈w,Cw n.decls x=true)->∃o:Option (List Int),
   BE N n b R1 M i w=some (o.elim (.inl (-1)) .inr)/\A6 N (Cg n) b R2 M i w=some (o.elim (.inl (-1)) .inr)/\∀l,o=some l->l.length<=8000/\∀x∈l,Cw n.decls x=true) ?_ ?_ hi hM
  ·intro q w hw ht;refine⟨some w,?_,?_,λl hl=>?_⟩
   ·rw[BE,CG];rfl
   ·rw[A6,CG];rfl
   ·cases hl;exact⟨by omega,ht⟩
  ·intro q i hi ih w hw ht;obtain⟨s,hs,tn⟩:=Ax hi;rw[P9 hs]at hw;have hn1:=U3 tn;have hn2:=OM b;have hz:=Hr tn;have hbz:IB b<=1048576:=hb;have V:SK n s w:=⟨B.WQ.steps.1 s tn,by omega,by omega,ht⟩
   obtain⟨y,t,ok,e1,e2,e3⟩:=VH (T:=T) (N:=N) (λv b a1 a2 a3 a4 a5=>H v b a1 a2 (by omega) a4 a5) V S hN;have f1:BE N n b R1 (q+1) i w=Sh.cont (if decide (y<0)=true then some (Sum.inl (Sum.inl (-1))) else (Gv s.op).bind λwP=>if wP=true then (Sh.app w [y] 8).bind λzb=>some (Sum.inr zb) else some (Sum.inr w)) id λvz=>BE N n b R1 q ((i+1:Nat):Int) vz:=by
    rw[BE,Cf,An hs,mR,e1,wI,show ((i:Int)+1)=((i+1:Nat):Int) by omega];rfl
   have f2:A6 N (Cg n) b R2 (q+1) i w=Sh.cont (if (!ok)=true then some (Sum.inl (Sum.inl (-1))) else (Ch s.op).bind λq36=>if (!q36)=true then (Sh.app w [t] 8).bind λl39=>some (Sum.inr l39) else some (Sum.inr w)) id λvz=>A6 N (Cg n) b R2 q ((i+1:Nat):Int) vz:=by
    rw[A6,Cf,An hs,mR,e2,wI,show ((i:Int)+1)=((i+1:Nat):Int) by omega];rfl
   rw[f1,f2,Nm,Ja];cases ok with
   | false=>
    simp only[mW,my]at e3;exact⟨none,by simp[e3,Sh.cont],by simp[Sh.cont],λl hl=>nomatch hl⟩
   | true=>
    simp only[nL]at e3;obtain⟨e3,e4⟩:=e3;have e3':¬ y<0:=by omega
    have hns:=Mm s;cases hc:MO s.op with
    | true=>
     have hop:(decide (0<=s.op)&&decide (s.op<=11))=false:=by
      unfold MO at hc;simp only[mh,mv]at hc;rw[nY,mm,mm];omega
     obtain⟨o,g1,g2,g3⟩:=ih w (by omega) ht;refine⟨o,?_,?_,g3⟩
     ·rw[hop,<- g1];simp[e3',Sh.cont]
     ·rw[<- g2];simp[Sh.cont]
    | false=>
     rw[hc]at e4;simp only[mW,my]at e4;obtain⟨rfl,e5,e6,e7⟩:=e4;have hop:(decide (0<=s.op)&&decide (s.op<=11))=true:=by
      rw[mh,mv,mv];exact⟨e6,e7⟩
     obtain⟨o,g1,g2,g3⟩:=ih (w++[t]) (by rw[nW];simp only[nE,nj];omega) (λx hx=>by
      rcases nM.1 hx with h|h
      ·exact ht x h
      ·simp only[nQ]at h;rw[h];exact e5)
     refine⟨o,?_,?_,g3⟩
     ·rw[hop,<- g1,DD w [t] 8 (by simp;omega) (by simp;omega)];simp[e3',Sh.cont]
     ·rw[<- g2,DD w [t] 8 (by simp;omega) (by simp;omega)];simp[Sh.cont]
 have:=key (mi _) (by omega:b.steps.length-0<N) v (by rw[nP,<- OM];exact B.len) B.aP;simpa using this
theorem ZJ (H:RY n R1 R2 T (GL b))(B:BK n b v)(S:Hn n)(hN:2000000<=N):∃t,Dx N R1 n v b=some t/\Cm N R2 (Cg n) v b=some t/\(t=-1∨Cw n.decls t=true):=by
 have vr:v.length<=4000:=by have:=B.len;omega
 obtain⟨o,h1,h2,h3⟩:=Si H B S hN;unfold Dx Cm Dc Bf;rw[DD [] v 8 (by simp;omega) (by simp;omega)];simp only[mR,ny];rw[h1,h2];cases o with
 | none=>exact⟨-1,rfl,rfl,.inl rfl⟩
 | some l=>
  obtain⟨l1,l2⟩:=h3 l rfl;simp only[oG,Sh.Il];rw[Cb,Ae,wI];by_cases hr:0<=b.result/\b.result<(l.length:Int)
  ·obtain⟨x,x1,x2⟩:=Nh hr.1 hr.2;have r1:b.result<=(l.length:Int)-1:=by omega
   have r2:¬ b.result<0:=by omega
   have r3:¬ (l.length:Int)<=b.result:=by omega
   exact⟨x,by simp[hr.1,r1,x1],by simp[r2,r3,x1],.inr (l2 x (mS x2))⟩
  ·refine⟨-1,?_,?_,.inl rfl⟩
   ·have:(decide (0<=b.result)&&decide (b.result<=(l.length:Int)-1))=false:=by
     rw[nY,mm,mm];omega
    rw[this];simp
   ·by_cases r2:b.result<0
    ·simp[r2]
    ·have r3:(l.length:Int)<=b.result:=by omega
     simp[r2,r3]
end
theorem Rx {n:AL}(S:Hn n){N:Nat}(hN:2000000<=N):∀(m:Nat),∃T:List Int->Block->Int,∀(v:List Int) (b:Block),GL b<m->BK n b v->
  ∀n1 n2,m<=n1->m<=n2->Cv N n1 n v b=some (T v b)/\B4 N n2 (Cg n) v b=some (T v b)/\(T v b=-1∨Cw n.decls (T v b)=true):=by
 intro m
 induction m with
 | zero=>exact⟨λ_ _=>0,λv b h=>by omega⟩
 | succ m ih=>
  obtain⟨T,hT⟩:=ih;refine⟨λv b=>(Cv N (m+1) n v b).getD 0,λv b hn B n1 n2 h1 h2=>?_⟩;have step:∀n1 n2,m<=n1->m<=n2->∃t,Dx N (Cv N n1) n v b=some t/\Cm N (B4 N n2) (Cg n) v b=some t/\(t=-1∨Cw n.decls t=true):=λn1 n2 h1 h2=>
   ZJ (T:=T) (λv c a1 a2 a3 a4 a5=>hT v c (by omega) ⟨a1,a2,a4,a5⟩ n1 n2 h1 h2) B S hN
  obtain⟨m1,rfl⟩ :∃q,n1=q+1:=⟨n1-1,by omega⟩
  obtain⟨m2,rfl⟩ :∃q,n2=q+1:=⟨n2-1,by omega⟩
  obtain⟨t,q1,q2,q3⟩:=step m m (ml _) (ml _);obtain⟨t',r1,r2,_⟩:=step m m2 (ml _) (by omega);obtain⟨t'',s1,s2,_⟩:=step m1 m (by omega) (ml _);have e1:t'=t:=by rw[q1]at r1;cases r1;rfl
  have e2:t''=t:=by rw[q2]at s2;cases s2;rfl
  subst e1;subst e2;have e3:(Cv N (m+1) n v b).getD 0=t'':=by rw[Cv,q1];rfl
  dsimp only;rw[e3];exact⟨by rw[Cv];exact s1,by rw[B4];exact r2,q3⟩
end RC
namespace RC
open Go
structure Kw (r:AP):Prop where
 params:Ep Ji r.params
 Ao:Ep Ji r.Ao
 result:Ji r.result
 body:JA r.body
structure OD (n:AL):Prop where
 decls:Ep PE n.decls
 AB:Ep Kw n.AB
def Kk (r:AP):Nat:=r.params.length+r.Ao.length+IB r.body
def OU (n:AL):Nat:=(n.decls.length+(n.decls.map dz).sum)+(n.AB.length+(n.AB.map Kk).sum)
theorem Zg {b:Block}(hb:JA b){left:Int}(h0:0<=left)(h1:left<=1048576){N:Nat}(hN:2000000<=N):Km N b left=some (U5 left (IB b)):=by
 unfold Km;rw[Wa hN N b left hb h0 h1 (by omega)];rfl
theorem WG {r:AP}(hr:Kw r){left:Int}(h0:0<=left)(h1:left<=1048576){N:Nat}(hN:2000000<=N):He N r left=some (U5 left (Kk r)):=by
 unfold He Kk;rw[OG h0 h1 hr.params.2,mR];by_cases h:left-(r.params.length:Int)<0
 ·rw[me h,FA (by omega)];rfl
 ·rw[mj h,mj (by simpa using h),OG (by omega) (by omega) hr.Ao.2,mR];by_cases h2:left-(r.params.length:Int)-(r.Ao.length:Int)<0
  ·rw[me h2,FA (by omega)];rfl
  ·rw[mj h2,mj (by simpa using h2),Zg hr.body (by omega) (by omega) hN,mR];by_cases h3:left-(r.params.length:Int)-(r.Ao.length:Int)-(IB r.body:Int)<0
   ·rw[FA h3,FA (by omega)];rfl
   ·rw[Gk h3,Gk (by omega),mj (by simpa using h3)];congr 1;omega
theorem Vj {l:List AP}(hl:Ep Kw l){left:Int}(h0:0<=left)(h1:left<=1048576){N:Nat}(hN:2000000<=N):HG N l left=some (U5 left (l.length+(l.map Kk).sum)):=by
 have hlen:=hl.2;unfold HG;rw[Ae,wI];by_cases h2:left-(l.length:Int)<0
 ·rw[me (by simpa using h2),FA (by omega)]
 ·rw[mj (by simpa using h2),VD (l:=l) Kk (Dp N l) (λn l=>by rw[Dp,CG]) (λn i x l' hx l0 l1=>?_) (by omega) (by omega) (by omega)]
  ·by_cases h3:left-(l.length:Int)-((l.map Kk).sum:Nat)<0
   ·rw[me h3,FA (by omega)];rfl
   ·rw[mj h3,Gk (by omega)];simp only[Sh.Il];congr 1;omega
  ·have hi:=(mT.1 hx).1;rw[Dp,Cf,An hx,mR,WG (hl.1 x (mS hx)) l0 l1 hN,mR];by_cases h3:l'-(Kk x:Int)<0
   ·rw[FA h3,me h3];rfl
   ·rw[Gk h3,mj h3,mj (by simpa using h3),wI,show ((i:Int)+1)=((i+1:Nat):Int) by omega]
theorem YO {n:AL}(H:OD n){left:Int}(h0:0<=left)(h1:left<=1048576){N:Nat}(hN:2000000<=N):IM N n left=some (U5 left (OU n)):=by
 unfold IM OU;rw[Y9 H.decls h0 h1 hN,mR];by_cases h:left-((n.decls.length+(n.decls.map dz).sum:Nat):Int)<0
 ·rw[FA h,FA (by omega)];rfl
 ·rw[Gk h,mj (by simpa using h),Vj H.AB (by omega) (by omega) hN,mR];by_cases h3:left-((n.decls.length+(n.decls.map dz).sum:Nat):Int)-((n.AB.length+(n.AB.map Kk).sum:Nat):Int)<0
  ·rw[FA h3,FA (by omega)];rfl
  ·rw[Gk h3,Gk (by omega),mj (by simpa using h3)];congr 1;omega
theorem WR {r:AP}(h:Kk r<=1048576){N:Nat}(hN:2000000<=N):Hi N r=some r:=by
 unfold Kk at h;unfold Hi;rw[OJ (by omega) hN,OJ (by omega) hN,Z2 (by unfold Bs;omega) hN];rfl
theorem Vb {l:List AP}(hl:l.length+(l.map Kk).sum<=1048576){N:Nat}(hN:2000000<=N):HA N l=some l:=by
 unfold HA;rw[Ae,MT _ _ _ (by omega) (by omega)];simp only[mR];rw[Vt (l:=l) (Dn N l) (λn m=>by rw[Dn,CG]) (λn i x m hx hm=>?_) (by omega) (by simp)]
 ·rfl
 ·have hi:=(mT.1 hx).1;have hz:=Ga Kk (mS hx);obtain⟨y,hy,_⟩:=Ax (l:=m) (i:=i) (by omega);rw[Dn,Cf,An hx];simp only[mR];rw[WR (by omega) hN,An hy];simp only[mR];rw[Ky,wI,show ((i:Int)+1)=((i+1:Nat):Int) by omega]
theorem YV {n:AL}(h:OU n<=1048576){N:Nat}(hN:2000000<=N):Fu N n=some n:=by
 unfold OU at h;unfold Fu;rw[Yp (by omega) hN,Vb (by omega) hN];rfl
theorem WS {r:AP}(h:Kk r<=1048576){N:Nat}(hN:2000000<=N):Hu N r r=some true:=by
 unfold Kk at h;unfold Hu;rw[OI (by omega) hN,OI (by omega) hN,ZF (by unfold Bs;omega) hN];simp
theorem Vn {l:List AP}(hl:l.length+(l.map Kk).sum<=1048576){N:Nat}(hN:2000000<=N):G6 N l l=some true:=by
 unfold G6;have L:=Cj (l:=l) (Di N l l) (λ_ _=>true) (λn=>by rw[Di,CG]) (λn i x hx=>?_) (by omega:l.length<N)
 ·rw[Dr (p:=λ_=>true)]at L;simp[L,Sh.cont]
 ·have hi:=(mT.1 hx).1;have hz:=Ga Kk (mS hx);rw[Di,Cf,An hx];simp only[mR];rw[WS (by omega) hN,wI,show ((i:Int)+1)=((i+1:Nat):Int) by omega];rfl
theorem R5 {n:AL}(h:OU n<=1048576){N:Nat}(hN:2000000<=N):Fs N n n=some true:=by
 unfold OU at h;unfold Fs;rw[ZR (by omega) hN,Vn (by omega) hN];rfl
structure Ir (n:AL):Prop where
 WQ:OD n
 size:OU n<=1048576
theorem Ir.decls {n:AL}(S:Ir n):P3 n.decls:=by
 have h:=S.size;unfold OU at h;have hd:∀d∈n.decls,dz d<=1048576:=λd hd=>by have:=Ga dz hd;omega
 refine⟨by omega,λd hm=>?_,λd hm c hc=>?_⟩
 ·have:=hd d hm;unfold dz at this;omega
 ·have:=hd d hm;unfold dz at this;have:=Ga cz hc;show cz c<=_;omega
theorem Ir.Pb {n:AL}(S:Ir n):n.AB.length<=1048576:=by have h:=S.size;unfold OU at h;omega
theorem Ir.rz {n:AL}(S:Ir n){r:AP}(hr:r∈n.AB):r.params.length<=1048576/\r.Ao.length<=1048576/\Bs r.body:=by
 have h:=S.size;unfold OU at h;have h2:=Ga Kk hr;have h3:Kk r=r.params.length+r.Ao.length+IB r.body:=rfl;unfold Bs;omega
theorem X7 {n:AL}(hl:n.AB.length<=1048576){N:Nat}(hN:2000000<=N):KC N n=some ⟨n.decls,n.AB.map Qp⟩:=by
 have key:∀{N i:Nat},i<=n.AB.length->n.AB.length-i<N->Er n N i ((n.AB.take i).map Qp)=some (n.AB.map Qp):=by
  intro N i hi hN;refine A4 n.AB.length (λN i=>Er n N i ((n.AB.take i).map Qp)=some (n.AB.map Qp)) ?_ ?_ hi hN
  ·intro q;rw[Er,CG,nT]
  ·intro q i hi ih;obtain⟨r,hr,_⟩:=Ax hi;rw[Er,Cf,An hr,mR,DD _ _ _ (by simp;omega) (by simp;omega),wI,show ((i:Int)+1)=((i+1:Nat):Int) by omega,mR];rw[<- ih,CO hr,oF];rfl
 have:=key (mi _) (by omega:n.AB.length-0<N);rw[rD,oO,od]at this;unfold KC;rw[this];rfl
theorem ZE {n:AL}(hl:n.AB.length<=1048576){N:Nat}(hN:2000000<=N):Cc n N 0 []=some (Cg n).funcs:=by
 have key:∀{N i:Nat},i<=n.AB.length->n.AB.length-i<N->Cc n N i ((n.AB.take i).map λr=>(⟨r.params,r.Ao,r.result⟩:BM))=some (Cg n).funcs:=by
  intro N i hi hN;refine A4 n.AB.length (λN i=>Cc n N i ((n.AB.take i).map λr=>(⟨r.params,r.Ao,r.result⟩:BM))=some (Cg n).funcs) ?_ ?_ hi hN
  ·intro q;rw[Cc,CG,nT];rfl
  ·intro q i hi ih;obtain⟨r,hr,_⟩:=Ax hi;rw[Cc,Cf,An hr,mR,DD _ _ _ (by simp;omega) (by simp;omega),wI,show ((i:Int)+1)=((i+1:Nat):Int) by omega,mR];rw[<- ih,CO hr,oF];rfl
 have:=key (mi _) (by omega:n.AB.length-0<N);simpa using this
def U6 (r:AP):Bool:=Db (Gi r.params r.Ao) 0 r.Ao
def X9 (n:AL):Bool:=decide (n.AB.length<=4)&&(Oz n.decls (n.AB.map λr=>(r.params,r.result))&&n.AB.all U6)
theorem Tx {n:AL}(S:Ir n){N:Nat}(hN:2000000<=N):FR N n=some (X9 n):=by
 have hl:=S.Pb;unfold FR X9;have L:=Cj (l:=n.AB) (CD N n) (λ_ r=>U6 r) (λq=>by rw[CD,CG]) (λq i r hi=>by
  have tj:=(mT.1 hi).1;obtain⟨z1,z2,z3⟩:=S.rz (mS hi);rw[CD,Cf,An hi,mR,Rk z1 z2 hN,wI,show ((i:Int)+1)=((i+1:Nat):Int) by omega,mR];unfold U6;cases Db (Gi r.params r.Ao) 0 r.Ao<;>rfl) (by omega:n.AB.length<N)
 rw[Dr]at L;have e1:(n.AB.map Qp).map (λf=>(f.params,f.result))=n.AB.map λr=>(r.params,r.result):=by rw[oC];rfl
 rw[X7 hl hN,L,DP,mR,RD (p:=⟨n.decls,n.AB.map Qp⟩) S.decls (by simpa using hl) (λf hf=>by obtain⟨r,hr,rfl⟩:=mu.1 hf;exact (S.rz hr).1) hN,e1];have e4:decide ((4:Int)<Sh.len n.AB)=!decide (n.AB.length<=4):=by rw[<- decide_not];exact nx.2 (by rw[Ae];omega)
 rw[e4,mR];cases decide (n.AB.length<=4)<;>cases Oz n.decls (n.AB.map λr=>(r.params,r.result))<;>cases n.AB.all U6<;>rfl
theorem Tm {n:AL}(S:Ir n){N:Nat}(hN:2000000<=N):∃q,GK N n=some (q,X9 n)/\(X9 n=true->q=Cg n):=by
 have hl:=S.Pb;unfold GK X9;have e4:decide ((4:Int)<Sh.len n.AB)=!decide (n.AB.length<=4):=by rw[<- decide_not];exact nx.2 (by rw[Ae];omega)
 rw[e4,ZE hl hN,mR,Q7 S.decls (by rw[Fp];exact hl) (λf hf=>by obtain⟨r,hr,rfl⟩:=mu.1 (show f∈n.AB.map _ from hf);exact⟨(S.rz hr).1,(S.rz hr).2.1⟩) hN];have e1:((Cg n).funcs.map λf=>(f.params,f.result))=n.AB.map λr=>(r.params,r.result):=by
  show (n.AB.map _).map _=_;rw[oC];rfl
 have e2:((Cg n).funcs.all λf=>Db (Gi f.params f.Ao) 0 f.Ao)=n.AB.all U6:=by
  show (n.AB.map _).all _=_;rw[qZ];rfl
 rw[e1,e2];cases h4:decide (n.AB.length<=4) with
 | false=>exact⟨⟨[],[]⟩,rfl,λh=>by simp at h⟩
 | true=>exact⟨Cg n,rfl,λ_=>rfl⟩
def LU (T:List Int->Block->Int)(r:AP):Bool:=decide (GL r.body<=600)&&decide (T r.params r.body=r.result)
theorem Rm {n:AL}(S:Ir n){N:Nat}(hN:2000000<=N):∃b,Ea N n=some b/\Gs N n=some b:=by
 have hl:=S.Pb;obtain⟨q,h1,h2⟩:=Tm S hN;unfold Ea Gs;rw[Tx S hN,h1];simp only[mR];cases hs:X9 n with
 | false=>exact⟨false,rfl,rfl⟩
 | true=>
  have hq:=h2 hs;subst hq;have SO:Hn n:=by
   unfold X9 at hs;simp only[mh]at hs;have:=NI.of (p:=⟨n.decls,n.AB.map Qp⟩) (by
    rw[show List.map (λf:HZ=>(f.params,f.result)) (n.AB.map Qp)=n.AB.map λr=>(r.params,r.result) by rw[oC];rfl];exact hs.2.1)
   exact this
  obtain⟨T,hT⟩:=Rx SO hN 601;have vg:∀r∈n.AB,GL r.body<=600->Bp N n r.params r.body=some (T r.params r.body)/\Bu N (Cg n) r.params r.body=some (T r.params r.body):=λr hr he=>by
   obtain⟨q1,q2,q3⟩:=SO.bj (Qp r) (pc hr);have q1':r.params.length<=3:=q1;obtain⟨z1,z2,z3⟩:=hT r.params r.body (by omega) ⟨(S.WQ.AB.1 r hr).body,(S.rz hr).2.2,by omega,q2⟩ N N (by omega) (by omega);exact⟨z1,z2⟩
  have L1:=Cj (l:=n.AB) (Bx N n) (λ_ r=>LU T r) (λq=>by rw[Bx,CG]) (λq i r hi=>by
   have tj:=(mT.1 hi).1;have hr:=mS hi;rw[Bx,Cf,An hi];simp only[mR];rw[Nw (S.rz hr).2.2 hN,wI,show ((i:Int)+1)=((i+1:Nat):Int) by omega];simp only[mR];unfold LU;by_cases he:GL r.body<=600
   ·rw[me he,mj (by simp),(vg r hr he).1];by_cases hq:T r.params r.body=r.result<;>simp[he,hq]
   ·rw[mj he];simp[he]) (by omega:n.AB.length<N)
  have L2:=Cj (l:=n.AB) (DL N n (Cg n,true)) (λ_ r=>LU T r) (λq=>by rw[DL,CG]) (λq i r hi=>by
   have tj:=(mT.1 hi).1;have hr:=mS hi;rw[DL,Cf,An hi];simp only[mR];rw[TY (S.rz hr).2.2 hN,wI,show ((i:Int)+1)=((i+1:Nat):Int) by omega];simp only[mR];unfold LU;by_cases he:GL r.body<=600
   ·rw[me he,mj (by simp),(vg r hr he).2];by_cases hq:T r.params r.body=r.result<;>simp[he,hq]
   ·rw[mj he];simp[he]) (by omega:n.AB.length<N)
  rw[Dr]at L1 L2;refine⟨n.AB.all (LU T),?_,?_⟩
  ·simp only[nb,mW,my];rw[L1,DP];cases n.AB.all (LU T)<;>rfl
  ·simp only[nb,mW,my];rw[L2,DP];cases n.AB.all (LU T)<;>rfl
end RC
namespace RC
open Go
def bN (s:Step):Bool:=!MO s.op&&decide (s.A5=0)
mutual
def cu:Step->Bool|.mk o _ i _ k=>(!MO o&&decide (i=0))&&Uw k
def Uw:List (ET Step)->Bool|[]=>true|b::k=>Ku b&&Uw k
def Ku:ET Step->Bool|⟨ss,_⟩=>YF ss
def YF:List Step->Bool|[]=>true|s::l=>cu s&&YF l
end
theorem Sl (s:Step):cu s=(bN s&&Uw s.kids):=by cases s;simp only[cu];rfl
theorem SP (b:Block):Ku b=YF b.steps:=by cases b;simp[Ku]
theorem Sk:∀k:List Block,Uw k=k.all Ku
 | []=>rfl
 | b::k=>by rw[pM,<- Sk k];simp only[Uw]
theorem O2:∀l:List Step,YF l=l.all cu
 | []=>rfl
 | s::l=>by rw[pM,<- O2 l];simp only[YF]
theorem ck {b:Block}{rec:Block->Option Bool}{i:Nat}{s:Step}(hs:b.steps[i]?=some s)(hk:s.kids.length<=1048576)(rv :∀c∈s.kids,rec c=some (Ku c)){N:Nat}(hN:2000000<=N):
  CW i b rec N 0=some (if Uw s.kids=true then .inr () else .inl false):=by
 have L:=Cj (l:=s.kids) (CW i b rec) (λ_ c=>Ku c) (λq=>by
  rw[CW,An hs,mR];rw[CG]) (λq k c hc=>by
  have vK:=(mT.1 hc).1;rw[CW,An hs,mR,Cf,An hc,mR,rv c (mS hc),wI,show ((k:Int)+1)=((k+1:Nat):Int) by omega,mR];cases Ku c<;>rfl) (by omega:s.kids.length<N)
 rw[L,Dr,Sk]
theorem Wb {N:Nat}(hN:2000000<=N):∀(m:Nat) (b:Block),Bs b->IB b<m->E0 N m b=some (Ku b):=by
 intro m
 induction m with
 | zero=>intro b _ h;omega
 | succ m ih=>
  intro b hb hm;have hl:=hb.len;rw[E0];unfold HV;have L:=Cj (l:=b.steps) (C1 N b (E0 N m)) (λ_ s=>cu s) (λq=>by rw[C1,CG]) (λq i s hs=>by
   have tj:=(mT.1 hs).1;have tn:=mS hs;rw[C1,Cf,An hs,mR,dU,ck hs (NZ hb tn) (λc hc=>ih c (Iv hb tn hc).1 (by have:=(Iv hb tn hc).2;omega)) hN,wI,show ((i:Int)+1)=((i+1:Nat):Int) by omega,DP,Sl,mR];unfold bN;by_cases h0:s.A5=0<;>cases MO s.op<;>cases Uw s.kids<;>simp[h0]) (by omega:b.steps.length<N)
  rw[L,Dr,DP,SP,O2];cases b.steps.all cu<;>rfl
theorem Qc {N:Nat}(hN:2000000<=N){b:Block}(hb:Bs b):Ih N b=some (Ku b):=by
 unfold Ih;exact Wb hN N b hb (by unfold Bs at hb;omega)
theorem dR (f:Bool)(s:Step):Fj f s=some (f&&bN s):=by
 unfold Fj bN;rw[Ja,mR];cases f<;>cases MO s.op<;>rfl
theorem dE {s:Step}{rec:Bool->Block->Option Bool}(hk:s.kids.length<=1048576)(rv :∀c∈s.kids,∀f,rec f c=some (f&&Ku c)){N i:Nat}(hi:i<=s.kids.length)(hN:s.kids.length-i<N):∀f:Bool,CQ s rec N i f=some (f&&Uw (s.kids.drop i)):=by
 refine A4 s.kids.length (λN i=>∀f:Bool,CQ s rec N i f=some (f&&Uw (s.kids.drop i))) ?_ ?_ hi hN
 ·intro n f;rw[CQ,CG];simp[Uw]
 ·intro n i hi ih f;obtain⟨c,hc,vJ⟩:=Ax hi;rw[CQ,Cf,An hc,mR,rv c vJ,wI,show ((i:Int)+1)=((i+1:Nat):Int) by omega,drop_cons hc,mR,ih,Uw,qK]
theorem dx {b:Block}{rec:Bool->Block->Option Bool}{M:Nat}(hM:2000000<=M)(hb:Bs b)(rv :∀s∈b.steps,∀c∈s.kids,∀f,rec f c=some (f&&Ku c)){N i:Nat}(hi:i<=b.steps.length)(hN:b.steps.length-i<N):∀f:Bool,CS M b rec N i f=some (f&&YF (b.steps.drop i)):=by
 have hl:=hb.len;refine A4 b.steps.length (λN i=>∀f:Bool,CS M b rec N i f=some (f&&YF (b.steps.drop i))) ?_ ?_ hi hN
 ·intro n f;rw[CS,CG];simp[YF]
 ·intro n i hi ih f;obtain⟨s,hs,tn⟩:=Ax hi;rw[CS,Cf,An hs,mR];have l2:=dE (s:=s) (NZ hb tn) (rv s tn) (mi _) (by have:=NZ hb tn;omega:s.kids.length-0<M) (f&&bN s);rw[rD,nP]at l2;rw[dR,mR,l2,wI,show ((i:Int)+1)=((i+1:Nat):Int) by omega,drop_cons hs,mR,ih,YF,Sl,qK,qK,qK]
theorem WZ {N:Nat}(hN:2000000<=N):∀(m:Nat) (b:Block),Bs b->IB b<m->∀f,E3 N m f b=some (f&&Ku b):=by
 intro m
 induction m with
 | zero=>intro b _ h;omega
 | succ m ih=>
  intro b hb hm f;have hl:=hb.len;rw[E3];unfold Hc;have L:=dx hN hb (rec:=E3 N m) (λs hs c hc=>ih c (Iv hb hs hc).1 (by have:=(Iv hb hs hc).2;omega)) (mi _) (by omega:b.steps.length-0<N) f;rw[rD,nP]at L;rw[L,SP];rfl
theorem Ov {N:Nat}(hN:2000000<=N){b:Block}(hb:Bs b):Gd N b=some (Ku b):=by
 unfold Gd KY;rw[WZ hN N b hb (by unfold Bs at hb;omega)];simp
theorem WK {n:AL}(S:Ir n){N:Nat}(hN:2000000<=N):∃v b,Ea N n=some v/\(b=true->v=true/\∀r∈n.AB,Ku r.body=true)/\Mz N n=some b/\I9 N n=some b:=by
 have hl:=S.Pb;obtain⟨v,h1,h2⟩:=Rm S hN;unfold Mz Gw I9;rw[h1,h2];simp only[mR];cases v with
 | false=>exact⟨_,false,rfl,(λh=>by cases h),rfl,rfl⟩
 | true=>
  have L1:=Cj (l:=n.AB) (E7 N n) (λ_ r=>Ku r.body) (λq=>by rw[E7,CG]) (λq i r hi=>by
   have tj:=(mT.1 hi).1;have hr:=mS hi;rw[E7,Cf,An hi];simp only[mR];rw[Qc hN (S.rz hr).2.2,wI,show ((i:Int)+1)=((i+1:Nat):Int) by omega];simp only[mR];cases Ku r.body<;>rfl) (by omega:n.AB.length<N)
  have L2:=Cj (l:=n.AB) (FB N n) (λ_ r=>Ku r.body) (λq=>by rw[FB,CG]) (λq i r hi=>by
   have tj:=(mT.1 hi).1;have hr:=mS hi;rw[FB,Cf,An hi];simp only[mR];rw[Ov hN (S.rz hr).2.2,wI,show ((i:Int)+1)=((i+1:Nat):Int) by omega];simp only[mR];cases Ku r.body<;>rfl) (by omega:n.AB.length<N)
  rw[Dr]at L1 L2;refine⟨_,n.AB.all λr=>Ku r.body,rfl,λh=>⟨rfl,by simpa using h⟩,?_,?_⟩
  ·simp only[nb,mW,my];rw[L1,DP];cases (n.AB.all λr=>Ku r.body)<;>rfl
  ·simp only[nb,mW,my];rw[L2,DP];cases (n.AB.all λr=>Ku r.body)<;>rfl
end RC
namespace RC
open Go
def MG:Nat->Nat->List Int
 | _,0=>[]
 | k,n+1=>(k:Int)::MG (k+1) n
theorem Wx:∀(n k:Nat),(MG k n).length=n
 | 0,_=>rfl
 | n+1,k=>by simp[MG,Wx n]
theorem Ek {α:Type}(A B:List α)(x:α):Sh.get (A++x::B) (A.length:Int)=some x:=An (by simp)
theorem GX {α:Type}(A B:List α)(x y:α):Sh.put (A++x::B) (A.length:Int) y=A++y::B:=by rw[Ky];simp
theorem OW:∀(B A:List Int) (k n:Nat),B.length<n->A.length+B.length<=2000000->k+B.length<=100000000->
  EY n (k:Int) (A.length:Int) (A++B)=some (((k+B.length:Nat):Int),A++MG k B.length)
 | [],A,k,n,hn,_,_=>by
  obtain⟨n,rfl⟩ :∃m,n=m+1:=⟨n-1,by simp at hn;omega⟩
  rw[EY,mj (by simp[Ae])];simp[MG]
 | b::B,A,k,n,hn,h1,h2=>by
  simp only[nE]at hn h1 h2⊢;obtain⟨n,rfl⟩ :∃m,n=m+1:=⟨n-1,by omega⟩
  have ih:=OW B (A++[(k:Int)]) (k+1) n (by omega) (by simp;omega) (by omega);rw[EY,me (by simp[Ae];omega),Ek,GX,W0 (by omega) (by omega),W0 (by omega) (by omega),mR];rw[nW,np,np]at ih;simp only[nE,nj,py,ny]at ih;have e1:((A.length:Int)+1)=((A.length+(0+1):Nat):Int):=by omega
  have e2:((k:Int)+1)=((k+1:Nat):Int):=by omega
  rw[e1,e2,ih];simp only[MG,show k+1+B.length=k+(B.length+1) by omega]
theorem Lr {l:List Int}(hl:l.length<=1048576){k:Nat}(hk:k<=50000000){N:Nat}(hN:2000000<=N):Fe N l (k:Int)=some (((k+l.length:Nat):Int),MG k l.length):=by
 unfold Fe;have:=OW l [] k N (by omega) (by simp;omega) (by omega);rw[nj,ny,ny]at this;rw[show (0:Int)=((0:Nat):Int) from rfl,this];rfl
theorem OX:∀(m:Nat) (A:List Int) (k n:Nat),m<n->A.length+m<=2000000->k+m<=100000000->
  EX (A++MG k m) n (k:Int) (A.length:Int)=some (Sum.inr (((k+m:Nat):Int)))
 | 0,A,k,n,hn,_,_=>by
  obtain⟨n,rfl⟩ :∃m,n=m+1:=⟨n-1,by omega⟩
  rw[EX,mj (by simp[Ae,MG])];simp
 | m+1,A,k,n,hn,h1,h2=>by
  obtain⟨n,rfl⟩ :∃m,n=m+1:=⟨n-1,by omega⟩
  have ih:=OX m (A++[(k:Int)]) (k+1) n (by omega) (by simp;omega) (by omega);rw[EX,me (by simp[Ae,Wx];omega)];simp only[MG];rw[Ek,wI,wI];simp only[mR,nB,nb,mW,my];rw[nW,np]at ih;simp only[nE,nj,py,ny]at ih;have e1:((A.length:Int)+1)=((A.length+(0+1):Nat):Int):=by omega
  have e2:((k:Int)+1)=((k+1:Nat):Int):=by omega
  rw[e1,e2,ih];simp only[show k+1+m=k+(m+1) by omega]
theorem Lm {m:Nat}(hl:m<=1048576){k:Nat}(hk:k<=50000000){N:Nat}(hN:2000000<=N):Fm N (MG k m) (k:Int)=some (((k+m:Nat):Int)):=by
 unfold Fm;have:=OX m [] k N (by omega) (by simp;omega) (by omega);rw[nj,ny]at this;rw[show (0:Int)=((0:Nat):Int) from rfl,this];rfl
theorem YZ {α:Type}{f g:α->Nat}{a b:Nat}:∀{l:List α},(∀x∈l,f x<=a+b*g x)->(l.map f).sum<=a*l.length+b*(l.map g).sum
 | [],_=>by simp
 | x::r,h=>by
  have h1:=h x (by simp);have h2:=YZ (l:=r) λy hy=>h y (by simp[hy]);simp only[mz,oV,nE,Nat.mul_add];omega
theorem Ef {n:Nat}(h:n<=100000000):Sh.w ((n:Int)+1)=((n+1:Nat):Int):=by
 rw[wI];rfl
def dT (d:AR):Nat:=2+(d.cons.map cz).sum
mutual
def ms:Step->Nat|.mk _ _ _ a k=>3+a.length+WB k
def WB:List (ET Step)->Nat|[]=>0|b::k=>mb b+WB k
def mb:ET Step->Nat|⟨ss,_⟩=>Vw ss+1
def Vw:List Step->Nat|[]=>0|s::l=>ms s+Vw l
end
theorem kI (s:Step):ms s=3+s.args.length+WB s.kids:=by cases s;simp only[ms];rfl
theorem kV (b:Block):mb b=Vw b.steps+1:=by cases b;simp only[mb]
theorem cQ:∀k:List Block,WB k=(k.map mb).sum
 | []=>rfl
 | b::k=>by rw[mz,oV,<- cQ k];simp only[WB]
theorem cZ:∀l:List Step,Vw l=(l.map ms).sum
 | []=>rfl
 | s::l=>by rw[mz,oV,<- cZ l];simp only[Vw]
mutual
theorem kD:∀s:Step,ms s<=3+3*MX s
 | .mk o _ _ a k=>by
  have h1:=bl k;simp only[ms,MX];omega
theorem bl:∀k:List (ET Step),WB k<=k.length+3*Kj k
 | []=>by simp[WB]
 | b::k=>by
  have h1:=kC b;have h2:=bl k;simp only[WB,Kj,nE];omega
theorem kC:∀b:ET Step,mb b<=1+3*IB b
 | ⟨ss,r⟩=>by
  have h1:=Xy ss;simp only[mb,IB];omega
theorem Xy:∀l:List Step,Vw l<=3*l.length+3*Lq l
 | []=>by simp[Vw]
 | s::l=>by
  have h1:=kD s;have h2:=Xy l;simp only[Vw,Lq,nE];omega
end
def eK (r:AP):Nat:=r.params.length+r.Ao.length+1+Vw r.body.steps+1
end RC
