import Derived.Test.YtgiajkaabnbieaaGreatGHADefsToCTDefs
set_option linter.all false
namespace RC
open Go
theorem BI {n:Int}(h1:-9223372036854775808<=n)(h2:n<=9223372036854775807):Sh.w n=n:=Abs.wrap_i64 h1 h2
theorem AM {α:Type}(l:List α):Sh.len l=(l.length:Int):=rfl
theorem ek {α:Type}(l:List α)(i:Nat):Sh.get l (i:Int)=l[i]?:=by
 unfold Sh.get;rw[mI (pG i)];simp
theorem As {α:Type}{l:List α}{i:Nat}{x:α}(h:l[i]?=some x):Sh.get l (i:Int)=some x:=by rw[ek,h]
theorem NW {α:Type}{l:List α}{j:Int}(h0:0<=j)(h1:j<l.length):∃x,Sh.get l j=some x/\l[j.toNat]?=some x:=by
 have h:l[j.toNat]?=some (l[j.toNat]'(by omega)):=mH (by omega);exact⟨_,by unfold Sh.get;rw[mI h0,h],h⟩
theorem Qc {α:Type}{l:List α}{j:Int}(h0:0<=j):Sh.get l j=l[j.toNat]?:=by unfold Sh.get;rw[mI h0]
theorem NR {α:Type}(l:List α)(i:Nat)(x:α):Sh.put l (i:Int) x=l.set i x:=by simp[Sh.put]
theorem NA {α:Type}(x:α)(n b:Nat)(h:n*b<=281474976710656)(h2:n<=9223372036854775807):Sh.mk x (n:Int) b=some (List.replicate n x):=by
 unfold Sh.mk;rw[mI ⟨by omega,by rw[<- pW];omega,by omega⟩];simp
theorem CS {α:Type}(l m:List α)(b:Nat)(h:(l.length+m.length)*b<=140737488355328)(h2:l.length+m.length<=9223372036854775807):Sh.app l m b=some (l++m):=by
 unfold Sh.app;rw[mI ⟨h,h2⟩]
theorem kS {α:Type}{l:List α}{j:Nat}(h:j<=l.length):Sh.hi l (j:Int)=some (l.take j):=by
 unfold Sh.hi;rw[mI ⟨by omega,by omega⟩];simp
theorem BZ (len:Nat)(P:Nat->Nat->Prop)(h0 :∀n,P (n+1) len)(hs :∀n i,i<len->P n (i+1)->P (n+1) i):∀{N i:Nat},i<=len->len-i<N->P N i:=by
 intro N i hi hN;obtain⟨k,hk⟩ :∃k,len-i=k:=⟨_,rfl⟩
 induction k generalizing N i with
 | zero=>
  obtain⟨n,rfl⟩ :∃n,N=n+1:=⟨N-1,by omega⟩
  have:i=len:=by omega
  subst this;exact h0 n
 | succ k ih=>
  obtain⟨n,rfl⟩ :∃n,N=n+1:=⟨N-1,by omega⟩
  exact hs n i (by omega) (ih (by omega) (by omega) (by omega))
theorem Bi {α:Type}{l:List α}{i:Nat}(h:i<l.length):∃x,l[i]?=some x/\x∈l:=⟨l[i],mH h,ob h⟩
theorem EA {α:Type}{l:List α}{j:Nat}{x:α}(h:l[j]?=some x):l.take (j+1)=l.take j++[x]:=by rw[List.take_add_one,h];rfl
theorem drop_cons {α:Type}{l:List α}{j:Nat}{x:α}(h:l[j]?=some x):l.drop j=x::l.drop (j+1):=by
 obtain⟨hj,rfl⟩:=mC.1 h;exact pC hj
def fA (h:List Cell):Nat:=(h.map λc=>c.fields.length).sum
def Gl (h:List Cell):Nat:=h.length+fA h
structure Hp (h:List Cell):Prop where
 size:Gl h<=1048576
 cells :∀c∈h,Yh c
theorem dM {h:List Cell}{c:Cell}(hc:c∈h):c.fields.length<=fA h:=by
 induction h with
 | nil=>cases hc
 | cons d h ih=>
  simp only[fA,mg,oR]at ih⊢;rcases mc.1 hc with rfl|hc
  ·omega
  ·have:=ih hc;omega
theorem Hp.len {h:List Cell}(H:Hp h):h.length<=1048576:=by have:=H.size;unfold Gl at this;omega
theorem Hp.jR {h:List Cell}(H:Hp h){c:Cell}(hc:c∈h):c.fields.length<=1048576:=by have:=H.size;have:=dM hc;unfold Gl at *;omega
end RC
namespace RC
open Go
def EH {α:Type}(f:Nat->α->Bool):Nat->List α->Bool
 | _,[]=>true
 | k,x::r=>f k x&&EH f (k+1) r
theorem SS {α:Type}{f g:Nat->α->Bool}:∀(l:List α) (k:Nat),(∀(i:Nat) x,l[i]?=some x->f (k+i) x=g (k+i) x)->EH f k l=EH g k l
 | [],_,_=>rfl
 | x::r,k,h=>by
  have h0:=h 0 x rfl;rw[oc]at h0;have h1:=SS r (k+1) λi y hy=>(show k+(i+1)=k+1+i by omega)▸h (i+1) y hy;rw[EH,EH,h0,h1]
theorem D6 {α:Type}{p:α->Bool}:∀(l:List α) (k:Nat),EH (λ_ x=>p x) k l=l.all p
 | [],_=>rfl
 | x::r,k=>by rw[EH,D6 r (k+1),oh]
theorem DE {α:Type}{l:List α}(L:Nat->Int->Option (Bool ⊕ Unit))(f:Nat->α->Bool)(h0 :∀n,L (n+1) (l.length:Int)=some (.inr ()))
  (hs :∀n (i:Nat) x,l[i]?=some x->L (n+1) (i:Int)=if f i x=true then L n ((i+1:Nat):Int) else some (.inl false)) {N:Nat} (hN:l.length<N) :
  L N 0=some (if EH f 0 l=true then .inr () else .inl false):=by
 have key:∀{N i:Nat},i<=l.length->l.length-i<N->L N (i:Int)=some (if EH f i (l.drop i)=true then .inr () else .inl false):=by
  intro N i hi hN;refine BZ l.length (λN i=>L N (i:Int)=some (if EH f i (l.drop i)=true then .inr () else .inl false)) ?_ ?_ hi hN
  ·intro n;rw[h0 n];simp[EH]
  ·intro n i hi ih;obtain⟨x,hx,_⟩:=Bi hi;rw[hs n i x hx,ih,drop_cons hx,EH];cases h:f i x<;>simp
 have:=key (mV _) (by omega:l.length-0<N);simpa using this
theorem Du {β:Type}{b:Bool}{g:Bool->β}{K:Unit->Option β}:Sh.cont (some (if b=true then Sum.inr () else Sum.inl false)) g K=if b=true then K () else some (g false):=by
 cases b<;>rfl
theorem Zp {α:Type}{l:List α}{j:Nat}(h:j<=l.length)(h2:l.length<=9223372036854775807):Sh.sl l 0 (j:Int)=some (l.take j):=by
 unfold Sh.sl;rw[mI ⟨by omega,by omega,by omega⟩];simp
end RC
namespace RC
open Go
theorem PQ {l:List Int}{left:Int}(h0:0<=left)(h1:left<=1048576)(hl:l.length<=9223372036854775807):Hg l left=some (if left-l.length<0 then -1 else left-l.length):=by
 unfold Hg;rw[AM,BI (by omega) (by omega)];by_cases h:left-l.length<0<;>simp[h]
theorem W0 {l:List Int}(hl:l.length<=1048576){N i:Nat}(hi:i<=l.length)(hN:l.length-i<N):∀m:List Int,m.length=l.length->m.take i=l.take i->FR l N i m=some l:=by
 refine BZ l.length (λN i=>∀m:List Int,m.length=l.length->m.take i=l.take i->FR l N i m=some l) ?_ ?_ hi hN
 ·intro n m hm ht;rw[FR,mJ (by simp[AM])];rw[nv (by omega),nI]at ht;rw[ht]
 ·intro n i hi ih m hm ht;obtain⟨x,hx,_⟩:=Bi hi;obtain⟨y,hy,_⟩:=Bi (l:=m) (i:=i) (by omega);rw[FR,mI (by simp[AM];omega),As hx];simp only[mA];rw[As hy];simp only[mA];rw[BI (by omega) (by omega),NR,show ((i:Int)+1)=((i+1:Nat):Int) by omega];refine ih _ (by simp[hm]) ?_;rw[EA hx,EA (x:=x) (by rw[pf];simp;omega),oY (mS _),ht]
theorem PN {l:List Int}(hl:l.length<=1048576){N:Nat}(hN:2000000<=N):HV N l=some l:=by
 unfold HV;rw[AM,NA 0 l.length 8 (by omega) (by omega)];simp only[mA];have:=W0 hl (mV _) (by omega:l.length-0<N) (List.replicate l.length 0) (by simp) (by simp);rw[qg]at this;rw[this];rfl
theorem W9 {l:List Int}(hl:l.length<=1048576){N i:Nat}(hi:i<=l.length)(hN:l.length-i<N):FQ l l N i=some (Sum.inr ()):=by
 refine BZ l.length (λN i=>FQ l l N i=some (Sum.inr ())) ?_ ?_ hi hN
 ·intro n;rw[FQ,mJ (by simp[AM])]
 ·intro n i hi ih;obtain⟨x,hx,_⟩:=Bi hi;rw[FQ,mI (by simp[AM];omega),As hx];simp only[mA];rw[BI (by omega) (by omega),show ((i:Int)+1)=((i+1:Nat):Int) by omega];simpa using ih
theorem O7 {l:List Int}(hl:l.length<=1048576){N:Nat}(hN:2000000<=N):HY N l l=some true:=by
 unfold HY;have:=W9 hl (mV _) (by omega:l.length-0<N);rw[qg]at this;simp[this]
end RC
namespace RC
open Go
theorem Cp (a b c:Int):Bd a b c=some (decide (b<=a)&&decide (a<=c)):=by
 unfold Bd;by_cases h:b<=a<;>simp[h]
end RC
namespace RC
open Go
def DN (D:List Ac)(t:Int):Bool:=decide (0<=t)&&decide (t<=(D.length:Int))
theorem N1 {D:List Ac}{x:Int}:Bd x 0 (Sh.len D)=some (DN D x):=by rw[Cp];rfl
theorem Nz {D:List Ac}{l:List Int}(hl:l.length<=1048576){N:Nat}(hN:l.length<N):H7 N D l=some (l.all (DN D)):=by
 unfold H7;rw[DE (l:=l) (E9 D l) (λ_ x=>DN D x) (λn=>by rw[E9,mJ (by simp[AM])]) (λn i x hx=>?_) hN,Du,D6]
 ·cases l.all (DN D)<;>rfl
 ·have hi:=(mC.1 hx).1;rw[E9,mI (by simp[AM];omega),As hx];simp only[mA];rw[N1,BI (by omega) (by omega),show ((i:Int)+1)=((i+1:Nat):Int) by omega];simp only[mA];cases DN D x<;>rfl
theorem KF {D:List Ac}{t:Int}:HS D t=some (DN D t):=by
 unfold HS DN;by_cases h:0<=t<;>by_cases h2:t<=(D.length:Int)<;>simp[h,h2,AM]
theorem Nx {D:List Ac}{l:List Int}(hl:l.length<=1048576){N:Nat}(hN:l.length<N):IG N D l=some (l.all (DN D)):=by
 unfold IG;rw[DE (l:=l) (FH D l) (λ_ x=>DN D x) (λn=>by rw[FH,mJ (by simp[AM])]) (λn i x hx=>?_) hN,Du,D6]
 ·cases l.all (DN D)<;>rfl
 ·have hi:=(mC.1 hx).1;rw[FH,mI (by simp[AM];omega),As hx];simp only[mA];rw[KF,BI (by omega) (by omega),show ((i:Int)+1)=((i+1:Nat):Int) by omega];simp only[mA];cases DN D x<;>rfl
def RQ (D:List Ac)(c:Bh):Bool:=decide (c.fields.length<=3)&&c.fields.all (DN D)
def Hn (a b:Ac):Bool:=decide (a.cons.length=0)&&(decide (a.from_=b.from_)&&decide (a.to=b.to))
def MW (D:List Ac)(i:Nat)(d:Ac):Bool:=
 if 0<d.cons.length then (decide (d.cons.length<=3)&&(decide (d.from_=0)&&decide (d.to=0)))&&d.cons.all (RQ D)
 else (D.take i).all (λe=>!Hn e d)&&(DN D d.from_&&DN D d.to)
def T4 (D:List Ac)(i:Nat)(d:Ac):Bool:=
 ((DN D d.from_&&(DN D d.to&&(decide (d.cons.length<=3)&&(!(decide (0<d.cons.length)&&(!decide (d.from_=0) || !decide (d.to=0)))))))&&d.cons.all (RQ D))&&(D.take i).all (λe=>!(decide (d.cons.length=0)&&Hn e d))
theorem bc (D:List Ac)(i:Nat)(d:Ac):T4 D i d=MW D i d:=by
 unfold T4 MW;by_cases h:0<d.cons.length
 ·have h0:¬ d.cons.length=0:=by omega
  have ha:(D.take i).all (λe=>!(decide (d.cons.length=0)&&Hn e d))=true:=by simp[h0]
  rw[mI h,ha];by_cases h1:d.from_=0<;>by_cases h2:d.to=0<;>simp[h,h1,h2,DN]
 ·have h0:d.cons.length=0:=by omega
  have hc:d.cons=[]:=mh h0;rw[mJ h];simp only[hc,h0,nN,List.all_nil,mZ,Bool.true_and,Bool.and_true];cases DN D d.from_<;>cases DN D d.to<;>simp
structure Qj (D:List Ac):Prop where
 len:D.length<=1048576
 cons :∀d∈D,d.cons.length<=1048576
 Od :∀d∈D,∀c∈d.cons,c.fields.length<=1048576
theorem Rf {D:List Ac}(hD:Qj D){i:Nat}{d:Ac}(hd:D[i]?=some d){N:Nat}(hN:2000000<=N):Iy N D i=some (MW D i d):=by
 have hm:=mB hd;have hi:=(mC.1 hd).1;have hlen:=hD.len;have hc:=hD.cons d hm;unfold Iy MW;rw[As hd];simp only[mA];by_cases h:0<d.cons.length
 ·rw[mI (by simp[AM];omega),mI h];rw[DE (l:=d.cons) (En N d D) (λ_ c=>RQ D c) (λn=>by rw[En,mJ (by simp[AM])]) (λn j c hj=>?_) (by omega),Du,D6]
  ·simp only[AM];by_cases h3:d.cons.length<=3
   ·have e3:¬ (3:Int)<(d.cons.length:Int):=by omega
    generalize d.cons.all (RQ D)=z;cases z<;>by_cases h1:d.from_=0<;>by_cases h2:d.to=0<;>simp[h1,h2,h3,e3]
   ·have e3:(3:Int)<(d.cons.length:Int):=by omega
    simp[h3,e3]
  ·have xf:=(mC.1 hj).1;have hf:=hD.Od d hm c (mB hj);rw[En,mI (by simp[AM];omega),As hj];simp only[mA];rw[Nz hf (by omega),BI (by omega) (by omega),show ((j:Int)+1)=((j+1:Nat):Int) by omega];unfold RQ;by_cases h3:c.fields.length<=3
   ·have e3:¬ (3:Int)<(c.fields.length:Int):=by omega
    simp only[AM];cases c.fields.all (DN D)<;>simp[h3,e3]
   ·have e3:(3:Int)<(c.fields.length:Int):=by omega
    simp[h3,e3,AM]
 ·have h0:d.cons.length=0:=by omega
  have e0:¬ decide ((0:Int)<Sh.len d.cons)=true:=by rw[AM,h0];simp
  rw[mJ e0,mJ h];have rJ:(D.take i).length=i:=by simp;omega
  rw[DE (l:=D.take i) (Es d D i) (λ_ e=>!Hn e d) (λn=>by rw[Es,mJ (by simp;omega)]) (λn j e hj=>?_) (by omega),Du,D6]
  ·rw[N1,N1];simp only[mA];cases (D.take i).all (λe=>!Hn e d)<;>cases DN D d.from_<;>simp
  ·have xf:=(mC.1 hj).1;have hje:D[j]?=some e:=by rw[mi]at hj;split at hj<;>first|exact hj|cases hj
   rw[Es,mI (by simp;omega),As hje];simp only[mA];rw[BI (by omega) (by omega),show ((j:Int)+1)=((j+1:Nat):Int) by omega];unfold Hn;simp only[AM];by_cases a0:e.cons.length=0<;>by_cases a1:e.from_=d.from_<;>by_cases a2:e.to=d.to<;>simp[a0,a1,a2]
def Nu (D:List Ac):Bool:=decide (D.length<=4)&&EH (MW D) 0 D
theorem RI {D:List Ac}(hD:Qj D){N:Nat}(hN:2000000<=N):IB N D=some (Nu D):=by
 have hlen:=hD.len;unfold IB Nu;rw[DE (l:=D) (EW N D) (MW D) (λn=>by rw[EW,mJ (by simp[AM])]) (λn i d hd=>?_) (by omega),Du]
 ·simp only[AM];by_cases h:D.length<=4
  ·have e4:¬ (4:Int)<(D.length:Int):=by omega
   cases EH (MW D) 0 D<;>simp[h,e4]
  ·have e4:(4:Int)<(D.length:Int):=by omega
   simp[h,e4]
 ·have hi:=(mC.1 hd).1;rw[EW,mI (by simp[AM];omega),Rf hD hd hN];simp only[mA];rw[BI (by omega) (by omega),show ((i:Int)+1)=((i+1:Nat):Int) by omega];cases MW D i d<;>rfl
theorem RJ {D:List Ac}(hD:Qj D){N:Nat}(hN:2000000<=N):H3 N D=some (Nu D):=by
 have hlen:=hD.len;unfold H3 Nu;rw[<- SS (f:=T4 D) D 0 (λi d _=>bc D _ d)];rw[DE (l:=D) (EP N D) (T4 D) (λn=>by rw[EP,mJ (by simp[AM])]) (λn i d hd=>?_) (by omega),Du]
 ·simp only[AM];by_cases h:D.length<=4
  ·have e4:¬ (4:Int)<(D.length:Int):=by omega
   cases EH (T4 D) 0 D<;>simp[h,e4]
  ·have e4:(4:Int)<(D.length:Int):=by omega
   simp[h,e4]
 ·have hi:=(mC.1 hd).1;have hm:=mB hd;have hc:=hD.cons d hm;have l2:Dn N d D N 0=some (if d.cons.all (RQ D)=true then .inr () else .inl false):=by
   rw[DE (l:=d.cons) (Dn N d D) (λ_ c=>RQ D c) (λn=>by rw[Dn,mJ (by simp[AM])]) (λn j c hj=>?_) (by omega),D6];have xf:=(mC.1 hj).1;have hf:=hD.Od d hm c (mB hj);rw[Dn,mI (by simp[AM];omega),As hj];simp only[mA];rw[Nx hf (by omega),BI (by omega) (by omega),show ((j:Int)+1)=((j+1:Nat):Int) by omega];unfold RQ;by_cases h3:c.fields.length<=3
   ·have e3:¬ (3:Int)<(c.fields.length:Int):=by omega
    simp only[AM];cases c.fields.all (DN D)<;>simp[h3,e3]
   ·have e3:(3:Int)<(c.fields.length:Int):=by omega
    simp[h3,e3,AM]
  have rJ:(D.take i).length=i:=by simp;omega
  have l3:Dq d (D.take i) N 0=some (if (D.take i).all (λe=>!(decide (d.cons.length=0)&&Hn e d))=true then .inr () else .inl false):=by
   rw[DE (l:=D.take i) (Dq d (D.take i)) (λ_ e=>!(decide (d.cons.length=0)&&Hn e d)) (λn=>by rw[Dq,mJ (by simp[AM])]) (λn j e hj=>?_) (by omega),D6];have xf:=(mC.1 hj).1;rw[Dq,mI (by simp only[AM];simp;omega),As hj];simp only[mA];rw[BI (by omega) (by omega),show ((j:Int)+1)=((j+1:Nat):Int) by omega];unfold Hn;simp only[AM];by_cases b0:d.cons.length=0<;>by_cases a0:e.cons.length=0<;>by_cases a1:e.from_=d.from_<;>by_cases a2:e.to=d.to<;>simp[a0,a1,a2,b0]
  rw[EP,mI (by simp[AM];omega),As hd];simp only[mA];rw[KF,KF,l2,Zp (by omega) (by omega),BI (by omega) (by omega),show ((i:Int)+1)=((i+1:Nat):Int) by omega];simp only[mA];rw[l3,Du,Du];unfold T4;simp only[AM];generalize d.cons.all (RQ D)=z1;generalize (D.take i).all (λe=>!(decide (d.cons.length=0)&&Hn e d))=z2;by_cases h3:d.cons.length<=3
  ·have e3:¬ (3:Int)<(d.cons.length:Int):=by omega
   by_cases h0:0<d.cons.length
   ·have e0:(0:Int)<(d.cons.length:Int):=by omega
    cases DN D d.from_<;>cases DN D d.to<;>cases z1<;>cases z2<;>by_cases h1:d.from_=0<;>by_cases h2:d.to=0<;>simp[h1,h2,h3,e3,h0]
   ·have e0:¬ (0:Int)<(d.cons.length:Int):=by omega
    cases DN D d.from_<;>cases DN D d.to<;>cases z1<;>cases z2<;>simp[h3,e3,h0]
  ·have e3:(3:Int)<(d.cons.length:Int):=by omega
   cases DN D d.from_<;>cases DN D d.to<;>simp[h3,e3]
end RC
namespace RC
open Go
def HM (ps ls:List Int)(i:Nat)(v:Int):Bool:=
 (decide (0<=v)&&decide (v<(ps.length:Int)))&&(!decide (ps[v.toNat]?=some 0)&&!(decide (0<i)&&decide (v<=(ls[i-1]?).getD 0)))
theorem Xa {ls:List Int}{i:Nat}(h0:0<i)(hi:i<ls.length):∃x,ls[i-1]?=some x/\Sh.get ls (((i:Nat):Int)-1)=some x:=by
 obtain⟨x,hx,_⟩:=Bi (l:=ls) (i:=i-1) (by omega);exact⟨x,hx,by rw[show ((i:Int)-1)=((i-1:Nat):Int) by omega,As hx]⟩
theorem R7 {ps ls:List Int}(hp:ps.length<=1048576)(hl:ls.length<=1048576){N:Nat}(hN:2000000<=N):Iq N ps ls=some (EH (HM ps ls) 0 ls):=by
 unfold Iq;rw[DE (l:=ls) (Ep ps ls) (HM ps ls) (λn=>by rw[Ep,mJ (by simp[AM])]) (λn i v hv=>?_) (by omega),Du]
 ·cases EH (HM ps ls) 0 ls<;>rfl
 ·have hi:=(mC.1 hv).1;rw[Ep,mI (by simp[AM];omega),As hv];simp only[mA];rw[Cp,AM,BI (n:=(ps.length:Int)-1) (by omega) (by omega),BI (n:=(i:Int)+1) (by omega) (by omega),BI (n:=(i:Int)-1) (by omega) (by omega),show ((i:Int)+1)=((i+1:Nat):Int) by omega];simp only[mA];unfold HM;by_cases h0:0<=v
  ·by_cases h1:v<(ps.length:Int)
   ·have yN:v<=(ps.length:Int)-1:=by omega
    obtain⟨c,e1,e2⟩:=NW h0 h1;rw[e1,e2];by_cases hi0:0<i
    ·obtain⟨x,g1,g2⟩:=Xa hi0 hi;rw[g1,g2];by_cases hc:c=0<;>by_cases hx:v<=x<;>simp[h0,h1,yN,hc,hi0,hx]
    ·by_cases hc:c=0<;>simp[h0,h1,yN,hc,hi0]
   ·have yN:¬ v<=(ps.length:Int)-1:=by omega
    simp[h0,h1,yN]
  ·simp[h0]
theorem Ws {c:Bg}(hp:c.params.length<=1048576)(hl:c.Ar.length<=1048576){N:Nat}(hN:2000000<=N):D9 c N 0=some (if EH (HM c.params c.Ar) 0 c.Ar=true then .inr () else .inl false):=by
 refine DE (l:=c.Ar) (D9 c) (HM c.params c.Ar) (λn=>by rw[D9,mJ (by simp[AM])]) (λn i v hv=>?_) (by omega);have hi:=(mC.1 hv).1;rw[D9,mI (by simp[AM];omega),As hv];simp only[mA];rw[AM,BI (n:=(i:Int)+1) (by omega) (by omega),BI (n:=(i:Int)-1) (by omega) (by omega),show ((i:Int)+1)=((i+1:Nat):Int) by omega];unfold HM;by_cases h0:0<=v
 ·have xQ:¬ v<0:=by omega
  by_cases h1:v<(c.params.length:Int)
  ·have yN:¬ (c.params.length:Int)<=v:=by omega
   obtain⟨d,e1,e2⟩:=NW h0 h1;rw[e1,e2];by_cases hi0:0<i
   ·obtain⟨x,g1,g2⟩:=Xa hi0 hi;rw[g1,g2];by_cases hc:d=0<;>by_cases hx:v<=x<;>simp[h0,xQ,h1,yN,hc,hi0,hx]
   ·by_cases hc:d=0<;>simp[h0,xQ,h1,yN,hc,hi0]
  ·have yN:(c.params.length:Int)<=v:=by omega
   simp[h0,xQ,h1,yN]
 ·have xQ:v<0:=by omega
  simp[h0,xQ]
def OL (D:List Ac)(ps:List Int)(r:Int):Bool:=decide (ps.length<=3)&&(ps.all (DN D)&&DN D r)
theorem TW {p:EM}(hf:p.funcs.length<=1048576)(hp :∀f∈p.funcs,f.params.length<=1048576){N:Nat}(hN:2000000<=N):EB N p N 0=some (if (p.funcs.all λf=>OL p.decls f.params f.result)=true then .inr () else .inl false):=by
 rw[<- D6 _ 0];refine DE (l:=p.funcs) (EB N p) (λ_ f=>OL p.decls f.params f.result) (λn=>by rw[EB,mJ (by simp[AM])]) (λn i f hi=>?_) (by omega);have tO:=(mC.1 hi).1;have xh:=hp f (mB hi);rw[EB,mI (by simp[AM];omega),As hi];simp only[mA];rw[Nz xh (by omega),N1,BI (by omega) (by omega),show ((i:Int)+1)=((i+1:Nat):Int) by omega];unfold OL;simp only[AM];by_cases h3:f.params.length<=3
 ·have e3:¬ (3:Int)<(f.params.length:Int):=by omega
  generalize f.params.all (DN p.decls)=z;cases z<;>cases DN p.decls f.result<;>simp[h3,e3]
 ·have e3:(3:Int)<(f.params.length:Int):=by omega
  simp[h3,e3]
theorem Tx {D:List Ac}{l:List Bg}(hf:l.length<=1048576)(hp :∀f∈l,f.params.length<=1048576/\f.Ar.length<=1048576){N:Nat}(hN:2000000<=N):D5 N D l N 0=some (if (l.all λf=>OL D f.params f.result&&EH (HM f.params f.Ar) 0 f.Ar)=true then .inr () else .inl false):=by
 rw[<- D6 _ 0];refine DE (l:=l) (D5 N D l) (λ_ f=>OL D f.params f.result&&EH (HM f.params f.Ar) 0 f.Ar) (λn=>by rw[D5,mJ (by simp[AM])]) (λn i f hi=>?_) (by omega);have tO:=(mC.1 hi).1;have xh:=hp f (mB hi);rw[D5,mI (by simp[AM];omega),As hi];simp only[mA];rw[Nx xh.1 (by omega),KF,Ws xh.1 xh.2 hN,Du,BI (by omega) (by omega),show ((i:Int)+1)=((i+1:Nat):Int) by omega];unfold OL;simp only[AM];generalize EH (HM f.params f.Ar) 0 f.Ar=y;by_cases h3:f.params.length<=3
 ·have e3:¬ (3:Int)<(f.params.length:Int):=by omega
  generalize f.params.all (DN D)=z;cases z<;>cases DN D f.result<;>cases y<;>simp[h3,e3]
 ·have e3:(3:Int)<(f.params.length:Int):=by omega
  simp[h3,e3]
end RC
namespace RC
open Go
def Yf (D:List (List Int×Int)):Bool:=match D with|[]=>false|(ps,r)::_=>decide (ps.length=0)&&decide (r=0)
def QZ (D:List Ac)(l:List (List Int×Int)):Bool:=Nu D&&((decide (1<=l.length)&&decide (l.length<=4))&&(l.all (λs=>OL D s.1 s.2)&&Yf l))
theorem Rc {p:EM}(hD:Qj p.decls)(hf:p.funcs.length<=1048576)(hp :∀f∈p.funcs,f.params.length<=1048576){N:Nat}(hN:2000000<=N):Io N p=some (QZ p.decls (p.funcs.map λf=>(f.params,f.result))):=by
 unfold Io QZ;rw[RI hD hN,TW hf hp hN,Du,Cp];simp only[mA,mO,pw,pe];cases Nu p.decls with
 | false=>simp
 | true=>
  cases hl:p.funcs with
  | nil=>simp[AM]
  | cons f r=>
   have e0:Sh.get (f::r) 0=some f:=rfl;rw[e0];generalize (f::r).all (λf=>OL p.decls f.params f.result)=z;simp only[mg,Yf];have q1:decide ((1:Int)<=Sh.len (f::r))=true:=pb (by rw[AM,mf];omega);have q2:decide (1<=(f::r).length)=true:=by simp
   have q3:decide (Sh.len (f::r)<=4)=decide ((f::r).length<=4):=nZ.2 (by rw[AM];omega);have q4:decide (Sh.len f.params=0)=decide (f.params.length=0):=nZ.2 (by rw[AM];omega);simp only[q1,q2,q3,q4,mA];cases decide ((f::r).length<=4)<;>cases z<;>by_cases a1:f.params.length=0<;>by_cases a2:f.result=0<;>simp[a1,a2]
theorem Rp {D:List Ac}{l:List Bg}(hD:Qj D)(hf:l.length<=1048576)(hp :∀f∈l,f.params.length<=1048576/\f.Ar.length<=1048576){N:Nat}(hN:2000000<=N):
  I0 N D l=some (QZ D (l.map λf=>(f.params,f.result))&&l.all (λf=>EH (HM f.params f.Ar) 0 f.Ar)):=by
 unfold I0 QZ;rw[RJ hD hN,Tx hf hp hN,Du];have hsplit:(l.all λf=>OL D f.params f.result&&EH (HM f.params f.Ar) 0 f.Ar)=((l.all λf=>OL D f.params f.result)&&(l.all λf=>EH (HM f.params f.Ar) 0 f.Ar)):=by
  clear hf hp
  induction l with
  | nil=>rfl
  | cons f r ih=>
   simp only[oh,ih];cases OL D f.params f.result<;>cases EH (HM f.params f.Ar) 0 f.Ar<;>simp
 rw[hsplit];simp only[mA,mO,pw,pe];cases Nu D with
 | false=>simp
 | true=>
  cases hl:l with
  | nil=>simp[AM]
  | cons f r=>
   have e0:Sh.get (f::r) 0=some f:=rfl;rw[e0];generalize (f::r).all (λf=>OL D f.params f.result)=z;generalize (f::r).all (λf=>EH (HM f.params f.Ar) 0 f.Ar)=y;simp only[mg,Yf];have q1:decide (Sh.len (f::r)<1)=false:=decide_eq_false (by rw[AM,mf];omega);have q2:decide (1<=(f::r).length)=true:=by simp
   have q3:decide ((4:Int)<Sh.len (f::r))=!decide ((f::r).length<=4):=by rw[<- decide_not];exact nZ.2 (by rw[AM];omega)
   have q4:decide ((0:Int)<Sh.len f.params)=!decide (f.params.length=0):=by rw[<- decide_not];exact nZ.2 (by rw[AM];omega)
   simp only[q1,q2,q3,q4,mA];cases decide ((f::r).length<=4)<;>cases z<;>cases y<;>by_cases a1:f.params.length=0<;>by_cases a2:f.result=0<;>simp[a1,a2]
end RC
namespace RC
open Go
def nc (D:List Ac):Nat:=(D.map (·.cons.length)).sum
theorem NU {D:List Ac}{i:Nat}{d:Ac}(h:D[i]?=some d):nc (D.take (i+1))=nc (D.take i)+d.cons.length:=by
 rw[EA h];simp[nc]
theorem Sq {D:List Ac}{i:Nat}{d:Ac}(h:D[i]?=some d):nc (D.drop i)=d.cons.length+nc (D.drop (i+1)):=by
 rw[drop_cons h];simp[nc]
theorem Hy (D:List Ac)(i:Nat):nc D=nc (D.take i)+nc (D.drop i):=by
 unfold nc;rw[<- List.sum_append_nat,<- mu,List.take_append_drop]
theorem JN {D:List Ac}(hD:D.length<=1048576)(hn:nc D<=1048576){i:Nat}(hi:i<=D.length){N:Nat}(hN:2000000<=N):HA N D i=some (nc (D.take i):Int):=by
 unfold HA;have key:∀{N j:Nat},j<=i->i-j<N->Ee D i N (nc (D.take j)) j=some (nc (D.take i):Int):=by
  intro N j hj hN;refine BZ i (λN j=>Ee D i N (nc (D.take j)) j=some (nc (D.take i):Int)) ?_ ?_ hj hN
  ·intro n;rw[Ee,mJ (by simp)]
  ·intro n j hj ih;obtain⟨d,hd,_⟩:=Bi (l:=D) (i:=j) (by omega);have hs:=Hy D (j+1);have ht:=NU hd;rw[Ee,mI (by simp;omega),As hd];simp only[mA];rw[AM,BI (n:=(j:Int)+1) (by omega) (by omega),BI (by omega) (by omega),show ((nc (D.take j):Int)+(d.cons.length:Int))=((nc (D.take (j+1)):Nat):Int) by omega,show ((j:Int)+1)=((j+1:Nat):Int) by omega];exact ih
 have:=key (mV _) (by omega:i-0<N);rw[show (((nc (D.take 0):Nat):Int))=0 from rfl,show (((0:Nat):Int))=0 from rfl]at this;rw[this];rfl
theorem Sw {D:List Ac}(hD:D.length<=1048576)(hn:nc D<=1048576){N:Nat}(hN:2000000<=N):Jd N D=some (nc D:Int):=by
 unfold Jd;have key:∀{N j:Nat},j<=D.length->D.length-j<N->Ec D N (nc (D.take j)) j=some (nc D:Int):=by
  intro N j hj hN;refine BZ D.length (λN j=>Ec D N (nc (D.take j)) j=some (nc D:Int)) ?_ ?_ hj hN
  ·intro n;rw[Ec,mJ (by simp[AM]),nI]
  ·intro n j hj ih;obtain⟨d,hd,_⟩:=Bi hj;have hs:=Hy D (j+1);have ht:=NU hd;rw[Ec,mI (by simp[AM];omega),As hd];simp only[mA];rw[AM,BI (n:=(j:Int)+1) (by omega) (by omega),BI (by omega) (by omega),show ((nc (D.take j):Int)+(d.cons.length:Int))=((nc (D.take (j+1)):Nat):Int) by omega,show ((j:Int)+1)=((j+1:Nat):Int) by omega];exact ih
 have:=key (mV _) (by omega:D.length-0<N);rw[show (((nc (D.take 0):Nat):Int))=0 from rfl,show (((0:Nat):Int))=0 from rfl]at this;rw[this];rfl
def Mj:List Ac->Nat->Nat->Option (Nat×Bh)
 | [],_,_=>none
 | d::r,k,c=>match d.cons[c]? with
  | some x=>some (k+1,x)
  | none=>Mj r (k+1) (c-d.cons.length)
theorem P7 {D:List Ac}(hD:D.length<=1048576)(hn:nc D<=1048576){c:Nat}(hc:c<nc D){N:Nat}(hN:2000000<=N):∃t x,Mj D 0 c=some (t,x)/\IS N D c=some ((t:Int),x):=by
 have key:∀(m j N c:Nat),D.length-j=m->j<=D.length->m<N->c<nc (D.drop j)->∃t x,Mj (D.drop j) j c=some (t,x)/\FL D N c j=some (.inl ((t:Int),x)):=by
  intro m
  induction m with
  | zero=>
   intro j N c h1 h2 _ h3;rw[oN (by omega)]at h3;simp[nc]at h3
  | succ m ih=>
   intro j N c h1 h2 h3 h4;obtain⟨N,rfl⟩ :∃n,N=n+1:=⟨N-1,by omega⟩
   obtain⟨d,hd,_⟩:=Bi (l:=D) (i:=j) (by omega);have hs:=Hy D j;rw[Sq hd]at h4 hs;rw[drop_cons hd];unfold Mj;rw[FL,mI (by simp[AM];omega),As hd];simp only[mA];rw[mI (by simp),AM,BI (n:=(j:Int)+1) (by omega) (by omega),BI (by omega) (by omega)];cases hx:d.cons[c]? with
   | some x=>
    have rJ:=(mC.1 hx).1;refine⟨j+1,x,rfl,?_⟩;have e:((c:Int)<(d.cons.length:Int)):=by omega
    simp[e,As hx]
   | none=>
    have hle:d.cons.length<=c:=by simpa using hx
    obtain⟨t,x,g1,g2⟩:=ih (j+1) N (c-d.cons.length) (by omega) (by omega) (by omega) (by omega);refine⟨t,x,g1,?_⟩;have e:¬ ((c:Int)<(d.cons.length:Int)):=by omega
    rw[<- g2,show ((c:Int)-(d.cons.length:Int))=((c-d.cons.length:Nat):Int) by omega,show ((j:Int)+1)=((j+1:Nat):Int) by omega];simp[e]
 obtain⟨t,x,g1,g2⟩:=key D.length 0 N c (by omega) (by omega) (by omega) (by simpa using hc);refine⟨t,x,by simpa using g1,?_⟩;unfold IS;rw[show (((0:Nat):Int))=0 from rfl]at g2;rw[g2];rfl
end RC
namespace RC
open Go
theorem OX {D:List Ac}(hD:D.length<=1048576)(hn:nc D<=1048576){c:Nat}(hc:c<nc D){N:Nat}(hN:2000000<=N):∃t x,Mj D 0 c=some (t,x)/\Cq N D c=some (t:Int):=by
 have key:∀(m j M c:Nat),D.length-j=m->j<=D.length->m<M->c<nc (D.drop j)->∃t x,Mj (D.drop j) j c=some (t,x)/\Dt N D ((nc (D.take j)+c:Nat):Int) M j=some (.inl (t:Int)):=by
  intro m
  induction m with
  | zero=>
   intro j M c h1 h2 _ h3;rw[oN (by omega)]at h3;simp[nc]at h3
  | succ m ih=>
   intro j M c h1 h2 h3 h4;obtain⟨M,rfl⟩ :∃n,M=n+1:=⟨M-1,by omega⟩
   obtain⟨d,hd,_⟩:=Bi (l:=D) (i:=j) (by omega);have hs:=Hy D j;rw[Sq hd]at h4 hs;have ht:=NU hd;rw[drop_cons hd];unfold Mj;rw[Dt,mI (by simp[AM];omega),JN hD hn (by omega) hN,As hd];simp only[mA];rw[AM,BI (n:=(j:Int)+1) (by omega) (by omega),BI (n:=(nc (D.take j):Int)+(d.cons.length:Int)) (by omega) (by omega),BI (by omega) (by omega),Cp];simp only[mA];cases hx:d.cons[c]? with
   | some x=>
    have rJ:=(mC.1 hx).1;refine⟨j+1,x,rfl,?_⟩;rw[mI (by simp;omega)];rfl
   | none=>
    have hle:d.cons.length<=c:=by simpa using hx
    obtain⟨t,x,g1,g2⟩:=ih (j+1) M (c-d.cons.length) (by omega) (by omega) (by omega) (by omega);refine⟨t,x,g1,?_⟩;rw[mJ (by simp;omega),<- g2,show nc (D.take j)+c=nc (D.take (j+1))+(c-d.cons.length) by omega];rfl
 obtain⟨t,x,g1,g2⟩:=key D.length 0 N c (by omega) (by omega) (by omega) (by simpa using hc);refine⟨t,x,by simpa using g1,?_⟩;unfold Cq;rw[show nc (D.take 0)+c=c by simp[nc],show (((0:Nat):Int))=0 from rfl]at g2;rw[g2];rfl
theorem Nw {D:List Ac}(hD:D.length<=1048576)(hn:nc D<=1048576){c:Int}(hc:c<0∨(nc D:Int)<=c){N:Nat}(hN:2000000<=N):Cq N D c=some (-1):=by
 unfold Cq;have key:∀{M j:Nat},j<=D.length->D.length-j<M->Dt N D c M j=some (.inr ()):=by
  intro M j hj hM;refine BZ D.length (λM j=>Dt N D c M j=some (.inr ())) ?_ ?_ hj hM
  ·intro n;rw[Dt,mJ (by simp[AM])]
  ·intro n j hj ih;obtain⟨d,hd,_⟩:=Bi hj;have hs:=Hy D (j+1);have ht:=NU hd;rw[Dt,mI (by simp[AM];omega),JN hD hn (by omega) hN,As hd];simp only[mA];rw[AM,BI (n:=(j:Int)+1) (by omega) (by omega),BI (n:=(nc (D.take j):Int)+(d.cons.length:Int)) (by omega) (by omega),BI (by omega) (by omega),Cp];simp only[mA];rw[mJ (by simp;omega)];exact ih
 have:=key (mV _) (by omega:D.length-0<N);rw[show (((0:Nat):Int))=0 from rfl]at this;rw[this];rfl
end RC
namespace RC
open Go
theorem bw {D:List Ac}:∀(m j c t:Nat) (x:Bh),D.length-j=m->j<=D.length->Mj (D.drop j) j c=some (t,x)->∃d,1<=t/\D[t-1]?=some d/\nc (D.take (t-1))<=nc (D.take j)+c/\d.cons[nc (D.take j)+c-nc (D.take (t-1))]?=some x:=by
 intro m
 induction m with
 | zero=>
  intro j c t x h1 h2 h;rw[oN (by omega)]at h;simp[Mj]at h
 | succ m ih=>
  intro j c t x h1 h2 h;obtain⟨d,hd,_⟩:=Bi (l:=D) (i:=j) (by omega);have ht:=NU hd;rw[drop_cons hd]at h;unfold Mj at h;cases hx:d.cons[c]? with
  | some y=>
   rw[hx]at h;simp only[mE,pn]at h;obtain⟨rfl,rfl⟩:=h;exact⟨d,by omega,by simpa using hd,by simp,by simpa using hx⟩
  | none=>
   rw[hx]at h;have hle:d.cons.length<=c:=by simpa using hx
   obtain⟨e,g1,g2,g3,g4⟩:=ih (j+1) (c-d.cons.length) t x (by omega) (by omega) h;rw[show nc (D.take (j+1))+(c-d.cons.length)=nc (D.take j)+c by omega]at g3 g4;exact⟨e,g1,g2,g3,g4⟩
theorem KN {D:List Ac}(hD:D.length<=1048576)(hn:nc D<=1048576){c:Nat}(hc:c<nc D){N:Nat}(hN:2000000<=N):∃t x,Mj D 0 c=some (t,x)/\CH N D c=some x.fields:=by
 obtain⟨t,x,e1,e2⟩:=OX hD hn hc hN;obtain⟨d,g1,g2,g3,g4⟩:=bw (D:=D) D.length 0 c t x (by omega) (by omega) (by simpa using e1);have rJ:=(mC.1 g2).1;have hs:=Hy D (t-1);rw[show nc (D.take 0)+c=c by simp[nc]]at g3 g4;refine⟨t,x,e1,?_⟩;unfold CH;rw[e2];simp only[mA];rw[mJ (by simp;omega),BI (n:=(t:Int)-1) (by omega) (by omega),show ((t:Int)-1)=((t-1:Nat):Int) by omega,As g2,JN hD hn (by omega) hN];simp only[mA];rw[BI (by omega) (by omega),show ((c:Int)-(nc (D.take (t-1)):Int))=((c-nc (D.take (t-1)):Nat):Int) by omega,As g4];rfl
theorem SQ {D:List Ac}(hD:D.length<=1048576)(hn:nc D<=1048576){c:Nat}(hc:c<nc D){N:Nat}(hN:2000000<=N):∃t x,Mj D 0 c=some (t,x)/\HF N D c=some x.fields:=by
 obtain⟨t,x,e1,e2⟩:=P7 hD hn hc hN;exact⟨t,x,e1,by unfold HF;rw[e2];rfl⟩
end RC
namespace RC
open Go
def E5 (D:List Ac)(t:Int):List Int:=
 if 1<=t/\t<=(D.length:Int) then (List.range ((D[(t-1).toNat]?).elim 0 (·.cons.length))).map λ(i:Nat)=>(nc (D.take (t-1).toNat):Int)+(i:Int) else []
theorem UL {f:Nat->Int}{i:Nat}:(List.range (i+1)).map f=(List.range i).map f++[f i]:=by rw[List.range_succ,mu];rfl
theorem PW {D:List Ac}(hD:D.length<=1048576)(hn:nc D<=1048576){t:Int}{N:Nat}(hN:2000000<=N):Ik N D t=some (E5 D t):=by
 unfold Ik E5;rw[Cp,AM];simp only[mA];by_cases h:1<=t/\t<=(D.length:Int)
 ·obtain⟨a,ha⟩ :∃a:Nat,t=(a:Int)+1:=⟨(t-1).toNat,by omega⟩
  subst ha;obtain⟨d,hd,_⟩:=Bi (l:=D) (i:=a) (by omega);have hs:=Hy D (a+1);have ht:=NU hd;rw[mJ (by simp;omega),mI h,show (((a:Int)+1)-1).toNat=a by omega,hd];simp only[ni];have key:∀{M i:Nat},i<=d.cons.length->d.cons.length-i<M->FP N D ((a:Int)+1) M i ((List.range i).map λ(i:Nat)=>(nc (D.take a):Int)+(i:Int))=some ((List.range d.cons.length).map λ(i:Nat)=>(nc (D.take a):Int)+(i:Int)):=by
   intro M i hi hM;refine BZ d.cons.length (λM i=>FP N D ((a:Int)+1) M i ((List.range i).map λ(i:Nat)=>(nc (D.take a):Int)+(i:Int))=some ((List.range d.cons.length).map λ(i:Nat)=>(nc (D.take a):Int)+(i:Int))) ?_ ?_ hi hM
   ·intro n;rw[FP,BI (by omega) (by omega),show ((a:Int)+1-1)=((a:Nat):Int) by omega,As hd];simp only[mA];rw[mJ (by simp[AM])]
   ·intro n i hi ih;rw[FP,BI (n:=(a:Int)+1-1) (by omega) (by omega),show ((a:Int)+1-1)=((a:Nat):Int) by omega,As hd];simp only[mA];rw[mI (by simp[AM];omega),JN hD hn (by omega) hN];simp only[mA];rw[CS _ _ _ (by simp;omega) (by simp;omega),BI (n:=(i:Int)+1) (by omega) (by omega),BI (by omega) (by omega),show ((i:Int)+1)=((i+1:Nat):Int) by omega];simp only[mA];rw[<- ih,UL]
  have:=key (mV _) (by omega:d.cons.length-0<N);rw[show (((0:Nat):Int))=0 from rfl,List.range_zero,oI]at this;rw[this];rfl
 ·rw[mI (by simp;omega),mJ h]
theorem Uo {D:List Ac}(hD:D.length<=1048576)(hn:nc D<=1048576){t:Int}{N:Nat}(hN:2000000<=N):Kx N D t=some (E5 D t):=by
 unfold Kx E5;rw[AM];by_cases h:1<=t/\t<=(D.length:Int)
 ·obtain⟨a,ha⟩ :∃a:Nat,t=(a:Int)+1:=⟨(t-1).toNat,by omega⟩
  subst ha;obtain⟨d,hd,_⟩:=Bi (l:=D) (i:=a) (by omega);have hs:=Hy D (a+1);have hs0:=Hy D a;have ht:=NU hd;have e1:¬ ((a:Int)+1<1):=by omega
  have e2:¬ ((D.length:Int)<(a:Int)+1):=by omega
  rw[mI h,show (((a:Int)+1)-1).toNat=a by omega,hd,BI (by omega) (by omega),show ((a:Int)+1-1)=((a:Nat):Int) by omega,Zp (by omega) (by omega),As hd];simp only[ni,e1,e2,mY,mF,mW,mA];rw[Sw (by simp;omega) (by omega) hN];simp only[mA];have key:∀{M i:Nat},i<=d.cons.length->d.cons.length-i<M->FU d (nc (D.take a):Int) M i ((List.range i).map λ(i:Nat)=>(nc (D.take a):Int)+(i:Int))=some ((List.range d.cons.length).map λ(i:Nat)=>(nc (D.take a):Int)+(i:Int)):=by
   intro M i hi hM;refine BZ d.cons.length (λM i=>FU d (nc (D.take a):Int) M i ((List.range i).map λ(i:Nat)=>(nc (D.take a):Int)+(i:Int))=some ((List.range d.cons.length).map λ(i:Nat)=>(nc (D.take a):Int)+(i:Int))) ?_ ?_ hi hM
   ·intro n;rw[FU,mJ (by simp[AM])]
   ·intro n i hi ih;rw[FU,mI (by simp[AM];omega)];rw[CS _ _ _ (by simp;omega) (by simp;omega),BI (n:=(i:Int)+1) (by omega) (by omega),BI (by omega) (by omega),show ((i:Int)+1)=((i+1:Nat):Int) by omega];simp only[mA];rw[<- ih,UL]
  have:=key (mV _) (by omega:d.cons.length-0<N);rw[show (((0:Nat):Int))=0 from rfl,List.range_zero,oI]at this;rw[this];rfl
 ·rw[mJ h];by_cases e1:t<1
  ·simp[e1]
  ·have e2:(D.length:Int)<t:=by omega
   simp[e1,e2]
end RC
namespace RC
open Go
theorem Vq {α:Type}{l:List α}(f:α->Nat)(L:Nat->Int->Int->Option (Int ⊕ Int))(h0 :∀n left,L (n+1) left (l.length:Int)=some (.inr left))
  (hs :∀n (i:Nat) x left,l[i]?=some x->0<=left->left<=1048576->L (n+1) left (i:Int)=if left-(f x:Int)<0 then some (.inl (-1)) else L n (left-(f x:Int)) ((i+1:Nat):Int))
  {N:Nat} (hN:l.length<N) {left:Int} (hl0:0<=left) (hl1:left<=1048576):L N left 0=some (if left-((l.map f).sum:Nat)<0 then .inl (-1) else .inr (left-((l.map f).sum:Nat))):=by
 have key:∀{N i:Nat},i<=l.length->l.length-i<N->∀left:Int,0<=left->left<=1048576->L N left (i:Int)=some (if left-(((l.drop i).map f).sum:Nat)<0 then .inl (-1) else .inr (left-(((l.drop i).map f).sum:Nat))):=by
  intro N i hi hN;refine BZ l.length (λN i=>∀left:Int,0<=left->left<=1048576->L N left (i:Int)=some (if left-(((l.drop i).map f).sum:Nat)<0 then .inl (-1) else .inr (left-(((l.drop i).map f).sum:Nat)))) ?_ ?_ hi hN
  ·intro n left a b;rw[h0,oa];simp;omega
  ·intro n i hi ih left a b;obtain⟨x,hx,_⟩:=Bi hi;rw[hs n i x left hx a b,drop_cons hx,mg,oR];by_cases h:left-(f x:Int)<0
   ·rw[mI h,mI (by omega)]
   ·rw[mJ h,ih (left-(f x:Int)) (by omega) (by omega)];rw[show left-((f x+(List.map f (l.drop (i+1))).sum:Nat):Int)=left-(f x:Int)-((List.map f (l.drop (i+1))).sum:Nat) by omega]
 have:=key (mV _) (by omega:l.length-0<N) left hl0 hl1;simpa using this
theorem WD {α:Type}{l:List α}(L:Nat->Int->List α->Option (List α))(h0 :∀n m,L (n+1) (l.length:Int) m=some m)
  (hs :∀n (i:Nat) x m,l[i]?=some x->m.length=l.length->L (n+1) (i:Int) m=L n ((i+1:Nat):Int) (m.set i x)) {N:Nat} (hN:l.length<N) {m:List α} (hm:m.length=l.length):L N 0 m=some l:=by
 have key:∀{N i:Nat},i<=l.length->l.length-i<N->∀m:List α,m.length=l.length->m.take i=l.take i->L N (i:Int) m=some l:=by
  intro N i hi hN;refine BZ l.length (λN i=>∀m:List α,m.length=l.length->m.take i=l.take i->L N (i:Int) m=some l) ?_ ?_ hi hN
  ·intro n m a b;rw[h0];rw[nI,<- a,nI]at b;rw[b]
  ·intro n i hi ih m a b;obtain⟨x,hx,_⟩:=Bi hi;rw[hs n i x m hx a];refine ih (m.set i x) (by simp[a]) ?_;have tO:(m.set i x)[i]?=some x:=by rw[mN (by omega)]
   rw[EA tO,EA hx,<- b,oY (mS _)]
 exact key (mV _) (by omega:l.length-0<N) m hm rfl
end RC
namespace RC
open Go
def VT (left:Int)(s:Nat):Int:=if left-s<0 then -1 else left-s
theorem Fc {left:Int}{s:Nat}(h:left-s<0):VT left s=-1:=mI h
theorem Hc {left:Int}{s:Nat}(h:¬ left-s<0):VT left s=left-s:=mJ h
def cz (c:Bh):Nat:=c.fields.length
def dz (d:Ac):Nat:=d.cons.length+(d.cons.map cz).sum
theorem eH {c:Bh}(hc:S9 c){left:Int}(h0:0<=left)(h1:left<=1048576):MB c left=some (VT left (cz c)):=by
 unfold MB;rw[PQ h0 h1 hc.fields.2];unfold VT cz;by_cases h:left-(c.fields.length:Int)<0
 ·rw[mI h];rfl
 ·rw[mJ h];simp[h]
theorem bZ {l:List Bh}(hl:FO S9 l){left:Int}(h0:0<=left)(h1:left<=1048576){N:Nat}(hN:2000000<=N):LJ N l left=some (VT left (l.length+(l.map cz).sum)):=by
 unfold LJ;have hlen:=hl.2;rw[AM,BI (by omega) (by omega)];by_cases h:left-(l.length:Int)<0
 ·rw[mI (by simpa using h),Fc (by omega)]
 ·rw[mJ (by simpa using h),Vq (l:=l) cz (F3 l) (λn left=>by rw[F3,mJ (by simp[AM])]) (λn i x left hx a b=>?_) (by omega) (by omega) (by omega)]
  ·by_cases g:left-(l.length:Int)-((l.map cz).sum:Nat)<0
   ·rw[mI g,Fc (by omega)];rfl
   ·rw[mJ g,Hc (by omega)];show some _=some _;congr 1;omega
  ·have hi:=(mC.1 hx).1;rw[F3,mI (by simp[AM];omega),As hx];simp only[mA];rw[eH (hl.1 x (mB hx)) a b,BI (by omega) (by omega),show ((i:Int)+1)=((i+1:Nat):Int) by omega];simp only[mA];by_cases g:left-(cz x:Int)<0
   ·rw[mI g,Fc g];rfl
   ·rw[mJ g,Hc g,mJ (by simpa using g)]
end RC
namespace RC
open Go
theorem aV {d:Ac}(hd:Py d){left:Int}(h0:0<=left)(h1:left<=1048576){N:Nat}(hN:2000000<=N):LB N d left=some (VT left (dz d)):=by
 unfold LB;rw[bZ hd.cons h0 h1 hN];simp only[mA];by_cases a:left-((d.cons.length+(d.cons.map cz).sum:Nat):Int)<0
 ·rw[Fc a,Fc (by unfold dz;omega)];rfl
 ·rw[Hc a,mJ (by simpa using a),Hc (by unfold dz;omega)];rfl
theorem ZV {l:List Ac}(hl:FO Py l){left:Int}(h0:0<=left)(h1:left<=1048576){N:Nat}(hN:2000000<=N):Jy N l left=some (VT left (l.length+(l.map dz).sum)):=by
 unfold Jy;have hlen:=hl.2;rw[AM,BI (by omega) (by omega)];by_cases h:left-(l.length:Int)<0
 ·rw[mI (by simpa using h),Fc (by omega)]
 ·rw[mJ (by simpa using h),Vq (l:=l) dz (Fb N l) (λn left=>by rw[Fb,mJ (by simp[AM])]) (λn i x left hx a b=>?_) (by omega) (by omega) (by omega)]
  ·by_cases g:left-(l.length:Int)-((l.map dz).sum:Nat)<0
   ·rw[mI g,Fc (by omega)];rfl
   ·rw[mJ g,Hc (by omega)];show some _=some _;congr 1;omega
  ·have hi:=(mC.1 hx).1;rw[Fb,mI (by simp[AM];omega),As hx];simp only[mA];rw[aV (hl.1 x (mB hx)) a b hN,BI (by omega) (by omega),show ((i:Int)+1)=((i+1:Nat):Int) by omega];simp only[mA];by_cases g:left-(dz x:Int)<0
   ·rw[mI g,Fc g];rfl
   ·rw[mJ g,Hc g,mJ (by simpa using g)]
end RC
namespace RC
open Go
end RC
namespace RC
open Go
def jn (op:Int):Bool:=(decide (0<=op)&&decide (op<=11)&&!decide (op=7)&&!decide (op=8)) || decide (op=18) || decide (op=19)
def preB (p:bS)(i:Yz):Bool:=
 (decide (0<=i.dst)&&decide (i.dst<p.ln))&&(decide (i.dst=0) || jn i.op)&&(decide (i.BB=0) || decide (i.op=6))&&(decide (i.op=21) || decide (i.jumps.length=0))
end RC
namespace RC
open Go
section
variable {im : ix} {p : bS} {at_ : Nat} {i : Yz} {N : Nat}
end
end RC
namespace RC
open Go
theorem GQ {α:Type}(f:α->Nat){l:List α}{x:α}(h:x∈l):f x<=(l.map f).sum:=by
 induction l with
 | nil=>cases h
 | cons y r ih=>
  rw[mg,oR];rcases mc.1 h with rfl|h
  ·omega
  ·have:=ih h;omega
theorem eO {c:Bh}(h:cz c<=1048576){N:Nat}(hN:2000000<=N):L9 N c=some c:=by
 unfold cz at h;unfold L9;rw[PN h hN];rfl
theorem aa {l:List Bh}(hl:l.length+(l.map cz).sum<=1048576){N:Nat}(hN:2000000<=N):Kh N l=some l:=by
 unfold Kh;rw[AM,NA _ _ _ (by omega) (by omega)];simp only[mA];rw[WD (l:=l) (F5 N l) (λn m=>by rw[F5,mJ (by simp[AM])]) (λn i x m hx hm=>?_) (by omega) (by simp)]
 ·rfl
 ·have hi:=(mC.1 hx).1;have hz:=GQ cz (mB hx);obtain⟨y,hy,_⟩:=Bi (l:=m) (i:=i) (by omega);rw[F5,mI (by simp[AM];omega),As hx];simp only[mA];rw[eO (by omega) hN,As hy];simp only[mA];rw[NR,BI (by omega) (by omega),show ((i:Int)+1)=((i+1:Nat):Int) by omega]
theorem bO {d:Ac}(h:dz d<=1048576){N:Nat}(hN:2000000<=N):LK N d=some d:=by
 unfold dz at h;unfold LK;rw[aa h hN];rfl
theorem aP {l:List Ac}(hl:l.length+(l.map dz).sum<=1048576){N:Nat}(hN:2000000<=N):J1 N l=some l:=by
 unfold J1;rw[AM,NA _ _ _ (by omega) (by omega)];simp only[mA];rw[WD (l:=l) (Fh N l) (λn m=>by rw[Fh,mJ (by simp[AM])]) (λn i x m hx hm=>?_) (by omega) (by simp)]
 ·rfl
 ·have hi:=(mC.1 hx).1;have hz:=GQ dz (mB hx);obtain⟨y,hy,_⟩:=Bi (l:=m) (i:=i) (by omega);rw[Fh,mI (by simp[AM];omega),As hx];simp only[mA];rw[bO (by omega) hN,As hy];simp only[mA];rw[NR,BI (by omega) (by omega),show ((i:Int)+1)=((i+1:Nat):Int) by omega]
end RC
namespace RC
open Go
theorem df {c:Bh}(h:cz c<=1048576){N:Nat}(hN:2000000<=N):MJ N c c=some true:=by
 unfold cz at h;unfold MJ;rw[O7 h hN];rfl
theorem bh {l:List Bh}(hl:l.length+(l.map cz).sum<=1048576){N:Nat}(hN:2000000<=N):Kq N l l=some true:=by
 unfold Kq;have L:=DE (l:=l) (F4 N l l) (λ_ _=>true) (λn=>by rw[F4,mJ (by simp[AM])]) (λn i x hx=>?_) (by omega:l.length<N)
 ·rw[D6 (p:=λ_=>true)]at L;simp[L,Sh.cont]
 ·have hi:=(mC.1 hx).1;have hz:=GQ cz (mB hx);rw[F4,mI (by simp[AM];omega),As hx];simp only[mA];rw[df (by omega) hN,BI (by omega) (by omega),show ((i:Int)+1)=((i+1:Nat):Int) by omega];rfl
theorem bj {d:Ac}(h:dz d<=1048576){N:Nat}(hN:2000000<=N):Kl N d d=some true:=by
 unfold dz at h;unfold Kl;rw[bh h hN];simp
theorem Zs {l:List Ac}(hl:l.length+(l.map dz).sum<=1048576){N:Nat}(hN:2000000<=N):J4 N l l=some true:=by
 unfold J4;have L:=DE (l:=l) (Fa N l l) (λ_ _=>true) (λn=>by rw[Fa,mJ (by simp[AM])]) (λn i x hx=>?_) (by omega:l.length<N)
 ·rw[D6 (p:=λ_=>true)]at L;simp[L,Sh.cont]
 ·have hi:=(mC.1 hx).1;have hz:=GQ dz (mB hx);rw[Fa,mI (by simp[AM];omega),As hx];simp only[mA];rw[bj (by omega) hN,BI (by omega) (by omega),show ((i:Int)+1)=((i+1:Nat):Int) by omega];rfl
end RC
namespace RC
open Go
end RC
namespace RC
open Go
mutual
def en:Dy->Nat|.mk _ _ k=>1+ll k
def ll:List Dy->Nat|[]=>0|e::l=>en e+ll l
end
end RC
namespace RC
open Go
theorem Nm {α:Type}{g:Nat->α->Bool}:∀(l:List α) (k:Nat),EH g k l=true↔∀(i:Nat) x,l[i]?=some x->g (k+i) x=true
 | [],_=>by simp[EH]
 | x::r,k=>by
  rw[EH,mQ,Nm r (k+1)];constructor
  ·rintro⟨h1,h2⟩ i y hy;cases i with
   | zero=>simp only[me,mE]at hy;subst hy;exact h1
   | succ i=>have:=h2 i y hy;rw[show k+(i+1)=k+1+i by omega];exact this
  ·intro h;exact⟨h 0 x rfl,λi y hy=>by have:=h (i+1) y hy;rw[show k+(i+1)=k+1+i by omega]at this;exact this⟩
theorem YF {a b:List Int}(h:a.length=b.length):EH (λi x=>decide (b[i]?=some x)) 0 a=decide (a=b):=by
 rw[Bool.eq_iff_iff,Nm,oV];constructor
 ·intro g;refine pJ λi=>?_;by_cases hi:i<a.length
  ·obtain⟨x,hx,_⟩:=Bi hi;have:=g i x hx;rw[oV,nS]at this;rw[hx,this]
  ·rw[nH (by omega),nH (by omega)]
 ·rintro rfl i x hx;rw[oV,nS,hx]
theorem OK {a b:List Int}(ha:a.length<=1048576){N:Nat}(hN:2000000<=N):Cw N a b=some (decide (a=b)):=by
 unfold Cw;by_cases h:a.length=b.length
 ·rw[mJ (by simp[AM,h]),DE (l:=a) (Ck a b) (λi x=>decide (b[i]?=some x)) (λn=>by rw[Ck,mJ (by simp[AM])]) (λn i x hx=>?_) (by omega),Du,YF h]
  ·cases decide (a=b)<;>rfl
  ·have hi:=(mC.1 hx).1;obtain⟨y,hy,_⟩:=Bi (l:=b) (i:=i) (by omega);rw[Ck,mI (by simp[AM];omega),As hx];simp only[mA];rw[As hy,hy,BI (by omega) (by omega),show ((i:Int)+1)=((i+1:Nat):Int) by omega];simp only[mA];by_cases e:x=y
   ·simp[e]
   ·have e':¬ y=x:=λq=>e q.symm;simp[e,e']
 ·have rV:¬ a=b:=λe=>h (by rw[e]);have h':¬ ((a.length:Int)=(b.length:Int)):=by omega
  simp[AM,h',rV]
structure OD (D:List Ac) (F:List IK):Prop where
 PX:D.length<=4
 Vr :∀d∈D,d.cons.length<=3
 Od :∀d∈D,∀c∈d.cons,c.fields.length<=3/\∀t∈c.fields,DN D t=true
 lI :∀d∈D,DN D d.from_=true/\DN D d.to=true
 jR:F.length<=4
 cO :∀f∈F,f.params.length<=3/\(∀t∈f.params,DN D t=true)/\DN D f.result=true
theorem er {D:List Ac}(h :∀d∈D,d.cons.length<=3):nc D<=3*D.length:=by
 induction D with
 | nil=>simp[nc]
 | cons d r ih=>
  have h1:=h d (by simp);have h2:=ih λe he=>h e (by simp[he]);simp only[nc,mg,oR,mf]at h2⊢;omega
theorem OD.nc {D:List Ac}{F:List IK}(S:OD D F):nc D<=12:=by have:=er S.Vr;have:=S.PX;omega
theorem Ny {D:List Ac}{t:Int}(h:DN D t=true):0<=t/\t<=(D.length:Int):=by
 unfold DN at h;simpa using h
theorem OD.of {p:EM}(h:QZ p.decls (p.funcs.map λf=>(f.params,f.result))=true):OD p.decls p.funcs:=by
 unfold QZ at h;simp only[mQ,mO,pw,mX]at h;obtain⟨h1,⟨_,h2⟩,h3,_⟩:=h;unfold Nu at h1;simp only[mQ,mX]at h1;obtain⟨h4,h5⟩:=h1;rw[Nm]at h5;have hd:∀d∈p.decls,∃i,MW p.decls i d=true:=λd hd=>by
  obtain⟨i,hi⟩:=ma.1 hd;exact⟨_,h5 i d hi⟩
 refine⟨h4,λd hm=>?_,λd hm c hc=>?_,λd hm=>?_,h2,λf hf=>?_⟩
 ·obtain⟨i,hi⟩:=hd d hm;unfold MW at hi;split at hi
  ·simp only[mQ,mX]at hi;exact hi.1.1
  ·omega
 ·obtain⟨i,hi⟩:=hd d hm;unfold MW at hi;split at hi
  ·simp only[mQ,mX,mL]at hi;have:=hi.2 c hc;unfold RQ at this;simp only[mQ,mX,mL]at this;exact this
  ·have:=oH hc;omega
 ·obtain⟨i,hi⟩:=hd d hm;unfold MW at hi;split at hi
  ·simp only[mQ,mX]at hi;rw[hi.1.2.1,hi.1.2.2];have:DN p.decls 0=true:=by unfold DN;simp
   exact⟨this,this⟩
  ·simp only[mQ]at hi;exact hi.2
 ·have:=mL.1 h3 f hf;simp only[Function.comp,OL,mQ,mX,mL]at this;exact this
section
variable {p : EM} {sg : Ag} {R1 : EM -> List Int -> Dy -> Option Int} {R2 : List Int -> Ag -> Dy -> Option Int} {T : List Int -> Dy -> Int} {e : Dy} {v : List Int} {N : Nat}
def Gr:List Int->Int
 | []=>-1
 | t::r=>if r.all (λx=>decide (x=t))=true then t else -1
end
end RC
namespace RC
open Go
theorem cf {n:Int}(h1:n < -9223372036854775808)(h2:-18446744073709551616<=n):Sh.w n=n+18446744073709551616:=by
 unfold Sh.w;rw[IntKind.wrap_i64];omega
theorem U3 {D:List Ac}(hD:D.length<=1048576)(hn:nc D<=1048576){c:Int}(hI:KZ c)(hc:c<0∨(nc D:Int)<=c){N:Nat}(hN:2000000<=N):IS N D c=some (-1,⟨[]⟩):=by
 have key:∀(m j N:Nat) (c:Int),D.length-j=m->j<=D.length->m<N->KZ c->(c<0∨(nc (D.drop j):Int)<=c)->FL D N c j=some (.inr ()):=by
  intro m
  induction m with
  | zero=>
   intro j N c h1 h2 h3 _ _;obtain⟨N,rfl⟩ :∃n,N=n+1:=⟨N-1,by omega⟩
   rw[FL,mJ (by simp[AM];omega)]
  | succ m ih=>
   intro j N c h1 h2 h3 hI h4;obtain⟨N,rfl⟩ :∃n,N=n+1:=⟨N-1,by omega⟩
   obtain⟨d,hd,_⟩:=Bi (l:=D) (i:=j) (by omega);have hs:=Hy D j;rw[Sq hd]at h4 hs;rw[FL,mI (by simp[AM];omega),As hd];simp only[mA];have wJ:=hI.1;have xY:=hI.2;have e1:¬ (0<=c/\c<(d.cons.length:Int)):=by omega
   have e2:(if decide (0<=c)=true then some (decide (c<Sh.len d.cons)) else some false)=some false:=by
    by_cases h0:0<=c
    ·have:¬ c<(d.cons.length:Int):=by omega
     simp[h0,AM,this]
    ·simp[h0]
   rw[BI (n:=(j:Int)+1) (by omega) (by omega),show ((j:Int)+1)=((j+1:Nat):Int) by omega,AM];rw[AM]at e2;by_cases h5:c-(d.cons.length:Int) < -9223372036854775808
   ·have:=ih (j+1) N (Sh.w (c-(d.cons.length:Int))) (by omega) (by omega) (by omega) (by rw[cf h5 (by omega)];unfold KZ;omega) (by rw[cf h5 (by omega)];omega);rw[e2];simp only[mA,mF,mW];exact this
   ·have:=ih (j+1) N (Sh.w (c-(d.cons.length:Int))) (by omega) (by omega) (by omega) (by rw[BI (by omega) (by omega)];unfold KZ;omega) (by rw[BI (by omega) (by omega)];omega);rw[e2];simp only[mA,mF,mW];exact this
 have:=key D.length 0 N c (by omega) (by omega) (by omega) hI (by simpa using hc);unfold IS;rw[show (((0:Nat):Int))=0 from rfl]at this;rw[this];rfl
theorem Qn:∀{D:List Ac} {k c t:Nat} {x:Bh},Mj D k c=some (t,x)->k<t/\t<=k+D.length/\∃d∈D,x∈d.cons
 | [],_,_,_,_,h=>by simp[Mj]at h
 | d::r,k,c,t,x,h=>by
  unfold Mj at h;cases hx:d.cons[c]? with
  | some y=>
   rw[hx]at h;simp only[mE,pn]at h;obtain⟨rfl,rfl⟩:=h;exact⟨by omega,by simp,d,by simp,mB hx⟩
  | none=>
   rw[hx]at h;obtain⟨h1,h2,e,h3,h4⟩:=Qn h;exact⟨by omega,by simp;omega,e,by simp[h3],h4⟩
def Te (a b:Int)(d:Ac):Bool:=decide (d.cons.length=0)&&(decide (d.from_=a)&&decide (d.to=b))
def JA (a b:Int):List Ac->Nat->Int
 | [],_=>-1
 | d::r,k=>if Te a b d=true then (k:Int)+1 else JA a b r (k+1)
theorem Zh {a b:Int}:∀(l:List Ac) (k:Nat),JA a b l k=-1∨((k:Int)<JA a b l k/\JA a b l k<=k+l.length)
 | [],_=>.inl rfl
 | d::r,k=>by
  unfold JA;by_cases h:Te a b d=true
  ·rw[mI h];right;simp only[mf];omega
  ·rw[mJ h];rcases Zh r (k+1) with h1|h1
   ·exact .inl h1
   ·right;simp only[mf];omega
theorem Xi {a b:Int}{d:Ac}:(if decide ((Sh.len d.cons)=0)=true then if decide (d.from_=a)=true then some (decide (d.to=b)) else some false else some false)=some (Te a b d):=by
 unfold Te;by_cases h1:d.cons.length=0<;>by_cases h2:d.from_=a<;>simp[AM,h1,h2]
theorem TX {D:List Ac}(hD:D.length<=1048576){a b:Int}{N:Nat}(hN:2000000<=N):I4 N D a b=some (JA a b D 0):=by
 unfold I4;have key:∀{M i:Nat},i<=D.length->D.length-i<M->Sh.cont (E2 D a b M i) id (λ()=>some (-1))=some (JA a b (D.drop i) i):=by
  intro M i hi hM;refine BZ D.length (λM i=>Sh.cont (E2 D a b M i) id (λ()=>some (-1))=some (JA a b (D.drop i) i)) ?_ ?_ hi hM
  ·intro n;rw[E2,mJ (by simp[AM])];simp[JA,Sh.cont]
  ·intro n i hi ih;obtain⟨d,hd,_⟩:=Bi hi;rw[E2,mI (by simp[AM];omega),As hd,drop_cons hd];simp only[mA];rw[Xi,BI (by omega) (by omega),show ((i:Int)+1)=((i+1:Nat):Int) by omega];simp only[mA,JA];by_cases h:Te a b d=true
   ·rw[mI h,mI h];simp[Sh.cont]
   ·rw[mJ h,mJ h,ih]
 have:=key (mV _) (by omega:D.length-0<N);simpa using this
theorem Tm {D:List Ac}(hD:D.length<=1048576){a b:Int}{N:Nat}(hN:2000000<=N):J0 N D a b=some (JA a b D 0):=by
 unfold J0;have key:∀{M i:Nat},i<=D.length->D.length-i<M->Sh.cont (Ez D a b M i) id (λ()=>some (-1))=some (JA a b (D.drop i) i):=by
  intro M i hi hM;refine BZ D.length (λM i=>Sh.cont (Ez D a b M i) id (λ()=>some (-1))=some (JA a b (D.drop i) i)) ?_ ?_ hi hM
  ·intro n;rw[Ez,mJ (by simp[AM])];simp[JA,Sh.cont]
  ·intro n i hi ih;obtain⟨d,hd,_⟩:=Bi hi;rw[Ez,mI (by simp[AM];omega),As hd,drop_cons hd];simp only[mA];rw[Xi,BI (by omega) (by omega),show ((i:Int)+1)=((i+1:Nat):Int) by omega];simp only[mA,JA];by_cases h:Te a b d=true
   ·rw[mI h,mI h];simp[Sh.cont]
   ·rw[mJ h,mJ h,ih]
 have:=key (mV _) (by omega:D.length-0<N);simpa using this
def LF (D:List Ac)(t:Int):Option Ac:=if 1<=t/\t<=(D.length:Int) then (D[(t-1).toNat]?).bind λd=>if d.cons.length=0 then some d else none else none
theorem Xd {D:List Ac}{t:Int}{d:Ac}(h:LF D t=some d):d∈D/\1<=t/\t<=(D.length:Int)/\D[(t-1).toNat]?=some d:=by
 unfold LF at h;split at h
 ·rename_i h1;obtain⟨e,he,h2⟩:=mn.1 h;split at h2
  ·cases h2;exact⟨mB he,h1.1,h1.2,he⟩
  ·cases h2
 ·cases h
theorem Ot {D:List Ac}(hD:D.length<=1048576){t:Int}:Gs D t=some ((LF D t).elim (⟨0,0,[]⟩,false) λd=>(d,true)):=by
 unfold Gs LF;by_cases h:1<=t/\t<=(D.length:Int)
 ·obtain⟨a,ha⟩ :∃a:Nat,t=(a:Int)+1:=⟨(t-1).toNat,by omega⟩
  subst ha;obtain⟨d,hd,_⟩:=Bi (l:=D) (i:=a) (by omega);have e1:¬ ((a:Int)+1<1):=by omega
  have e2:¬ ((D.length:Int)<(a:Int)+1):=by omega
  rw[mI h,BI (by omega) (by omega),show ((a:Int)+1-1)=((a:Nat):Int) by omega,As hd,nj,hd];by_cases h2:d.cons.length=0
  ·have zO:d.cons=[]:=mh h2;simp[e1,e2,AM,zO]
  ·have h3:0<d.cons.length:=by omega
   have zO:¬ d.cons=[]:=λq=>h2 (by rw[q];rfl);simp[e1,e2,AM,zO,h3]
 ·rw[mJ h];by_cases h1:t<1
  ·simp[h1]
  ·have h2:(D.length:Int)<t:=by omega
   simp[h1,AM,h2]
theorem Oj {D:List Ac}(hD:D.length<=1048576){t:Int}:Gq D t=some (LF D t).isSome:=by
 unfold Gq LF;rw[Cp];by_cases h:1<=t/\t<=(D.length:Int)
 ·obtain⟨a,ha⟩ :∃a:Nat,t=(a:Int)+1:=⟨(t-1).toNat,by omega⟩
  subst ha;obtain⟨d,hd,_⟩:=Bi (l:=D) (i:=a) (by omega);have e1:((1:Int)<=(a:Int)+1):=by omega
  have e2:((a:Int)+1<=(D.length:Int)):=by omega
  rw[mI h,BI (by omega) (by omega),show ((a:Int)+1-1)=((a:Nat):Int) by omega,As hd,nj,hd];by_cases h2:d.cons=[]<;>simp[e1,e2,AM,h2]
 ·rw[mJ h];have:(decide (1<=t)&&decide (t<=Sh.len D))=false:=by
   rw[AM];by_cases h1:1<=t
   ·have h2:¬ t<=(D.length:Int):=λq=>h ⟨h1,q⟩;simp[h1,h2]
   ·simp[h1]
  simp[this]
section
variable {p : EM} {sg : Ag} {R1 : EM -> List Int -> Dy -> Option Int} {R2 : List Int -> Ag -> Dy -> Option Int} {T : List Int -> Dy -> Int} {e : Dy} {v : List Int} {N : Nat}
end
end RC
namespace RC
open Go
section
variable {p : EM} {R1 : EM -> List Int -> Dy -> Option Int} {R2 : List Int -> Ag -> Dy -> Option Int} {T : List Int -> Dy -> Int} {e : Dy} {v : List Int} {N : Nat}
theorem kv {D:List Ac}:DN D 0=true:=by unfold DN;simp
theorem len_nil {α:Type}{l:List α}:decide ((Sh.len l)=0)=decide (l=[]):=by
 cases l with
 | nil=>rfl
 | cons x r=>exact nZ.2 (by rw[AM,mf];exact⟨λh=>by omega,λh=>nomatch h⟩)
end
end RC
namespace RC
open Go
section
variable {p : EM} {R1 : EM -> List Int -> Dy -> Option Int} {R2 : List Int -> Ag -> Dy -> Option Int} {T : List Int -> Dy -> Int} {e : Dy} {v : List Int} {N : Nat}
theorem ZJ {α:Type}{l:List α}{m:Nat}(h:m<=l.length):Sh.sl l 0 (m:Int)=some (l.take m):=by
 unfold Sh.sl;rw[mI ⟨by omega,by omega,by omega⟩];simp
end
end RC
namespace RC
open Go
def NJ (D:List Ac)(c:Int):List Int:=(Mj D 0 c.toNat).elim [] λx=>x.2.fields
theorem bJ {D:List Ac}{t c:Int}(h:c∈E5 D t):∃k:Nat,c=(k:Int)/\k<nc D:=by
 unfold E5 at h;split at h
 ·rename_i h1;obtain⟨a,ha⟩ :∃a:Nat,t=(a:Int)+1:=⟨(t-1).toNat,by omega⟩
  subst ha;obtain⟨d,hd,_⟩:=Bi (l:=D) (i:=a) (by omega);rw[show (((a:Int)+1)-1).toNat=a by omega,hd]at h;simp only[ni,mU,oL]at h;obtain⟨i,hi,rfl⟩:=h;have hs:=Hy D a;rw[Sq hd]at hs;exact⟨nc (D.take a)+i,by omega,by omega⟩
 ·cases h
theorem NQ {D:List Ac}(h :∀d∈D,d.cons.length<=3)(t:Int):(E5 D t).length<=3:=by
 unfold E5;split
 ·rename_i h1;obtain⟨a,ha⟩ :∃a:Nat,t=(a:Int)+1:=⟨(t-1).toNat,by omega⟩
  subst ha;obtain⟨d,hd,hm⟩:=Bi (l:=D) (i:=a) (by omega);rw[show (((a:Int)+1)-1).toNat=a by omega,hd];simp only[ni,mO,List.length_range];exact h d hm
 ·simp
theorem PR {D:List Ac}{F:List IK}(S:OD D F){t c:Int}(h:c∈E5 D t){N:Nat}(hN:2000000<=N):CH N D c=some (NJ D c)/\HF N D c=some (NJ D c)/\(NJ D c).length<=3/\∀x∈NJ D c,DN D x=true:=by
 obtain⟨k,rfl,hk⟩:=bJ h;have hD:=S.PX;have hn:=S.nc;obtain⟨t,x,e1,e2⟩:=KN (D:=D) (by omega) (by omega) hk hN;obtain⟨t',x',xb,e3⟩:=SQ (D:=D) (by omega) (by omega) hk hN;rw[e1]at xb;cases xb;obtain⟨_,_,d,g3,g4⟩:=Qn e1;have hf:NJ D (k:Int)=x.fields:=by unfold NJ;rw[nj,e1];rfl
 rw[hf];exact⟨e2,e3,S.Od d g3 x g4⟩
section
variable {p : EM} {R1 : EM -> List Int -> Dy -> Option Int} {R2 : List Int -> Ag -> Dy -> Option Int} {T : List Int -> Dy -> Int} {e : Dy} {v : List Int} {N : Nat}
end
end RC
namespace RC
open Go
end RC
namespace RC
open Go
end RC
namespace RC
open Go
mutual
def Mz:Step->Nat|.mk _ _ _ a k=>a.length+k.length+Ka k
def Ka:List (Gh Step)->Nat|[]=>0|b::k=>Ib b+Ka k
def Ib:Gh Step->Nat|⟨ss,_⟩=>ss.length+Jh ss
def Jh:List Step->Nat|[]=>0|s::l=>Mz s+Jh l
end
theorem Mo (s:Step):Mz s=s.args.length+s.kids.length+Ka s.kids:=by cases s;simp[Mz,Step.args,Step.kids]
theorem Mq (b:Block):Ib b=b.steps.length+Jh b.steps:=by cases b;simp[Ib]
theorem dy {k:List Block}{i:Nat}{b:Block}(h:k[i]?=some b):Ka (k.drop i)=Ib b+Ka (k.drop (i+1)):=by rw[drop_cons h];simp[Ka]
theorem eT {l:List Step}{i:Nat}{s:Step}(h:l[i]?=some s):Jh (l.drop i)=Mz s+Jh (l.drop (i+1)):=by rw[drop_cons h];simp[Jh]
theorem gX {k:List Block}{b:Block}(h:b∈k):Ib b<=Ka k:=by
 induction k with
 | nil=>cases h
 | cons c k ih=>
  simp only[Ka];rcases mc.1 h with rfl|h
  ·omega
  ·have:=ih h;omega
theorem aD {l:List Step}{s:Step}(h:s∈l):Mz s<=Jh l:=by
 induction l with
 | nil=>cases h
 | cons c l ih=>
  simp only[Jh];rcases mc.1 h with rfl|h
  ·omega
  ·have:=ih h;omega
inductive JL:Step->Prop where
 | mk {s:Step}:KZ s.op->KZ s.num->KZ s.BB->FO KZ s.args->s.kids.length<=9223372036854775807->(∀b∈s.kids,b.steps.length<=9223372036854775807)->(∀b∈s.kids,KZ b.result)->(∀b∈s.kids,∀t∈b.steps,JL t)->JL s
structure Jz (b:Block):Prop where
 steps:FO JL b.steps
 result:KZ b.result
theorem JL.args {s:Step}(h:JL s):FO KZ s.args:=by cases h;assumption
theorem JL.VU {s:Step}(h:JL s):s.kids.length<=9223372036854775807:=by cases h;assumption
theorem JL.kids {s:Step}(h:JL s):∀b∈s.kids,Jz b:=by
 cases h with
 | mk _ _ _ _ _ h1 h2 h3=>exact λb hb=>⟨⟨h3 b hb,h1 b hb⟩,h2 b hb⟩
def lf (left:Int)(s:Nat):Int:=if left-s<0 then -1 else left-s
theorem U6 {rec:Block->Int->Option Int}{k:List Block}{L:Int}(hk:k.length<=1048576)(rY :∀b∈k,∀left:Int,0<=left->left<=L->rec b left=some (lf left (Ib b))){N i:Nat}(hi:i<=k.length)(hN:k.length-i<N):
  ∀left:Int,0<=left->left<=L->EZ k rec N left i=some (if left-Ka (k.drop i)<0 then Sum.inl (-1) else Sum.inr (left-Ka (k.drop i))):=by
 refine BZ k.length (λN i=>∀left:Int,0<=left->left<=L->EZ k rec N left i=some (if left-Ka (k.drop i)<0 then Sum.inl (-1) else Sum.inr (left-Ka (k.drop i)))) ?_ ?_ hi hN
 ·intro n left h0 h1;rw[EZ,mJ (by simp[AM])];simp[Ka];omega
 ·intro n i hi ih left h0 h1;obtain⟨b,hb,hbm⟩:=Bi hi;rw[EZ,mI (by simp[AM];omega),As hb];simp only[mA];rw[rY b hbm left h0 h1,dy hb];simp only[mA];unfold lf;by_cases h2:left-Ib b<0
  ·simp only[h2,mm];rw[mI (by simp),mI (by omega)]
  ·simp only[h2,mW];rw[mJ (by simp),BI (by omega) (by omega),show ((i:Int)+1)=((i+1:Nat):Int) by omega,ih (left-Ib b) (by omega) (by omega)];have e:left-(Ib b:Int)-Ka (k.drop (i+1))=left-((Ib b+Ka (k.drop (i+1)):Nat):Int):=by omega
   rw[e]
theorem Ye {N:Nat}(hN:2000000<=N){rec:Block->Int->Option Int}{k:List Block}(hk:k.length<=9223372036854775807){left:Int}(h0:0<=left)(h1:left<=1048576)
  (rY :∀b∈k,∀l:Int,0<=l->l<=left-k.length->rec b l=some (lf l (Ib b))):JY N rec k left=some (lf left (k.length+Ka k)):=by
 unfold JY;rw[AM,BI (by omega) (by omega)];unfold lf;by_cases h2:left-(k.length:Int)<0
 ·rw[mI (by simpa using h2),mI (by omega)]
 ·rw[mJ (by simpa using h2)];have:=U6 (by omega) rY (mV _) (by omega:k.length-0<N) (left-k.length) (by omega) (pU _);rw[qg,nO]at this;rw[this];by_cases h3:left-(k.length:Int)-Ka k<0
  ·rw[mI h3,mI (by omega)];rfl
  ·rw[mJ h3,mJ (by omega)];simp only[Sh.I3];congr 1;omega
theorem bM {N:Nat}(hN:2000000<=N){rec:Block->Int->Option Int}{s:Step}(hs:JL s){left:Int}(h0:0<=left)(h1:left<=1048576)
  (rY :∀b∈s.kids,∀l:Int,0<=l->l<left->rec b l=some (lf l (Ib b))):Km N rec s left=some (lf left (Mz s)):=by
 unfold Km;rw[PQ h0 h1 hs.args.2,Mo];simp only[mA];by_cases h2:left-(s.args.length:Int)<0
 ·have:left-((s.args.length+s.kids.length+Ka s.kids:Nat):Int)<0:=by omega
  simp only[lf,mI h2,mI this];rfl
 ·rw[mJ h2,mJ (by simpa using h2),Ye hN hs.VU (by omega) (by omega) (λb hb l l0 l1=>rY b hb l l0 (by
   have:0<s.kids.length:=oH hb;omega))]
  simp only[mA];have e:lf (left-(s.args.length:Int)) (s.kids.length+Ka s.kids)=lf left (s.args.length+s.kids.length+Ka s.kids):=by
   unfold lf;have e:left-(s.args.length:Int)-((s.kids.length+Ka s.kids:Nat):Int)=left-((s.args.length+s.kids.length+Ka s.kids:Nat):Int):=by omega
   rw[e]
  rw[e];unfold lf;split<;>simp<;>omega
theorem WI {M:Nat}(hM:2000000<=M){rec:Block->Int->Option Int}{l:List Step}{L:Int}(hL:L<=1048576)(hk:l.length<=1048576)(hs :∀s∈l,JL s)(rY :∀s∈l,∀b∈s.kids,∀left:Int,0<=left->left<L->rec b left=some (lf left (Ib b))){N i:Nat}(hi:i<=l.length)(hN:l.length-i<N):
  ∀left:Int,0<=left->left<=L->Ey M l rec N left i=some (if left-Jh (l.drop i)<0 then Sum.inl (-1) else Sum.inr (left-Jh (l.drop i))):=by
 refine BZ l.length (λN i=>∀left:Int,0<=left->left<=L->Ey M l rec N left i=some (if left-Jh (l.drop i)<0 then Sum.inl (-1) else Sum.inr (left-Jh (l.drop i)))) ?_ ?_ hi hN
 ·intro n left h0 h1;rw[Ey,mJ (by simp[AM])];simp[Jh];omega
 ·intro n i hi ih left h0 h1;obtain⟨b,hb,hbm⟩:=Bi hi;rw[Ey,mI (by simp[AM];omega),As hb];simp only[mA];rw[bM hM (hs b hbm) h0 (by omega) (λc hc l' l0 l1=>rY b hbm c hc l' l0 (by omega)),eT hb];simp only[mA];unfold lf;by_cases h2:left-Mz b<0
  ·simp only[h2,mm];rw[mI (by simp),mI (by omega)]
  ·simp only[h2,mW];rw[mJ (by simp),BI (by omega) (by omega),show ((i:Int)+1)=((i+1:Nat):Int) by omega,ih (left-Mz b) (by omega) (by omega)];have e:left-(Mz b:Int)-Jh (l.drop (i+1))=left-((Mz b+Jh (l.drop (i+1)):Nat):Int):=by omega
   rw[e]
theorem XF {N:Nat}(hN:2000000<=N):∀(n:Nat) (b:Block) (left:Int),Jz b->0<=left->left<=1048576->left<n->Gb N n b left=some (lf left (Ib b)):=by
 intro n
 induction n with
 | zero=>intro b left _ h0 _ h2;omega
 | succ n ih=>
  intro b left hb h0 h1 h2;rw[Gb];unfold KH Lv;have hl:=hb.steps.2;rw[AM,BI (by omega) (by omega),Mq];by_cases h3:left-(b.steps.length:Int)<0
  ·have:left-((b.steps.length+Jh b.steps:Nat):Int)<0:=by omega
   rw[mI (by simpa using h3)];simp only[lf,mI this];rfl
  ·rw[mJ (by simpa using h3)];have:=WI hN (rec:=Gb N n) (l:=b.steps) (L:=left-b.steps.length) (by omega) (by omega) hb.steps.1 (λs hs c hc l l0 l1=>ih c l ((hb.steps.1 s hs).kids c hc) l0 (by omega) (by have:=oH hs;omega)) (mV _) (by omega:b.steps.length-0<N) (left-b.steps.length) (by omega) (pU _);rw[qg,nO]at this;rw[this];unfold lf;by_cases h5:left-(b.steps.length:Int)-Jh b.steps<0
   ·rw[mI h5,mI (by omega)];rfl
   ·rw[mJ h5,mJ (by omega)];simp only[Sh.I3,mA];rw[mJ (by simp;omega)];congr 1;omega
end RC
namespace RC
open Go
def Bs (b:Block):Prop:=Ib b<=1048576
theorem Bs.len {b:Block}(h:Bs b):b.steps.length<=1048576:=by unfold Bs at h;rw[Mq]at h;omega
theorem J3 {b:Block}{s:Step}(hs:s∈b.steps):Mz s+1<=Ib b:=by
 have h1:=aD hs;have h2:=oH hs;rw[Mq];omega
theorem O6 {s:Step}{b:Block}(hb:b∈s.kids):Ib b+1<=Mz s:=by
 have h1:=gX hb;have h2:=oH hb;rw[Mo];omega
theorem Uz {rec:Block->Option Block}{k:List Block}(hk:k.length<=1048576)(rY :∀b∈k,rec b=some b){N i:Nat}(hi:i<=k.length)(hN:k.length-i<N):∀m:List Block,m.length=k.length->m.take i=k.take i->Eg k rec N i m=some k:=by
 refine BZ k.length (λN i=>∀m:List Block,m.length=k.length->m.take i=k.take i->Eg k rec N i m=some k) ?_ ?_ hi hN
 ·intro n m hm ht;rw[Eg,mJ (by simp[AM])];rw[nv (by omega),nI]at ht;rw[ht]
 ·intro n i hi ih m hm ht;obtain⟨x,hx,tu⟩:=Bi hi;obtain⟨y,hy,_⟩:=Bi (l:=m) (i:=i) (by omega);rw[Eg,mI (by simp[AM];omega),As hx];simp only[mA];rw[rY x tu];simp only[mA];rw[As hy];simp only[mA];rw[BI (by omega) (by omega),NR,show ((i:Int)+1)=((i+1:Nat):Int) by omega];refine ih _ (by simp[hm]) ?_;rw[EA hx,EA (x:=x) (by rw[pf];simp;omega),oY (mS _),ht]
theorem cA {N:Nat}(hN:2000000<=N){rec:Block->Option Block}{s:Step}(hs:Mz s<=1048576)(rY :∀b∈s.kids,rec b=some b):Kw N rec s=some s:=by
 rw[Mo]at hs;unfold Kw Kg;rw[PN (by omega) hN,AM,NA _ s.kids.length 32 (by omega) (by omega)];simp only[mA];have:=Uz (by omega) rY (mV _) (by omega:s.kids.length-0<N) (List.replicate s.kids.length (Block.mk [] 0)) (by simp) (by simp);rw[qg]at this;rw[this];exact mr some (Step.eta s).symm
theorem Wl {M:Nat}(hM:2000000<=M){rec:Block->Option Block}{k:List Step}(hk:k.length<=1048576)(hs :∀s∈k,Mz s<=1048576)(rY :∀s∈k,∀b∈s.kids,rec b=some b){N i:Nat}(hi:i<=k.length)(hN:k.length-i<N):∀m:List Step,m.length=k.length->m.take i=k.take i->E0 M k rec N i m=some k:=by
 refine BZ k.length (λN i=>∀m:List Step,m.length=k.length->m.take i=k.take i->E0 M k rec N i m=some k) ?_ ?_ hi hN
 ·intro n m hm ht;rw[E0,mJ (by simp[AM])];rw[nv (by omega),nI]at ht;rw[ht]
 ·intro n i hi ih m hm ht;obtain⟨x,hx,tu⟩:=Bi hi;obtain⟨y,hy,_⟩:=Bi (l:=m) (i:=i) (by omega);rw[E0,mI (by simp[AM];omega),As hx];simp only[mA];rw[cA hM (hs x tu) (rY x tu)];simp only[mA];rw[As hy];simp only[mA];rw[BI (by omega) (by omega),NR,show ((i:Int)+1)=((i+1:Nat):Int) by omega];refine ih _ (by simp[hm]) ?_;rw[EA hx,EA (x:=x) (by rw[pf];simp;omega),oY (mS _),ht]
theorem XP {N:Nat}(hN:2000000<=N):∀(n:Nat) (b:Block),Bs b->Ib b<n->Gf N n b=some b:=by
 intro n
 induction n with
 | zero=>intro b _ h;omega
 | succ n ih=>
  intro b hb hn;have hl:=hb.len;rw[Gf];unfold KI Ls;rw[AM,NA _ b.steps.length 72 (by omega) (by omega)];simp only[mA];have:=Wl hN (rec:=Gf N n) hl (λs hs=>by have:=J3 hs;unfold Bs at hb;omega) (λs hs c hc=>ih c (by have:=J3 hs;have:=O6 hc;unfold Bs at *;omega) (by have:=J3 hs;have:=O6 hc;omega)) (mV _) (by omega:b.steps.length-0<N) (List.replicate b.steps.length (Step.mk 0 0 0 [] [])) (by simp) (by simp);rw[qg]at this;rw[this];rfl
theorem aH {b:Block}(hb:Bs b){N:Nat}(hN:2000000<=N):L3 N b=some b:=by
 unfold L3;exact XP hN N b hb (by unfold Bs at hb;omega)
theorem Uq {rec:Block->Block->Option Bool}{k:List Block}(hk:k.length<=1048576)(rY :∀b∈k,rec b b=some true){N i:Nat}(hi:i<=k.length)(hN:k.length-i<N):Ef k k rec N i=some (Sum.inr ()):=by
 refine BZ k.length (λN i=>Ef k k rec N i=some (Sum.inr ())) ?_ ?_ hi hN
 ·intro n;rw[Ef,mJ (by simp[AM])]
 ·intro n i hi ih;obtain⟨x,hx,tu⟩:=Bi hi;rw[Ef,mI (by simp[AM];omega),As hx];simp only[mA];rw[rY x tu,BI (by omega) (by omega),show ((i:Int)+1)=((i+1:Nat):Int) by omega];simpa using ih
theorem bd {N:Nat}(hN:2000000<=N){rec:Block->Block->Option Bool}{s:Step}(hs:Mz s<=1048576)(rY :∀b∈s.kids,rec b b=some true):Kv N rec s s=some true:=by
 rw[Mo]at hs;unfold Kv LH;have:=Uq (k:=s.kids) (by omega) rY (mV _) (by omega:s.kids.length-0<N);rw[qg]at this;simp[O7 (l:=s.args) (by omega) hN,this]
theorem Vs {M:Nat}(hM:2000000<=M){rec:Block->Block->Option Bool}{k:List Step}(hk:k.length<=1048576)(hs :∀s∈k,Mz s<=1048576)(rY :∀s∈k,∀b∈s.kids,rec b b=some true){N i:Nat}(hi:i<=k.length)(hN:k.length-i<N):E1 M k k rec N i=some (Sum.inr ()):=by
 refine BZ k.length (λN i=>E1 M k k rec N i=some (Sum.inr ())) ?_ ?_ hi hN
 ·intro n;rw[E1,mJ (by simp[AM])]
 ·intro n i hi ih;obtain⟨x,hx,tu⟩:=Bi hi;rw[E1,mI (by simp[AM];omega),As hx];simp only[mA];rw[bd hM (hs x tu) (rY x tu),BI (by omega) (by omega),show ((i:Int)+1)=((i+1:Nat):Int) by omega];simpa using ih
theorem Wv {N:Nat}(hN:2000000<=N):∀(n:Nat) (b:Block),Bs b->Ib b<n->Ga N n b b=some true:=by
 intro n
 induction n with
 | zero=>intro b _ h;omega
 | succ n ih=>
  intro b hb hn;have hl:=hb.len;rw[Ga];unfold KE Lw;have:=Vs hN (rec:=Ga N n) hl (λs hs=>by have:=J3 hs;unfold Bs at hb;omega) (λs hs c hc=>ih c (by have:=J3 hs;have:=O6 hc;unfold Bs at *;omega) (by have:=J3 hs;have:=O6 hc;omega)) (mV _) (by omega:b.steps.length-0<N);rw[qg]at this;simp[this]
theorem aJ {b:Block}(hb:Bs b){N:Nat}(hN:2000000<=N):Ly N b b=some true:=by
 unfold Ly;exact Wv hN N b hb (by unfold Bs at hb;omega)
mutual
def Pe:Step->Nat|.mk _ _ _ _ k=>JO k+1
def JO:List (Gh Step)->Nat|[]=>0|b::k=>Ff b+JO k
def Ff:Gh Step->Nat|⟨ss,_⟩=>Jf ss
def Jf:List Step->Nat|[]=>0|s::l=>Pe s+Jf l
end
theorem Ql (s:Step):Pe s=JO s.kids+1:=by cases s;simp[Pe,Step.kids]
theorem Ou (b:Block):Ff b=Jf b.steps:=by cases b;simp[Ff]
theorem Td {k:List Block}{i:Nat}{b:Block}(h:k[i]?=some b):JO (k.drop i)=Ff b+JO (k.drop (i+1)):=by rw[drop_cons h];simp[JO]
theorem Qm {l:List Step}{i:Nat}{s:Step}(h:l[i]?=some s):Jf (l.drop i)=Pe s+Jf (l.drop (i+1)):=by rw[drop_cons h];simp[Jf]
theorem ZA {b:Block}{s:Step}{i:Nat}{rec:Block->Int->Option Int}(hs:b.steps[i]?=some s)(hk:s.kids.length<=1048576)(rY :∀c∈s.kids,∀l:Int,0<=l->l<=600->rec c l=some (lf l (Ff c))){N k:Nat}(hi:k<=s.kids.length)(hN:s.kids.length-k<N):∀left:Int,0<=left->left<=600->
  DZ i b rec N left k=some (if left-JO (s.kids.drop k)<0 then Sum.inl (-1) else Sum.inr (left-JO (s.kids.drop k))):=by
 refine BZ s.kids.length (λN k=>∀left:Int,0<=left->left<=600->DZ i b rec N left k=some (if left-JO (s.kids.drop k)<0 then Sum.inl (-1) else Sum.inr (left-JO (s.kids.drop k)))) ?_ ?_ hi hN
 ·intro n left h0 h1;rw[DZ,As hs];simp only[mA];rw[mJ (by simp[AM])];simp[JO];omega
 ·intro n k hi ih left h0 h1;obtain⟨c,hc,vB⟩:=Bi hi;rw[DZ,As hs];simp only[mA];rw[mI (by simp[AM];omega),As hc];simp only[mA];rw[rY c vB left h0 h1,Td hc];simp only[mA];unfold lf;by_cases h2:left-Ff c<0
  ·simp only[h2,mm];rw[mI (by simp),mI (by omega)]
  ·simp only[h2,mW];rw[mJ (by simp),BI (by omega) (by omega),show ((k:Int)+1)=((k+1:Nat):Int) by omega,ih (left-Ff c) (by omega) (by omega)];have e:left-(Ff c:Int)-JO (s.kids.drop (k+1))=left-((Ff c+JO (s.kids.drop (k+1)):Nat):Int):=by omega
   rw[e]
theorem aE {b:Block}{rec:Block->Int->Option Int}{M:Nat}(hM:2000000<=M)(hl:b.steps.length<=1048576)(hk :∀s∈b.steps,s.kids.length<=1048576)(rY :∀s∈b.steps,∀c∈s.kids,∀l:Int,0<=l->l<=600->rec c l=some (lf l (Ff c))){N i:Nat}(hi:i<=b.steps.length)(hN:b.steps.length-i<N):∀left:Int,0<=left->left<=600->
  Da M b rec N left i=some (if left-Jf (b.steps.drop i)<0 then Sum.inl (-1) else Sum.inr (left-Jf (b.steps.drop i))):=by
 refine BZ b.steps.length (λN i=>∀left:Int,0<=left->left<=600->Da M b rec N left i=some (if left-Jf (b.steps.drop i)<0 then Sum.inl (-1) else Sum.inr (left-Jf (b.steps.drop i)))) ?_ ?_ hi hN
 ·intro n left h0 h1;rw[Da,mJ (by simp[AM])];simp[Jf];omega
 ·intro n i hi ih left h0 h1;obtain⟨s,hs,tp⟩:=Bi hi;rw[Da,mI (by simp[AM];omega),Qm hs,Ql];by_cases h2:left<1
  ·rw[mI (by simpa using h2),mI (by omega)]
  ·rw[mJ (by simpa using h2),BI (n:=left-1) (by omega) (by omega)];have yO:=hk s tp;have L2:=ZA hs yO (rY s tp) (mV _) (by omega:s.kids.length-0<M) (left-1) (by omega) (by omega);rw[qg,nO]at L2;rw[L2];by_cases h3:left-1-(JO s.kids:Int)<0
   ·rw[mI h3,mI (by omega)];rfl
   ·rw[mJ h3];simp only[Sh.I3];rw[BI (by omega) (by omega),show ((i:Int)+1)=((i+1:Nat):Int) by omega,ih _ (by omega) (by omega)];have e:left-1-(JO s.kids:Int)-Jf (b.steps.drop (i+1))=left-((JO s.kids+1+Jf (b.steps.drop (i+1)):Nat):Int):=by omega
    rw[e]
theorem OY {b:Block}(hb:Bs b){s:Step}(hs:s∈b.steps):s.kids.length<=1048576:=by
 have h1:=J3 hs;rw[Mo]at h1;unfold Bs at hb;omega
theorem Ml {b:Block}(hb:Bs b){s:Step}(hs:s∈b.steps){c:Block}(hc:c∈s.kids):Bs c/\Ib c+2<=Ib b:=by
 have h1:=J3 hs;have h2:=O6 hc;unfold Bs at *;exact⟨by omega,by omega⟩
theorem U1 {N:Nat}(hN:2000000<=N):∀(n:Nat) (b:Block) (left:Int),Bs b->Ib b<n->0<=left->left<=600->Fq N n b left=some (lf left (Ff b)):=by
 intro n
 induction n with
 | zero=>intro b left _ h;omega
 | succ n ih=>
  intro b left hb hn h0 h1;have hl:=hb.len;rw[Fq];unfold JC;have:=aE (rec:=Fq N n) hN hl (λs hs=>OY hb hs) (λs hs c hc l l0 l1=>ih c l (Ml hb hs hc).1 (by have:=(Ml hb hs hc).2;omega) l0 l1) (mV _) (by omega:b.steps.length-0<N) left h0 h1;rw[qg,nO,<- Ou]at this;rw[this];unfold lf;by_cases h3:left-(Ff b:Int)<0
  ·rw[mI h3,mI h3];rfl
  ·rw[mJ h3,mJ h3];rfl
theorem Lm {b:Block}(hb:Bs b){N:Nat}(hN:2000000<=N):I2 N b=some (if Ff b<=600 then (Ff b:Int) else -1):=by
 unfold I2 MX;rw[U1 hN N b 600 hb (by unfold Bs at hb;omega) (by decide) (by decide)];simp only[mA];by_cases h:Ff b<=600
 ·have e:lf 600 (Ff b)=600-(Ff b:Int):=by unfold lf;rw[mJ (by omega)]
  rw[e,mJ (by simp;omega),mI h,BI (by omega) (by omega)];congr 1;omega
 ·have e:lf 600 (Ff b)=-1:=by unfold lf;rw[mI (by omega)]
  rw[e,mJ h];rfl
def Cs (n:Int)(m:Nat)(r:Bool×Int):Prop:=(n+m<=600->r=(true,n+m))/\(¬ n+m<=600->r.1=false)
theorem Yi {s:Step}{rec:Int->Block->Option (Bool×Int)}(hk:s.kids.length<=1048576)(rY :∀c∈s.kids,∀n:Int,0<=n->n<=600->∃r,rec n c=some r/\Cs n (Ff c) r){N k:Nat}(hi:k<=s.kids.length)(hN:s.kids.length-k<N):∀n:Int,0<=n->n<=600->
  ∃r,Cx s rec N k n=some r/\(n+JO (s.kids.drop k)<=600->r=Sum.inr (n+JO (s.kids.drop k)))/\(¬ n+JO (s.kids.drop k)<=600->∃m,r=Sum.inl (false,m)):=by
 refine BZ s.kids.length (λN k=>∀n:Int,0<=n->n<=600->∃r,Cx s rec N k n=some r/\(n+JO (s.kids.drop k)<=600->r=Sum.inr (n+JO (s.kids.drop k)))/\(¬ n+JO (s.kids.drop k)<=600->∃m,r=Sum.inl (false,m))) ?_ ?_ hi hN
 ·intro f n h0 h1;rw[Cx,mJ (by simp[AM])];refine⟨_,rfl,λ_=>by simp[JO],λh=>?_⟩;simp[JO]at h;omega
 ·intro f k hi ih n h0 h1;obtain⟨c,hc,vB⟩:=Bi hi;obtain⟨⟨ok,m⟩,r1,r2,r3⟩:=rY c vB n h0 h1;rw[Cx,mI (by simp[AM];omega),As hc];simp only[mA];rw[r1,Td hc];simp only[mA];by_cases h2:n+(Ff c:Int)<=600
  ·cases r2 h2;rw[mJ (by simp),BI (by omega) (by omega),show ((k:Int)+1)=((k+1:Nat):Int) by omega];obtain⟨r,e1,e2,e3⟩:=ih (n+Ff c) (by omega) h2;have e:n+(Ff c:Int)+JO (s.kids.drop (k+1))=n+((Ff c+JO (s.kids.drop (k+1)):Nat):Int):=by omega
   rw[e]at e2 e3;exact⟨r,e1,e2,e3⟩
  ·have:ok=false:=r3 h2;subst this;rw[mI (by simp)];exact⟨_,rfl,λh=>by omega,λ_=>⟨_,rfl⟩⟩
theorem Yo {b:Block}{rec:Int->Block->Option (Bool×Int)}{M:Nat}(hM:2000000<=M)(hl:b.steps.length<=1048576)(hk :∀s∈b.steps,s.kids.length<=1048576)(rY :∀s∈b.steps,∀c∈s.kids,∀n:Int,0<=n->n<=600->∃r,rec n c=some r/\Cs n (Ff c) r){N i:Nat}(hi:i<=b.steps.length)(hN:b.steps.length-i<N):∀n:Int,0<=n->n<=600->
  ∃r,DC M b rec N i n=some r/\(n+Jf (b.steps.drop i)<=600->r=Sum.inr (n+Jf (b.steps.drop i)))/\(¬ n+Jf (b.steps.drop i)<=600->∃m,r=Sum.inl (false,m)):=by
 refine BZ b.steps.length (λN i=>∀n:Int,0<=n->n<=600->∃r,DC M b rec N i n=some r/\(n+Jf (b.steps.drop i)<=600->r=Sum.inr (n+Jf (b.steps.drop i)))/\(¬ n+Jf (b.steps.drop i)<=600->∃m,r=Sum.inl (false,m))) ?_ ?_ hi hN
 ·intro f n h0 h1;rw[DC,mJ (by simp[AM])];refine⟨_,rfl,λ_=>by simp[Jf],λh=>?_⟩;simp[Jf]at h;omega
 ·intro f i hi ih n h0 h1;obtain⟨s,hs,tp⟩:=Bi hi;rw[DC,mI (by simp[AM];omega),As hs,Qm hs,Ql];simp only[mA];rw[BI (n:=n+1) (by omega) (by omega)];by_cases h2:600<n+1
  ·rw[mI (by simpa using h2)];exact⟨_,rfl,λh=>by omega,λ_=>⟨_,rfl⟩⟩
  ·rw[mJ (by simpa using h2)];have yO:=hk s tp;obtain⟨r,e1,e2,e3⟩:=Yi yO (rY s tp) (mV _) (by omega:s.kids.length-0<M) (n+1) (by omega) (by omega);rw[qg]at e1;rw[nO]at e2 e3;rw[e1];by_cases h3:n+1+(JO s.kids:Int)<=600
   ·rw[e2 h3];simp only[Sh.I3];rw[BI (by omega) (by omega),show ((i:Int)+1)=((i+1:Nat):Int) by omega];obtain⟨r',f1,f2,f3⟩:=ih _ (by omega) h3;have e:n+1+(JO s.kids:Int)+Jf (b.steps.drop (i+1))=n+((JO s.kids+1+Jf (b.steps.drop (i+1)):Nat):Int):=by omega
    rw[e]at f2 f3;exact⟨r',f1,f2,f3⟩
   ·obtain⟨m,hm⟩:=e3 h3;rw[hm];exact⟨_,rfl,λh=>by omega,λ_=>⟨_,rfl⟩⟩
theorem TZ {N:Nat}(hN:2000000<=N):∀(f:Nat) (b:Block) (n:Int),Bs b->Ib b<f->0<=n->n<=600->∃r,FW N f n b=some r/\Cs n (Ff b) r:=by
 intro f
 induction f with
 | zero=>intro b n _ h;omega
 | succ f ih=>
  intro b n hb hn h0 h1;have hl:=hb.len;rw[FW];unfold Ig;obtain⟨r,e1,e2,e3⟩:=Yo (rec:=FW N f) hN hl (λs hs=>OY hb hs) (λs hs c hc l l0 l1=>ih c l (Ml hb hs hc).1 (by have:=(Ml hb hs hc).2;omega) l0 l1) (mV _) (by omega:b.steps.length-0<N) n h0 h1;rw[qg]at e1;rw[nO,<- Ou]at e2 e3;rw[e1];by_cases h3:n+(Ff b:Int)<=600
  ·rw[e2 h3];exact⟨_,rfl,λ_=>rfl,λh=>absurd h3 h⟩
  ·obtain⟨m,hm⟩:=e3 h3;rw[hm];exact⟨_,rfl,λh=>absurd h h3,λ_=>rfl⟩
theorem Oo {b:Block}(hb:Bs b){N:Nat}(hN:2000000<=N):I5 N b=some (if Ff b<=600 then (Ff b:Int) else -1):=by
 unfold I5 LZ;obtain⟨⟨ok,m⟩,e1,e2,e3⟩:=TZ hN N b 0 hb (by unfold Bs at hb;omega) (by decide) (by decide);rw[e1];simp only[mA];by_cases h:Ff b<=600
 ·cases e2 (by omega);rw[mJ (by simp),mI h];congr 1;omega
 ·have:ok=false:=e3 (by omega);subst this;rw[mI (by simp),mJ h]
end RC
namespace RC
open Go
def Om (o:Int):Bool:=decide (14<=o)&&decide (o<=17)
mutual
def us (v:Int):Step->Nat|.mk o _ _ a k=>if Om o then 0 else a.countP (λx=>decide (x=v))+uk v k
def uk (v:Int):List (Gh Step)->Nat|[]=>0|b::k=>ub v b+uk v k
def ub (v:Int):Gh Step->Nat|⟨ss,r⟩=>(if r=v then 1 else 0)+ul v ss
def ul (v:Int):List Step->Nat|[]=>0|s::l=>us v s+ul v l
end
def ua (v:Int)(a:List Int):Nat:=a.countP λx=>decide (x=v)
theorem lv (v:Int)(a:List Int):ua v a<=a.length:=List.countP_le_length
theorem dD (o:Int):IA o=some (Om o):=by unfold IA;rw[Cp];rfl
theorem My (o:Int):DP o=some (Om o):=by
 unfold DP Om;by_cases h:14<=o<;>simp[h]
end RC
namespace RC
open Go
def NG (v:List Int)(a:Int):Option Int:=if 0<=a/\a<(v.length:Int) then v[a.toNat]? else none
def Cu (v:List Int):List Int->Option (List Int)
 | []=>some []
 | a::r=>(NG v a).bind λt=>(Cu v r).map (t::·)
theorem VD {v:List Int}{a:Int}(h0:0<=a)(h1:a<(v.length:Int)):∃t,NG v a=some t/\Sh.get v a=some t/\t∈v:=by
 obtain⟨t,g1,g2⟩:=NW h0 h1;exact⟨t,by unfold NG;rw[mI ⟨h0,h1⟩,g2],g1,mB g2⟩
theorem Zl {v:List Int}{a:Int}(h:¬ (0<=a/\a<(v.length:Int))):NG v a=none:=mJ h
theorem Mx {v:List Int}:∀{args l:List Int},Cu v args=some l↔args.length=l.length/\∀(i:Nat) a,args[i]?=some a->NG v a=l[i]?/\(NG v a).isSome=true
 | [],l=>by
  simp only[Cu,mE,nN];constructor
  ·rintro rfl;simp
  ·rintro⟨h,_⟩;exact (mh h.symm).symm
 | a::r,l=>by
  simp only[Cu];constructor
  ·intro h;obtain⟨t,h1,h2⟩:=mn.1 h;obtain⟨m,h3,rfl⟩:=mK.1 h2;obtain⟨h4,h5⟩:=Mx.1 h3;refine⟨by simp[h4],λi b hb=>?_⟩;cases i with
   | zero=>simp only[me,mE]at hb⊢;subst hb;rw[h1];simp
   | succ i=>simpa using h5 i b (by simpa using hb)
  ·rintro⟨h1,h2⟩;cases l with
   | nil=>simp at h1
   | cons t m=>
    have h3:=h2 0 a rfl;simp only[me]at h3;have h4:Cu v r=some m:=Mx.2 ⟨by simpa using h1,λi b hb=>by have:=h2 (i+1) b (by simpa using hb);simpa using this⟩;rw[h3.1,h4];rfl
theorem KY {v args types:List Int}(hv:v.length<=1048576)(ha:args.length<=1048576){N:Nat}(hN:2000000<=N):Be N v args types=some (decide (Cu v args=some types)):=by
 unfold Be;by_cases h:args.length=types.length
 ·rw[mJ (by simp[AM,h]),DE (l:=args) (GN v args types) (λi a=>decide (NG v a=types[i]?/\(NG v a).isSome=true)) (λn=>by rw[GN,mJ (by simp[AM])]) (λn i a hi=>?_) (by omega),Du]
  ·have:EH (λi a=>decide (NG v a=types[i]?/\(NG v a).isSome=true)) 0 args=decide (Cu v args=some types):=by
    rw[Bool.eq_iff_iff,Nm,oV,Mx];constructor
    ·intro g;exact⟨h,λi a ha=>by have:=g i a ha;rw[oV,nS]at this;exact this⟩
    ·rintro⟨_,g⟩ i a ha;rw[oV,nS];exact g i a ha
   rw[this];cases decide (Cu v args=some types)<;>rfl
  ·have tM:=(mC.1 hi).1;obtain⟨t,ht,_⟩:=Bi (l:=types) (i:=i) (by omega);rw[GN,mI (by simp[AM];omega),As hi];simp only[mA];rw[Cp,AM,BI (n:=(v.length:Int)-1) (by omega) (by omega),BI (n:=(i:Int)+1) (by omega) (by omega),show ((i:Int)+1)=((i+1:Nat):Int) by omega];simp only[mA];by_cases hr:0<=a/\a<(v.length:Int)
   ·obtain⟨x,x1,x2,_⟩:=VD hr.1 hr.2;have hr2:a<=(v.length:Int)-1:=by omega
    rw[x1,x2,As ht,ht];by_cases q:x=t<;>simp[hr.1,hr2,q]
   ·rw[Zl hr];have:(decide (0<=a)&&decide (a<=(v.length:Int)-1))=false:=by
     rw[nG,mR,mR];omega
    rw[this];simp
 ·have h1:¬ ((args.length:Int)=(types.length:Int)):=by omega
  have h2:¬ Cu v args=some types:=λq=>h (Mx.1 q).1;simp[AM,h1,h2]
theorem cD {v:List Int}{s:Step}(hv:v.length<=1048576)(ha:s.args.length<=1048576){N:Nat}(hN:2000000<=N):
  BP v s N 0 []=some ((Cu v s.args).elim (.inl (-1,false)) .inr):=by
 have key:∀{M i:Nat},i<=s.args.length->s.args.length-i<M->∀acc:List Int,acc.length=i->BP v s M i acc=some ((Cu v (s.args.drop i)).elim (.inl (-1,false)) λl=>.inr (acc++l)):=by
  intro M i hi hM;refine BZ s.args.length (λM i=>∀acc:List Int,acc.length=i->BP v s M i acc=some ((Cu v (s.args.drop i)).elim (.inl (-1,false)) λl=>.inr (acc++l))) ?_ ?_ hi hM
  ·intro n acc _;rw[BP,mJ (by simp[AM]),oa];simp[Cu]
  ·intro n i hi ih acc xD;obtain⟨a,hx,_⟩:=Bi hi;rw[BP,mI (by simp[AM];omega),As hx,drop_cons hx];simp only[mA,Cu,AM];by_cases hr:0<=a/\a<(v.length:Int)
   ·obtain⟨x,x1,x2,_⟩:=VD hr.1 hr.2;have r1:¬ a<0:=by omega
    have r2:¬ (v.length:Int)<=a:=by omega
    rw[x1,x2];simp only[r1,r2,mY,mF,mW,mA];rw[CS acc [x] 8 (by simp;omega) (by simp;omega),BI (by omega) (by omega),show ((i:Int)+1)=((i+1:Nat):Int) by omega];simp only[mA];rw[ih (acc++[x]) (by simp[xD])];cases Cu v (s.args.drop (i+1))<;>simp
   ·rw[Zl hr];by_cases r1:a<0
    ·simp[r1]
    ·have r2:(v.length:Int)<=a:=by omega
     simp[r1,r2]
 have:=key (mV _) (by omega:s.args.length-0<N) [] rfl;simpa using this
section
variable {D : List Ac} {G : List Bg} {ks : List Int} {op num : Int} {N : Nat}
theorem Xc (h:op=0):Ai N ⟨D,G⟩ op num ks=some (0,(decide (-999<=num)&&decide (num<=999))&&decide (ks=[])):=by
 unfold Ai;simp only[h,mZ,mm,len_nil];by_cases a:-999<=num<;>by_cases b:num<=999<;>simp[a,b,Sh.cont]
theorem Pz (hk:ks.length<=1048576)(hN:2000000<=N)(h:op=1∨op=2∨op=3∨op=4):Ai N ⟨D,G⟩ op num ks=some (0,decide (num=0)&&decide (ks=[0,0])):=by
 unfold Ai;have e3:Cw N ks [0,0]=some (decide (ks=[0,0])):=OK hk hN;rcases h with h|h|h|h<;>simp only[h,Int.reduceEq,mZ,mY,mF,mm,mW,mA,Sh.I3]<;>rw[e3]<;>by_cases a:num=0<;>simp[a]
theorem QU (hk:ks.length<=1048576)(hN:2000000<=N)(h:op=5):Ai N ⟨D,G⟩ op num ks=some (0,decide (num=0)&&decide (ks=[0])):=by
 unfold Ai;simp only[h,Int.reduceEq,mZ,mY,mF,mm,mW,mA,Sh.I3];rw[OK hk hN];by_cases a:num=0<;>simp[a]
theorem Qa {F:List IK}(S:OD D F)(hk:ks.length<=1048576)(hI:KZ num)(hN:2000000<=N)(h:op=6):
  (∃t x,0<t/\DN D t=true/\(∀y∈x,0<=y)/\Cq N D num=some t/\CH N D num=some x/\Ai N ⟨D,G⟩ op num ks=some (t,decide (ks=x)))∨
  (Cq N D num=some (-1)/\Ai N ⟨D,G⟩ op num ks=some (-1,false)):=by
 have hD:=S.PX;have hn:=S.nc;by_cases hr:0<=num/\num<(nc D:Int)
 ·obtain⟨c,hc⟩:=nU hr.1;have hc2:c<nc D:=by omega
  obtain⟨t,x,e1,e2⟩:=OX (D:=D) (by omega) (by omega) hc2 hN;obtain⟨t',x',xb,e3⟩:=KN (D:=D) (by omega) (by omega) hc2 hN;obtain⟨t'',x'',e1'',e4⟩:=P7 (D:=D) (by omega) (by omega) hc2 hN;rw[e1]at xb e1'';cases xb;cases e1'';obtain⟨g1,g2,d,g3,g4⟩:=Qn e1;have hx:=S.Od d g3 x g4;refine .inl ⟨(t:Int),x.fields,by omega,by unfold DN;simp;omega,λy hy=>(Ny (hx.2 y hy)).1,by rw[hc,e2],by rw[hc,e3],?_⟩;unfold Ai;simp only[h,Int.reduceEq,mZ,mY,mF,mm,mW,mA];rw[hc,e4];simp only[mA];rw[OK hk hN,mI (by simp)];simp[Sh.cont]
 ·refine .inr ⟨Nw (by omega) (by omega) (by omega) hN,?_⟩;unfold Ai;simp only[h,Int.reduceEq,mZ,mY,mF,mm,mW,mA];rw[U3 (by omega) (by omega) hI (by omega) hN];simp[Sh.cont]
theorem Va {f:Bg}(hk:ks.length<=1048576)(hG:G.length<=4)(hN:2000000<=N)(h:op=9)(f0:0<=num)(f1:num<(G.length:Int))(f5:Sh.get G num=some f):Ai N ⟨D,G⟩ op num ks=some (f.result,decide (ks=f.params)):=by
 have f0':¬ num<0:=by omega
 have f1':¬ (G.length:Int)<=num:=by omega
 unfold Ai;simp only[h,Int.reduceEq,mZ,mY,mF,mm,mW,mA,AM,f0',f1'];rw[f5];simp only[mA];rw[OK hk hN];simp[Sh.cont]
theorem Pu {f:Bg}(hk:ks.length<=1048576)(hD:D.length<=4)(hG:G.length<=4)(hp:f.params.length<=3)(hN:2000000<=N)(h:op=10)(f0:0<=num)(f1:num<(G.length:Int))(f5:Sh.get G num=some f):
  (f.params=[]/\Ai N ⟨D,G⟩ op num ks=some (-1,false))∨
  (∃m x,f.params.length=m+1/\f.params[m]?=some x/\Ai N ⟨D,G⟩ op num ks=some (JA x f.result D 0,decide (0<=JA x f.result D 0)&&decide (ks=f.params.take m))):=by
 have f0':¬ num<0:=by omega
 have f1':¬ (G.length:Int)<=num:=by omega
 by_cases hp0:f.params.length=0
 ·refine .inl ⟨mh hp0,?_⟩;unfold Ai;simp only[h,Int.reduceEq,mZ,mY,mF,mm,mW,mA,AM,f0',f1'];rw[f5];simp only[mA,hp0];rw[BI (by omega) (by omega)];simp[Sh.cont]
 ·obtain⟨m,hm⟩ :∃m,f.params.length=m+1:=⟨f.params.length-1,by omega⟩
  obtain⟨x,hx,tu⟩:=Bi (l:=f.params) (i:=m) (by omega);have hw:Sh.w ((f.params.length:Int)-1)=(m:Int):=by rw[BI (by omega) (by omega)];omega
  have zI:¬ ((m:Int)<0):=by omega
  refine .inr ⟨m,x,hm,hx,?_⟩;unfold Ai;simp only[h,Int.reduceEq,mZ,mY,mF,mm,mW,mA,AM,f0',f1'];rw[f5];simp only[mA,hw,zI,mY,mF,mW];rw[As hx];simp only[mA];rw[Tm (by omega) hN,ZJ (by omega)];simp only[mA];rw[OK hk hN];by_cases z:0<=JA x f.result D 0<;>simp[z,Sh.cont]
theorem Lt (hG:G.length<=4)(h:op=9∨op=10)(hr:num<0∨(G.length:Int)<=num):Ai N ⟨D,G⟩ op num ks=some (-1,false):=by
 unfold Ai;rcases h with h|h<;>simp only[h,Int.reduceEq,mZ,mY,mF,mm,mW,mA,AM]<;>rcases hr with hr|hr
 ·simp[hr,Sh.cont]
 ·have:¬ num<0:=by omega
  simp[hr,this,Sh.cont]
 ·simp[hr,Sh.cont]
 ·have:¬ num<0:=by omega
  simp[hr,this,Sh.cont]
theorem QI (hD:D.length<=4)(h:op=11){a b:Int}(hk:ks=[a,b]):Ai N ⟨D,G⟩ op num ks=some ((LF D a).elim (0,false) λd=>(d.to,decide (b=d.from_/\num=0))):=by
 subst hk;unfold Ai;simp only[h,Int.reduceEq,mZ,mY,mF,mm,mW,mA,AM,mf,nN];rw[show Sh.get [a,b] 0=some a from rfl,show Sh.get [a,b] 1=some b from rfl];simp only[mA];rw[Ot (by omega)];simp only[mA];cases hA:LF D a with
 | none=>simp[Sh.cont]
 | some d=>by_cases c1:b=d.from_<;>by_cases c2:num=0<;>simp[c1,c2,Sh.cont]
theorem NO (h:op=11)(hk:¬ ks.length=2):Ai N ⟨D,G⟩ op num ks=some (-1,false):=by
 have hk':¬ ((ks.length:Int)=2):=by omega
 unfold Ai;simp only[h,Int.reduceEq,mZ,mY,mF,mm,mW,mA,AM,hk'];simp[Sh.cont]
theorem Zz (h:op<0∨11<op∨op=7∨op=8):Ai N ⟨D,G⟩ op num ks=some (-1,false):=by
 unfold Ai;simp only[show ¬ op=0 by omega,show ¬ op=1 by omega,show ¬ op=2 by omega,show ¬ op=3 by omega,show ¬ op=4 by omega,show ¬ op=5 by omega,show ¬ op=6 by omega,show ¬ op=9 by omega,show ¬ op=10 by omega,show ¬ op=11 by omega,mY,mF,mW,mA];simp[Sh.cont]
end
end RC
namespace RC
open Go
def CX (n:AT):Ag:=⟨n.decls,n.AH.map λr=>⟨r.params,r.Ar,r.result⟩⟩
def Q5 (r:Ad):IK:=⟨r.params,r.result,.mk 0 0 []⟩
abbrev JI (n:AT):Prop:=OD n.decls (n.AH.map Q5)
theorem G5 {n:AT}:(CX n).funcs.length=n.AH.length:=by show (n.AH.map _).length=_;simp
theorem JI.RM {n:AT}(S:JI n):n.AH.length<=4:=by have:=S.jR;simpa using this
theorem SP {n:AT}(S:JI n)(k:Int):(∃r,0<=k/\k<(n.AH.length:Int)/\Sh.get n.AH k=some r/\Sh.get (CX n).funcs k=some ⟨r.params,r.Ar,r.result⟩/\r.params.length<=3/\(∀t∈r.params,DN n.decls t=true)/\DN n.decls r.result=true)∨(k<0∨(n.AH.length:Int)<=k):=by
 by_cases h:0<=k/\k<(n.AH.length:Int)
 ·obtain⟨r,h1,h2⟩:=NW h.1 h.2;have hm:=mB h2;obtain⟨q1,q2,q3⟩:=S.cO (Q5 r) (pF hm);refine .inl ⟨r,h.1,h.2,h1,?_,q1,q2,q3⟩;rw[Qc h.1];show ((n.AH.map λr=>(⟨r.params,r.Ar,r.result⟩:Bg)))[k.toNat]?=_;rw[mG,h2];rfl
 ·exact .inr (by omega)
theorem Xo {γ:Type}{bad:γ}{ts:List Int}(L:Nat->Int->Int->Option (γ ⊕ Int))(h0 :∀n r,L (n+1) r (ts.length:Int)=some (.inr r))
  (hs :∀n (i:Nat) r t,ts[i]?=some t->L (n+1) r (i:Int)=if t<0∨(0<i/\t≠r) then some (.inl bad) else L n t ((i+1:Nat):Int)) {N:Nat} (hN:ts.length<N) (rV:ts≠[]) (uN :∀t∈ts,t<0->t=-1) (r0:Int) :
  L N r0 0=some (if Gr ts<0 then .inl bad else .inr (Gr ts)):=by
 have rest:∀(d i n:Nat) (r:Int),0<=r->ts.length-i=d->0<i->i<=ts.length->d<n->L n r i=some (if (ts.drop i).all (λx=>decide (x=r))=true then .inr r else .inl bad):=by
  intro d
  induction d with
  | zero=>
   intro i n r _ h1 h2 h3 h4;obtain⟨n,rfl⟩ :∃q,n=q+1:=⟨n-1,by omega⟩
   rw[show i=ts.length by omega,h0,oa];rfl
  | succ d ih=>
   intro i n r hr h1 h2 h3 h4;obtain⟨n,rfl⟩ :∃q,n=q+1:=⟨n-1,by omega⟩
   obtain⟨t,ht,_⟩:=Bi (l:=ts) (i:=i) (by omega);rw[hs n i r t ht,drop_cons ht,oh];by_cases h5:t=r
   ·subst h5;rw[mJ (by rintro (h|h);omega;exact h.2 rfl),ih (i+1) n _ hr (by omega) (by omega) (by omega) (by omega)];simp
   ·rw[mI (.inr ⟨h2,h5⟩)];simp[h5]
 cases hts:ts with
 | nil=>exact absurd hts rV
 | cons t r=>
  obtain⟨n,hn⟩ :∃q,N=q+1:=⟨N-1,by omega⟩
  have h1:=hs n 0 r0 t (by rw[hts];rfl);rw[qg]at h1;have ru:1<=ts.length:=by rw[hts];simp
  rw[hn,h1];by_cases h2:t<0
  ·have:=uN t (by rw[hts];simp) h2;subst this;have ho:Gr (-1::r)=-1:=by
    show (if (r.all λx=>decide (x=-1))=true then (-1:Int) else -1)=-1;split<;>rfl
   rw[mI (.inl h2),ho,mI (by omega)]
  ·rw[mJ (by rintro (h|h);exact h2 h;exact absurd h.1 (pj _)),rest _ 1 n t (by omega) rfl (by omega) ru (by omega),hts,List.drop_succ_cons,nO];by_cases h3:r.all (λx=>decide (x=t))=true
   ·have ho:Gr (t::r)=t:=mI h3;rw[mI h3,ho,mJ h2]
   ·have ho:Gr (t::r)=-1:=mJ h3;rw[mJ h3,ho,mI (by omega)]
theorem XV {ts:List Int}:Gr ts=-1∨Gr ts∈ts:=by
 cases ts with
 | nil=>exact .inl rfl
 | cons t r=>
  unfold Gr;dsimp only;split
  ·exact .inr (by simp)
  ·exact .inl rfl
def Q3 (n:AT)(R1:AT->List Int->Block->Option Int)(R2:Ag->List Int->Block->Option Int)(T:List Int->Block->Int)(m:Nat):Prop:=
 ∀(v:List Int) (b:Block),Jz b->Bs b->Ff b<m->v.length+4*Ff b<=4000->(∀x∈v,DN n.decls x=true)->R1 n v b=some (T v b)/\R2 (CX n) v b=some (T v b)/\(T v b=-1∨DN n.decls (T v b)=true)
structure SK (n:AT) (s:Step) (v:List Int):Prop where
 XM:JL s
 size:Mz s<=1048576
 len:v.length+4*Pe s<=4000
 eU :∀x∈v,DN n.decls x=true
theorem Vc {k:List Block}{b:Block}(h:b∈k):Ff b<=JO k:=by
 induction k with
 | nil=>cases h
 | cons c k ih=>
  simp only[JO];rcases mc.1 h with rfl|h
  ·omega
  ·have:=ih h;omega
theorem UQ {N:Nat}{a b:List Int}(ha:a.length<=4000)(hb:b.length<=4000)(hN:2000000<=N):Dc N [a,b]=some (a++b):=by
 obtain⟨n,rfl⟩ :∃n,N=n+3:=⟨N-3,by omega⟩
 unfold Dc;have e1:CM [a,b] (n+3) 0 0=some ((a.length+b.length:Nat):Int):=by
  rw[CM,mI (by simp[AM]),show Sh.get [a,b] 0=some a from rfl];simp only[mA];rw[AM,BI (n:=(0:Int)+1) (by omega) (by omega),BI (by omega) (by omega),mJ (by rw[mX];omega)];rw[CM,mI (by simp[AM]),show Sh.get [a,b] (0+1)=some b from rfl];simp only[mA];rw[AM,BI (n:=(0:Int)+1+1) (by omega) (by omega),BI (by omega) (by omega),mJ (by rw[mX];omega)];rw[CM,mJ (by simp[AM])];congr 1;omega
 have e2:CL [a,b] (n+3) 0 []=some (a++b):=by
  rw[CL,mI (by simp[AM]),show Sh.get [a,b] 0=some a from rfl];simp only[mA];rw[CS [] a 8 (by simp;omega) (by simp;omega),BI (n:=(0:Int)+1) (by omega) (by omega)];simp only[mA,nV];rw[CL,mI (by simp[AM]),show Sh.get [a,b] (0+1)=some b from rfl];simp only[mA];rw[CS a b 8 (by omega) (by omega),BI (n:=(0:Int)+1+1) (by omega) (by omega)];simp only[mA];rw[CL,mJ (by simp[AM])]
 have e3:GR ((a.length+b.length:Nat):Int)=some []:=by
  unfold GR;rw[mJ (by simp;omega),BI (n:=(0:Int)-0) (by omega) (by omega),BI (by omega) (by omega)];by_cases h:0<a.length+b.length
  ·rw[mI (by simp;omega),show (((a.length+b.length:Nat):Int)-(0-0))=((a.length+b.length:Nat):Int) by omega,NA _ _ _ (by omega) (by omega)];simp only[mA];have:=kS (l:=List.replicate (a.length+b.length) (0:Int)) (j:=0) (by omega);rw[qg]at this;rw[this];rfl
  ·rw[mJ (by simp;omega)];rfl
 rw[e1];simp only[mA];rw[e3];simp only[mA];rw[e2];rfl
section
variable {n : AT} {R1 : AT -> List Int -> Block -> Option Int} {R2 : Ag -> List Int -> Block -> Option Int} {T : List Int -> Block -> Int} {s : Step} {v : List Int} {N : Nat}
theorem SK.Mk (V:SK n s v):v.length<=4000:=by have:=V.len;omega
theorem SK.KX (V:SK n s v):s.args.length<=1048576:=by have:=V.size;rw[Mo]at this;omega
theorem Yu (H:Q3 n R1 R2 T (Pe s))(V:SK n s v){b:Block}(hb:b∈s.kids){m:List Int}(hm:m.length<=3)(ht :∀x∈m,DN n.decls x=true):
  R1 n (v++m) b=some (T (v++m) b)/\R2 (CX n) (v++m) b=some (T (v++m) b)/\(T (v++m) b=-1∨DN n.decls (T (v++m) b)=true):=by
 have h1:=Vc hb;have h2:=Ql s;have h3:=O6 hb;have h4:=V.size;have h5:=V.len;refine H (v++m) b (V.XM.kids b hb) (by unfold Bs;omega) (by omega) (by rw[ml];omega) λx hx=>?_;rcases my.1 hx with h|h
 ·exact V.eU x h
 ·exact ht x h
def JT (T:List Int->Block->Int)(v:List Int)(ms:List (List Int))(ks:List Block):List Int:=List.zipWith (λm k=>T (v++m) k) ms ks
theorem Vh {ms:List (List Int)}{ks:List Block}{i:Nat}{m:List Int}{k:Block}(h1:ms[i]?=some m)(h2:ks[i]?=some k):(JT T v ms ks)[i]?=some (T (v++m) k):=by
 unfold JT;rw[List.getElem?_zipWith,h1,h2]
theorem VA (H:Q3 n R1 R2 T (Pe s))(V:SK n s v){ms:List (List Int)}(hm :∀m∈ms,m.length<=3/\∀x∈m,DN n.decls x=true):∀t∈JT T v ms s.kids,t=-1∨DN n.decls t=true:=λt ht=>by
 obtain⟨i,hi⟩:=ma.1 ht;unfold JT at hi;rw[List.getElem?_zipWith]at hi;cases h1:ms[i]? with
 | none=>rw[h1]at hi;simp at hi
 | some m=>
  cases h2:s.kids[i]? with
  | none=>rw[h1,h2]at hi;simp at hi
  | some k=>
   rw[h1,h2]at hi;simp only[mE]at hi;subst hi;obtain⟨q1,q2⟩:=hm m (mB h1);exact (Yu H V (mB h2) q1 q2).2.2
theorem Oy (H:Q3 n R1 R2 T (Pe s))(V:SK n s v)(hN:2000000<=N){ms:List (List Int)}(hl:ms.length=s.kids.length)(rV:ms≠[])(xk:ms.length<=10)(hm :∀m∈ms,m.length<=3/\∀x∈m,DN n.decls x=true):
  CF N R2 (CX n) v s.kids ms=some (if Gr (JT T v ms s.kids)<0 then (-1,false) else (Gr (JT T v ms s.kids),true)):=by
 unfold CF;have uH:(JT T v ms s.kids).length=s.kids.length:=by unfold JT;simp[hl]
 rw[Xo (bad:=(-1,false)) (ts:=JT T v ms s.kids) (Bo N (CX n) v s.kids ms R2) (λq r=>by rw[Bo,mJ (by simp[AM,uH])]) (λq i r t ht=>?_) (by omega) (λq=>by have:=mr List.length q;rw[uH,<- hl]at this;exact rV (mh (by simpa using this))) (λt ht hn=>by rcases VA H V hm t ht with q|q;exact q;have:=(Ny q).1;omega) (-1)]
 ·by_cases h:Gr (JT T v ms s.kids)<0<;>simp[h,Sh.cont]
 ·have hi:=(mC.1 ht).1;obtain⟨m,h1,vi⟩:=Bi (l:=ms) (i:=i) (by omega);obtain⟨k,h2,xj⟩:=Bi (l:=s.kids) (i:=i) (by omega);rw[Vh h1 h2]at ht;simp only[mE]at ht;subst ht;obtain⟨q1,q2⟩:=hm m vi;rw[Bo,mI (by simp[AM];omega),As h2];simp only[mA];rw[As h1];simp only[mA];have vd:=V.Mk;have hc:Dc N [v,m]=some (v++m):=UQ vd (by omega) hN;rw[hc];simp only[mA];rw[(Yu H V xj q1 q2).2.1,BI (by omega) (by omega),show ((i:Int)+1)=((i+1:Nat):Int) by omega];simp only[mA];by_cases c1:T (v++m) k<0
  ·simp[c1]
  ·by_cases c2:0<i
   ·by_cases c3:T (v++m) k=r
    ·have c1':¬ r<0:=c3▸c1;simp[c1',c2,c3]
    ·simp[c1,c2,c3]
   ·simp[c1,c2]
theorem Wb (H:Q3 n R1 R2 T (Pe s))(V:SK n s v)(S:JI n)(hN:2000000<=N){ms:List (List Int)}(h:(s.op=7/\ms=[[],[]])∨(s.op=8/\ms=(E5 n.decls s.num).map (NJ n.decls))):
  FJ N R1 n v s=some (if ms=[]∨¬ s.kids.length=ms.length then -1 else Gr (JT T v ms s.kids)):=by
 have hD:=S.PX;have hn:=S.nc;have vd:=V.Mk;have uI:=NQ S.Vr s.num;unfold FJ;rw[PW (by omega) (by omega) hN];simp only[mA];have hmany:(if decide (s.op=7)=true then some (2:Int) else some (Sh.len (E5 n.decls s.num)))=some (ms.length:Int):=by
  rcases h with ⟨h1,h2⟩|⟨h1,h2⟩
  ·rw[h2];simp[h1]
  ·rw[h2];simp[h1,AM]
 rw[hmany];simp only[mA,AM];by_cases h0:ms=[]
 ·have eg:(if ms=[]∨¬ s.kids.length=ms.length then (-1:Int) else Gr (JT T v ms s.kids))=-1:=mI (.inl h0);rw[eg];simp[h0]
 ·have xQ:¬ ((ms.length:Int)=0):=λq=>h0 (mh (by omega));by_cases hl:s.kids.length=ms.length
  ·have vR:((s.kids.length:Int)=(ms.length:Int)):=by omega
   have eg:(if ms=[]∨¬ s.kids.length=ms.length then (-1:Int) else Gr (JT T v ms s.kids))=Gr (JT T v ms s.kids):=mJ (by rintro (q|q);exact h0 q;exact q hl);rw[eg];simp only[xQ,vR,mY,mZ,nB,mF,mW,mA];have uH:(JT T v ms s.kids).length=s.kids.length:=by unfold JT;simp[hl]
   have xk:ms.length<=3:=by rcases h with ⟨_,h2⟩|⟨_,h2⟩<;>rw[h2]<;>simp;exact uI
   have hm:∀m∈ms,m.length<=3/\∀x∈m,DN n.decls x=true:=λm hm=>by
    rcases h with ⟨_,h2⟩|⟨_,h2⟩
    ·rw[h2]at hm;simp at hm;subst hm;simp
    ·rw[h2]at hm;obtain⟨c,hc,rfl⟩:=mU.1 hm;exact (PR S hc hN).2.2
   rw[Xo (bad:=(-1:Int)) (ts:=JT T v ms s.kids) (Dv N (ms.length:Int) n v s (E5 n.decls s.num) R1) (λq r=>by rw[Dv,mJ (by simp;omega)]) (λq i r t ht=>?_) (by omega) (λq=>by have:=mr List.length q;rw[uH,hl]at this;exact h0 (mh (by simpa using this))) (λt ht hn=>by rcases VA H V hm t ht with q|q;exact q;have:=(Ny q).1;omega) 0]
   ·by_cases q:Gr (JT T v ms s.kids)<0
    ·have:Gr (JT T v ms s.kids)=-1:=by
      rcases XV (ts:=JT T v ms s.kids) with z|z
      ·exact z
      ·rcases VA H V hm _ z with y|y
       ·exact y
       ·have:=(Ny y).1;omega
     rw[this];simp[Sh.cont]
    ·simp[q,Sh.cont]
   ·have hi:=(mC.1 ht).1;obtain⟨m,h1,vi⟩:=Bi (l:=ms) (i:=i) (by omega);obtain⟨k,h2,xj⟩:=Bi (l:=s.kids) (i:=i) (by omega);rw[Vh h1 h2]at ht;simp only[mE]at ht;subst ht;obtain⟨q1,q2⟩:=hm m vi;have su:(if decide (s.op=8)=true then (Sh.get (E5 n.decls s.num) i).bind λc43=>(CH N n.decls c43).bind λq44=>(Gm v q44).bind λvz=>some vz else some v)=some (v++m):=by
     rcases h with ⟨o1,o2⟩|⟨o1,o2⟩
     ·have:m=[]:=by rw[o2]at vi;simpa using vi
      simp[o1,this]
     ·rw[o2]at h1;rw[mG,mK]at h1;obtain⟨c,hc,rfl⟩:=h1;simp only[o1,mZ,mm];rw[As hc];simp only[mA];rw[(PR S (mB hc) hN).1];simp only[mA];unfold Gm DW;rw[CS [] v 8 (by simp;omega) (by simp;omega)];simp only[mA,nV];rw[CS _ _ 8 (by omega) (by omega)];rfl
    rw[Dv,mI (by simp;omega),su,As h2];simp only[mA];rw[(Yu H V xj q1 q2).1,BI (by omega) (by omega),show ((i:Int)+1)=((i+1:Nat):Int) by omega];simp only[mA];by_cases c1:T (v++m) k<0
    ·simp[c1]
    ·by_cases c2:0<i
     ·by_cases c3:T (v++m) k=r
      ·have c1':¬ r<0:=c3▸c1;simp[c1',c2,c3]
      ·simp[c1,c2,c3]
     ·simp[c1,c2]
  ·have vR:¬ ((s.kids.length:Int)=(ms.length:Int)):=by omega
   have eg:(if ms=[]∨¬ s.kids.length=ms.length then (-1:Int) else Gr (JT T v ms s.kids))=-1:=mI (.inr hl);rw[eg];simp[h0,xQ,vR]
theorem QB (S:JI n)(hN:2000000<=N)(t:Int):CA N (CX n) t=some ((E5 n.decls t).map (NJ n.decls)):=by
 have hD:=S.PX;have hn:=S.nc;have uI:=NQ S.Vr t;unfold CA;rw[show (CX n).decls=n.decls from rfl,Uo (by omega) (by omega) hN];simp only[mA];have hm:∀c∈E5 n.decls t,HF N n.decls c=some (NJ n.decls c):=λc hc=>(PR S hc hN).2.1;generalize E5 n.decls t=C at uI hm;have key:∀{M i:Nat},i<=C.length->C.length-i<M->By N (CX n) C M i ((C.take i).map (NJ n.decls))=some (C.map (NJ n.decls)):=by
  intro M i hi hM;refine BZ C.length (λM i=>By N (CX n) C M i ((C.take i).map (NJ n.decls))=some (C.map (NJ n.decls))) ?_ ?_ hi hM
  ·intro q;rw[By,mJ (by simp[AM]),nI]
  ·intro q i hi ih;obtain⟨c,hc,vB⟩:=Bi hi;rw[By,mI (by simp[AM];omega),As hc];simp only[mA];rw[show (CX n).decls=n.decls from rfl,hm c vB];simp only[mA];rw[CS _ _ _ (by simp;omega) (by simp;omega),BI (by omega) (by omega),show ((i:Int)+1)=((i+1:Nat):Int) by omega];simp only[mA];rw[<- ih,EA hc,mu];rfl
 have:=key (mV _) (by omega:C.length-0<N);rw[qg,oU,oI]at this;rw[this];rfl
end
end RC
namespace RC
open Go
def Cf (N:Nat)(qk:AT->(List Int)->Block->Option (Int))(p0:AT)(p1:(List Int))(p2:Step):Option (Int):=
 Sh.cont (
  if (decide (p2.op=0))=true then
   (
    if (decide ((Sh.len p2.args)=0))=true then
     (Bd p2.num (-999) 999).bind λsT=>
     some sT
    else
     some false
   ).bind λt15=>
   if t15=true then
    some (Sum.inl 0)
   else
    some (Sum.inr ())
  else
   (
    if (decide (p2.op=1))=true then
     some true
    else
    if (decide (p2.op=2))=true then
     some true
    else
    if (decide (p2.op=3))=true then
     some true
    else
     some (decide (p2.op=4))
   ).bind λt22=>
   if t22=true then
    (Be N p1 p2.args [(0:Int),0]).bind λvP=>
    if vP=true then
     some (Sum.inl 0)
    else
     some (Sum.inr ())
   else
   if (decide (p2.op=5))=true then
    (Be N p1 p2.args [(0:Int)]).bind λuD=>
    if uD=true then
     some (Sum.inl 0)
    else
     some (Sum.inr ())
   else
   if (decide (p2.op=6))=true then
    (
     Option.bind (Cq N p0.decls p2.num) λwN=>
     if (decide (0<wN))=true then
      (CH N p0.decls p2.num).bind λvz=>
      (Be N p1 p2.args vz).bind λxT=>
      some xT
     else
      some false
    ).bind λt38=>
    if t38=true then
     (Cq N p0.decls p2.num).bind λym=>
     some (Sum.inl ym)
    else
     some (Sum.inr ())
   else
   if (decide (p2.op=7))=true then
    (Be N p1 p2.args [(0:Int)]).bind λq50=>
    if q50=true then
     (FJ N qk p0 p1 p2).bind λwj=>
     some (Sum.inl wj)
    else
     some (Sum.inr ())
   else
   if (decide (p2.op=8))=true then
    (Be N p1 p2.args [p2.num]).bind λzp=>
    if zp=true then
     (FJ N qk p0 p1 p2).bind λxu=>
     some (Sum.inl xu)
    else
     some (Sum.inr ())
   else
    (
     if (decide (p2.op=9))=true then
      some true
     else
      some (decide (p2.op=10))
    ).bind λt62=>
    if t62=true then
     (EX N p0 p1 p2).bind λq66=>
     some (Sum.inl q66)
    else
    if (decide (p2.op=11))=true then
     (
      if (decide ((Sh.len p2.args)=2))=true then
       (Sh.get p2.args 0).bind λyp=>
       (Bd yp 0 (Sh.w ((Sh.len p1)-1))).bind λwm=>
       if wm=true then
        (Sh.get p1 yp).bind λc82=>
        (Gq p0.decls c82).bind λq83=>
        some q83
       else
        some false
      else
       some false
     ).bind λt70=>
     if t70=true then
      (Sh.get p2.args 0).bind λc74=>
      (Sh.get p1 c74).bind λc75=>
      (Sh.get p0.decls (Sh.w (c75-1))).bind λyr=>
      (Sh.sl p2.args 1 (Sh.len p2.args)).bind λl79=>
      (Be N p1 l79 [yr.from_]).bind λwm=>
      if wm=true then
       some (Sum.inl yr.to)
      else
       some (Sum.inr ())
     else
      some (Sum.inr ())
    else
     (
      if (decide (p2.op=14))=true then
       some true
      else
      if (decide (p2.op=15))=true then
       some true
      else
      if (decide (p2.op=16))=true then
       some true
      else
       some (decide (p2.op=17))
     ).bind λt85=>
     if t85=true then
      (FV p0 p1 p2).bind λq89=>
      some (Sum.inl q89)
     else
      some (Sum.inr ())
 ) (id) λ()=>
 some (-1)
def DJ (N:Nat)(qh:Ag->(List Int)->Block->Option (Int))(p0:Ag)(p1:(List Int))(p2:Step)(l8:List Int):Option (Int×Bool):=
 (DP p2.op).bind λwC=>
 if wC=true then
  (
   if (decide ((Sh.len l8)=1))=true then
    (Sh.get l8 0).bind λc38=>
    if (!decide (c38=0))=true then
     if (decide (p2.num=0))=true then
      some (decide ((Sh.len p2.kids)=0))
     else
      some false
    else
     some false
   else
    some false
  ).bind λvJ=>
  (
   Option.bind (
    if vJ=true then
     if (decide (p2.op=16))=true then
      some true
     else
      some (decide (p2.op=17))
    else
     some false
   ) λt28=>
   if t28=true then
    (Sh.get l8 0).bind λyv=>
    (Gs p0.decls yv).bind λwB=>
    some (!wB.2)
   else
    some vJ
  ).bind λwo=>
  some (-1,wo)
 else
 if (decide (p2.op=7))=true then
  (
   if (!decide ((Sh.len l8)=1))=true then
    some true
   else
    (Sh.get l8 0).bind λyi=>
    if (!decide (yi=0))=true then
     some true
    else
    if (!decide (p2.num=0))=true then
     some true
    else
     some (!decide ((Sh.len p2.kids)=2))
  ).bind λt45=>
  if t45=true then
   some (-1,false)
  else
   (Sh.mk [] 2 24).bind λl50=>
   (CF N qh p0 p1 p2.kids l50).bind λyy=>
   some (yy.1,yy.2)
 else
 if (decide (p2.op=8))=true then
  (CA N p0 p2.num).bind λwq=>
  (
   if (!decide ((Sh.len l8)=1))=true then
    some true
   else
    (Sh.get l8 0).bind λzy=>
    if (!decide (zy=p2.num))=true then
     some true
    else
    if (decide ((Sh.len wq)=0))=true then
     some true
    else
     some (!decide ((Sh.len p2.kids)=(Sh.len wq)))
  ).bind λt62=>
  if t62=true then
   some (-1,false)
  else
   (CF N qh p0 p1 p2.kids wq).bind λzA=>
   some (zA.1,zA.2)
 else
  (
   if (decide (0<(Sh.len p2.kids)))=true then
    some true
   else
   if (decide (p2.op=10))=true then
    if (decide (0<=p2.num))=true then
     if (decide (p2.num<(Sh.len p0.funcs)))=true then
      (Sh.get p0.funcs p2.num).bind λwu=>
      some (decide (0<(Sh.len wu.Ar)))
     else
      some false
    else
     some false
   else
    some false
  ).bind λt73=>
  if t73=true then
   some (-1,false)
  else
   (Ai N p0 p2.op p2.num l8).bind λvn=>
   some (vn.1,vn.2)
def E6 (p1:(List Int))(p2:Step):Option Bool:=
  if (!decide (p2.BB=0))=true then
   if (!decide (p2.op=6))=true then
    some true
   else
   if (decide (p2.BB<1))=true then
    some true
   else
   if (decide ((Sh.len p1)<p2.BB))=true then
    some true
   else
    (Sh.get p1 (Sh.w (p2.BB-1))).bind λc88=>
    some (decide (c88=0))
  else
   some false
section
variable {n : AT} {R1 : AT -> List Int -> Block -> Option Int} {R2 : Ag -> List Int -> Block -> Option Int} {T : List Int -> Block -> Int} {s : Step} {v : List Int} {N : Nat}
theorem WK (hv :∀x∈v,DN n.decls x=true)(hl:v.length<=1048576):∃b,Bb v s=some b/\E6 v s=some (!b):=by
 unfold Bb E6;by_cases h0:s.BB=0
 ·exact⟨true,by simp[h0],by simp[h0]⟩
 ·by_cases h6:s.op=6
  ·by_cases hr:1<=s.BB/\s.BB<=(v.length:Int)
   ·have hw:Sh.w (s.BB-1)=s.BB-1:=BI (by omega) (by omega);obtain⟨x,x1,x2⟩:=NW (l:=v) (j:=s.BB-1) (by omega) (by omega);have hx:=(Ny (hv x (mB x2))).1;have r1:¬ s.BB<1:=by omega
    have r2:¬ (v.length:Int)<s.BB:=by omega
    rw[Cp,hw,x1,AM];by_cases q:x=0
    ·exact⟨false,by simp[h0,h6,hr.1,hr.2,q],by simp[h0,h6,r1,r2,q]⟩
    ·have q':0<x:=by omega
     exact⟨true,by simp[h0,h6,hr.1,hr.2,q'],by simp[h0,h6,r1,r2,q]⟩
   ·refine⟨false,?_,?_⟩
    ·rw[Cp,AM];have:(decide (1<=s.BB)&&decide (s.BB<=(v.length:Int)))=false:=by
      rw[nG,mR,mR];omega
     rw[this];simp[h0,h6]
    ·rw[AM];by_cases r1:s.BB<1
     ·simp[h0,h6,r1]
     ·have r2:(v.length:Int)<s.BB:=by omega
      simp[h0,h6,r1,r2]
  ·exact⟨false,by simp[h0,h6],by simp[h0,h6]⟩
def Of (o:Int):Bool:=decide (o=0∨o=6∨o=8∨o=9∨o=10)
theorem ay (o:Int):IZ o=some (Of o):=by
 unfold IZ Of;by_cases h0:o=0
 ·simp[h0]
 by_cases h6:o=6
 ·simp[h6]
 by_cases h8:o=8
 ·simp[h8]
 by_cases h9:o=9
 ·simp[h9]
 simp[h0,h6,h8,h9]
def Gz (b:Bool)(s:Step):Bool:=((decide (s.num=0) || Of s.op)&&b)&&(decide (s.kids=[]) || (decide (s.op=7) || decide (s.op=8)))
theorem NY {b:Bool}(hb:Bb v s=some b):EF N R1 n v s=if Gz b s=true then Cf N R1 n v s else some (-1):=by
 have e:EF N R1 n v s=(
  if (!decide (s.num=0))=true then
   (IZ s.op).bind λwh=>
   if (!wh)=true then some true
   else (Bb v s).bind λwi=>if (!wi)=true then some true else if (decide (0<(Sh.len s.kids)))=true then (if (!decide (s.op=7))=true then some (!decide (s.op=8)) else some false) else some false
  else (Bb v s).bind λvY=>if (!vY)=true then some true else if (decide (0<(Sh.len s.kids)))=true then (if (!decide (s.op=7))=true then some (!decide (s.op=8)) else some false) else some false).bind λt4=>if t4=true then some (-1) else Cf N R1 n v s:=rfl
 rw[e,ay,hb];have hk:(if (decide (0<(Sh.len s.kids)))=true then (if (!decide (s.op=7))=true then some (!decide (s.op=8)) else some false) else some false)=some (!(decide (s.kids=[]) || (decide (s.op=7) || decide (s.op=8)))):=by
  cases hk:s.kids with
  | nil=>simp[AM]
  | cons a r=>
   have:decide ((0:Int)<Sh.len (a::r))=true:=pb (by rw[AM,mf];omega);rw[this];by_cases h7:s.op=7
   ·simp[h7]
   ·simp[h7]
 simp only[mA];rw[hk];unfold Gz;cases decide (s.num=0)<;>cases Of s.op<;>cases b<;>cases (decide (s.kids=[]) || (decide (s.op=7) || decide (s.op=8)))<;>simp
theorem LX (hl:v.length<=1048576)(ha:s.args.length<=1048576)(hN:2000000<=N){b:Bool}(hb:E6 v s=some (!b)):
  Bf N R2 (CX n) v s=(Cu v s.args).elim (some (-1,false)) λl=>if b=true then DJ N R2 (CX n) v s l else some (-1,false):=by
 have e:Bf N R2 (CX n) v s=(Sh.mk (0:Nat) (Sh.len s.args) 8).bind λl3=>Sh.cont (BP v s N 0 []) (id) λl8=>(E6 v s).bind λt12=>if t12=true then some (-1,false) else DJ N R2 (CX n) v s l8:=rfl;rw[e,AM,NA _ _ _ (by omega) (by omega),cD hl ha hN,hb];cases Cu v s.args with
 | none=>rfl
 | some l=>cases b<;>simp[Sh.cont]
def Jx (n:AT)(R1:AT->List Int->Block->Option Int)(R2:Ag->List Int->Block->Option Int)(N:Nat)(v:List Int)(s:Step):Prop:=
 ∃(q t:Int) (ok:Bool),EF N R1 n v s=some q/\Bf N R2 (CX n) v s=some (t,ok)/\(if ok=true then 0<=q/\(if Om s.op=true then True else t=q/\DN n.decls q=true/\0<=s.op/\s.op<=11) else q<0)
theorem Gp {q t:Int}{ok:Bool}(h1:EF N R1 n v s=some q)(h2:Bf N R2 (CX n) v s=some (t,ok))(h3:ok=false)(h4:q<0):Jx n R1 R2 N v s:=⟨q,t,ok,h1,h2,by rw[h3];exact h4⟩
theorem fC {q:Int}(h1:EF N R1 n v s=some q)(h2:Bf N R2 (CX n) v s=some (q,true))(h3:DN n.decls q=true)(h4:0<=s.op)(h5:s.op<=11):Jx n R1 R2 N v s:=
 ⟨q,q,true,h1,h2,by
  have:Om s.op=false:=by unfold Om;rw[nG,mR,mR];omega
  rw[mI rfl,mJ (by rw[this];simp)];exact⟨(Ny h3).1,rfl,h3,h4,h5⟩⟩
theorem HH (V:SK n s v)(hN:2000000<=N){b:Bool}(sD:Bb v s=some b)(sE:E6 v s=some (!b))(h0:0<=s.op)(h5:s.op<=11){want:List Int}{c:Bool}{t:Int}(ht:c=true->DN n.decls t=true)
  (hs:Gz b s=true->Cf N R1 n v s=some (if c=true/\Cu v s.args=some want then t else -1))
  (hi :∀l,Cu v s.args=some l->Gz b s=true->∃t',DJ N R2 (CX n) v s l=some (t',c&&decide (l=want))/\(c=true->l=want->t'=t))
  (vv :∀l,Cu v s.args=some l->Gz b s=false->b=true->∃t',DJ N R2 (CX n) v s l=some (t',false)):Jx n R1 R2 N v s:=by
 have hl:v.length<=1048576:=by have:=V.Mk;omega
 have e1:=NY (n:=n) (R1:=R1) (N:=N) sD;have e2:=LX (n:=n) (R2:=R2) hl V.KX hN sE;cases hA:Cu v s.args with
 | none=>
  rw[hA]at e2 hs;refine Gp (q:=-1) ?_ e2 rfl (by omega);rw[e1];by_cases hp:Gz b s=true
  ·rw[mI hp,hs hp];simp
  ·rw[mJ hp]
 | some l=>
  rw[hA]at e2 hs;simp only[ni]at e2;cases hp:Gz b s with
  | false=>
   rw[hp]at e1;simp only[mF,mW]at e1;cases b with
   | false=>exact Gp e1 e2 rfl (by omega)
   | true=>
    obtain⟨t',h7⟩:=vv l hA hp rfl;simp only[mm]at e2;exact Gp e1 (e2.trans h7) rfl (by omega)
  | true=>
   rw[hp]at e1;simp only[mm]at e1;have hbt:b=true:=by
    unfold Gz at hp;simp only[mQ]at hp;exact hp.1.2
   rw[hbt]at e2;simp only[mm]at e2;obtain⟨t',h7,h8⟩:=hi l hA hp;by_cases hc:c=true/\l=want
   ·have ht':=h8 hc.1 hc.2;rw[hs hp,mI ⟨hc.1,by rw[hc.2]⟩]at e1;rw[h7,ht',hc.1,hc.2]at e2;simp only[mZ,Bool.and_self]at e2;exact fC e1 e2 (ht hc.1) h0 h5
   ·rw[hs hp,mJ (by rintro⟨q1,q2⟩;exact hc ⟨q1,by simpa using q2⟩)]at e1;refine Gp e1 (e2.trans h7) ?_ (by omega);cases c with
    | false=>rfl
    | true=>simp only[true_and]at hc;simp[hc]
end
end RC
namespace RC
open Go
section
variable {n : AT} {R1 : AT -> List Int -> Block -> Option Int} {R2 : Ag -> List Int -> Block -> Option Int} {T : List Int -> Block -> Int} {s : Step} {v : List Int} {N : Nat} {b : Bool}
theorem GW {v args l:List Int}(h:Cu v args=some l):l.length=args.length:=(Mx.1 h).1.symm
theorem Z5 (h0:0<=s.op)(h5:s.op<=11):DP s.op=some false:=by
 rw[My];have:Om s.op=false:=by unfold Om;rw[nG,mR,mR];omega
 rw[this]
theorem D7 {l:List Int}{t:Int}{ok:Bool}(h0:0<=s.op)(h5:s.op<=11)(h7:¬ s.op=7)(h8:¬ s.op=8)(h10:¬ s.op=10)(hk:s.kids=[])(hs:Ai N (CX n) s.op s.num l=some (t,ok)):DJ N R2 (CX n) v s l=some (t,ok):=by
 unfold DJ;rw[Z5 h0 h5];simp only[mA,mF,mW,h7,h8,h10,mY];rw[hs,hk];simp[AM]
theorem KO {l:List Int}(h0:0<=s.op)(h5:s.op<=11)(h7:¬ s.op=7)(h8:¬ s.op=8)(hk:¬ s.kids=[]):DJ N R2 (CX n) v s l=some (-1,false):=by
 unfold DJ;rw[Z5 h0 h5];have:decide ((0:Int)<Sh.len s.kids)=true:=by
  cases hq:s.kids with
  | nil=>exact absurd hq hk
  | cons a r=>exact pb (by rw[AM,mf];omega)
 simp only[mA,mF,mW,h7,h8,mY,this,mm]
theorem Gx (h7:¬ s.op=7)(h8:¬ s.op=8)(hp:Gz b s=true):s.kids=[]:=by
 unfold Gz at hp;simp only[mQ,px,mX,h7,h8,pt]at hp;exact hp.2
theorem OU (h7:¬ s.op=7)(h8:¬ s.op=8)(hp:Gz b s=false)(hb:b=true):¬ s.kids=[]∨(¬ s.num=0/\Of s.op=false):=by
 by_cases hk:s.kids=[]
 ·right;unfold Gz at hp;simp only[hb,hk,mZ,Bool.and_true,Bool.true_or,Bool.or_eq_false_iff,mR]at hp;exact hp
 ·exact .inl hk
theorem WN (hn:Of s.op=false)(hp:Gz b s=true):s.num=0:=by
 unfold Gz at hp;simp only[mQ,px,mX,hn,mF,pt]at hp;exact hp.1.1
theorem iT (V:SK n s v)(hN:2000000<=N)(sD:Bb v s=some b)(sE:E6 v s=some (!b))(h:s.op=0):Jx n R1 R2 N v s:=by
 have ha:=V.KX;refine HH V hN sD sE (by omega) (by omega) (want:=[]) (c:=decide (-999<=s.num)&&decide (s.num<=999)) (t:=0) (λ_=>kv) (λhp=>?_) (λl hA hp=>⟨0,?_,λ_ _=>rfl⟩) (λl hA hp hb=>?_)
 ·have e1:(Cu v s.args=some [])↔s.args=[]:=by
   constructor
   ·intro q;exact mh (GW q).symm
   ·intro q;rw[q];rfl
  unfold Cf;simp only[h,mZ,mm,len_nil,Cp,e1];by_cases a:-999<=s.num<;>by_cases c:s.num<=999<;>by_cases d:s.args=[]<;>simp[a,c,d,Sh.cont]
 ·exact D7 (by omega) (by omega) (by omega) (by omega) (by omega) (Gx (by omega) (by omega) hp) (Xc h)
 ·rcases OU (by omega) (by omega) hp hb with q|q
  ·exact⟨_,KO (by omega) (by omega) (by omega) (by omega) q⟩
  ·rw[h]at q;exact absurd q.2 (by decide)
theorem dQ (V:SK n s v)(hN:2000000<=N)(sD:Bb v s=some b)(sE:E6 v s=some (!b))(h:s.op=1∨s.op=2∨s.op=3∨s.op=4):Jx n R1 R2 N v s:=by
 have ha:=V.KX;have vd:=V.Mk;have hh:Of s.op=false:=by rcases h with h|h|h|h<;>rw[h]<;>decide
 refine HH V hN sD sE (by omega) (by omega) (want:=[0,0]) (c:=decide (s.num=0)) (t:=0) (λ_=>kv) (λhp=>?_) (λl hA hp=>⟨0,?_,λ_ _=>rfl⟩) (λl hA hp hb=>?_)
 ·have hn:=WN hh hp;have e2:Be N v s.args [0,0]=some (decide (Cu v s.args=some [0,0])):=KY (by omega) ha hN;unfold Cf;rcases h with h|h|h|h<;>simp only[h,Int.reduceEq,mZ,mY,mF,mm,mW,mA]<;>rw[e2]<;>by_cases q:Cu v s.args=some [0,0]<;>simp[q,hn,Sh.cont]
 ·have hl:=GW hA;exact D7 (by omega) (by omega) (by omega) (by omega) (by omega) (Gx (by omega) (by omega) hp) (Pz (by omega) hN h)
 ·have hl:=GW hA;by_cases hk:s.kids=[]
  ·rcases OU (by omega) (by omega) hp hb with q|q
   ·exact absurd hk q
   ·exact⟨0,D7 (by omega) (by omega) (by omega) (by omega) (by omega) hk (by rw[show (CX n)=⟨n.decls,(CX n).funcs⟩ from rfl,Pz (by omega) hN h];simp[q.1])⟩
  ·exact⟨_,KO (by omega) (by omega) (by omega) (by omega) hk⟩
theorem dJ (V:SK n s v)(hN:2000000<=N)(sD:Bb v s=some b)(sE:E6 v s=some (!b))(h:s.op=5):Jx n R1 R2 N v s:=by
 have ha:=V.KX;have vd:=V.Mk;have hh:Of s.op=false:=by rw[h];decide
 refine HH V hN sD sE (by omega) (by omega) (want:=[0]) (c:=decide (s.num=0)) (t:=0) (λ_=>kv) (λhp=>?_) (λl hA hp=>⟨0,?_,λ_ _=>rfl⟩) (λl hA hp hb=>?_)
 ·have hn:=WN hh hp;have e2:Be N v s.args [0]=some (decide (Cu v s.args=some [0])):=KY (by omega) ha hN;unfold Cf;simp only[h,Int.reduceEq,mZ,mY,mF,mm,mW,mA];rw[e2];by_cases q:Cu v s.args=some [0]<;>simp[q,hn,Sh.cont]
 ·have hl:=GW hA;exact D7 (by omega) (by omega) (by omega) (by omega) (by omega) (Gx (by omega) (by omega) hp) (QU (by omega) hN h)
 ·have hl:=GW hA;by_cases hk:s.kids=[]
  ·rcases OU (by omega) (by omega) hp hb with q|q
   ·exact absurd hk q
   ·exact⟨0,D7 (by omega) (by omega) (by omega) (by omega) (by omega) hk (by rw[show (CX n)=⟨n.decls,(CX n).funcs⟩ from rfl,QU (by omega) hN h];simp[q.1])⟩
  ·exact⟨_,KO (by omega) (by omega) (by omega) (by omega) hk⟩
theorem ZP (h:JL s):KZ s.num:=by cases h;assumption
theorem ir (V:SK n s v)(S:JI n)(hN:2000000<=N)(sD:Bb v s=some b)(sE:E6 v s=some (!b))(h:s.op=6):Jx n R1 R2 N v s:=by
 have ha:=V.KX;have vd:=V.Mk;have hI:=ZP V.XM;have tW:∀l,Cu v s.args=some l->Gz b s=false->b=true->∃t',DJ N R2 (CX n) v s l=some (t',false):=λl hA hp hb=>by
  rcases OU (by omega) (by omega) hp hb with q|q
  ·exact⟨_,KO (by omega) (by omega) (by omega) (by omega) q⟩
  ·rw[h]at q;exact absurd q.2 (by decide)
 have tT:(∃t x,0<t/\DN n.decls t=true/\Cq N n.decls s.num=some t/\CH N n.decls s.num=some x)∨Cq N n.decls s.num=some (-1):=by
  rcases Qa (G:=(CX n).funcs) (ks:=[]) S (by simp) hI hN h with ⟨t,x,q1,q2,q3,q4,q5,q6⟩|⟨q1,q2⟩
  ·exact .inl ⟨t,x,q1,q2,q4,q5⟩
  ·exact .inr q1
 rcases tT with ⟨t,x,q1,q2,q4,q5⟩|q1
 ·refine HH V hN sD sE (by omega) (by omega) (want:=x) (c:=true) (t:=t) (λ_=>q2) (λhp=>?_) (λl hA hp=>⟨t,?_,λ_ _=>rfl⟩) tW
  ·have e2:Be N v s.args x=some (decide (Cu v s.args=some x)):=KY (by omega) ha hN;unfold Cf;simp only[h,Int.reduceEq,mZ,mY,mF,mm,mW,mA];rw[q4,q5];simp only[mA];rw[e2];by_cases q:Cu v s.args=some x<;>simp[q,q1,Sh.cont]
  ·have hl:=GW hA;refine D7 (by omega) (by omega) (by omega) (by omega) (by omega) (Gx (by omega) (by omega) hp) ?_;rcases Qa (G:=(CX n).funcs) (ks:=l) S (by omega) hI hN h with ⟨t',x',p1,p2,p3,p4,p5,p6⟩|⟨p1,p2⟩
   ·rw[q4]at p4;rw[q5]at p5;cases p4;cases p5;rw[Bool.true_and];exact p6
   ·rw[q4]at p1;cases p1;omega
 ·refine HH V hN sD sE (by omega) (by omega) (want:=[]) (c:=false) (t:=0) (λq=>nomatch q) (λhp=>?_) (λl hA hp=>⟨-1,?_,λq=>nomatch q⟩) tW
  ·unfold Cf;simp only[h,Int.reduceEq,mZ,mY,mF,mm,mW,mA];rw[q1];simp[Sh.cont]
  ·have hl:=GW hA;refine D7 (by omega) (by omega) (by omega) (by omega) (by omega) (Gx (by omega) (by omega) hp) ?_;rcases Qa (G:=(CX n).funcs) (ks:=l) S (by omega) hI hN h with ⟨t',x',p1,p2,p3,p4,p5,p6⟩|⟨p1,p2⟩
   ·rw[q1]at p4;cases p4;omega
   ·rw[Bool.false_and];exact p2
end
end RC
namespace RC
open Go
section
variable {n : AT} {R1 : AT -> List Int -> Block -> Option Int} {R2 : Ag -> List Int -> Block -> Option Int} {T : List Int -> Block -> Int} {s : Step} {v : List Int} {N : Nat} {b : Bool}
theorem We:∀m∈([[],[]]:List (List Int)),m.length<=3/\∀x∈m,DN n.decls x=true:=λm hm=>by
 simp at hm;subst hm;simp
theorem ct {o:Int}(h0:0<=s.op)(h5:s.op<=11)(ho:o=-1∨DN n.decls o=true)(h1:EF N R1 n v s=some o)(h2:Bf N R2 (CX n) v s=some (if o<0 then (-1,false) else (o,true))):Jx n R1 R2 N v s:=by
 by_cases h:o<0
 ·rw[mI h]at h2;exact Gp h1 h2 rfl h
 ·rw[mJ h]at h2;refine fC h1 h2 ?_ h0 h5;rcases ho with q|q
  ·omega
  ·exact q
theorem cN (H:Q3 n R1 R2 T (Pe s))(V:SK n s v){ms:List (List Int)}(hm :∀m∈ms,m.length<=3/\∀x∈m,DN n.decls x=true):Gr (JT T v ms s.kids)=-1∨DN n.decls (Gr (JT T v ms s.kids))=true:=by
 rcases XV (ts:=JT T v ms s.kids) with z|z
 ·exact .inl z
 ·exact VA H V hm _ z
theorem kV (H:Q3 n R1 R2 T (Pe s))(V:SK n s v)(S:JI n)(hN:2000000<=N)(sD:Bb v s=some b)(sE:E6 v s=some (!b))(h:s.op=7):Jx n R1 R2 N v s:=by
 have hl:v.length<=1048576:=by have:=V.Mk;omega
 have e1:=NY (n:=n) (R1:=R1) (N:=N) sD;have e2:=LX (n:=n) (R2:=R2) hl V.KX hN sE;have ht:Be N v s.args [0]=some (decide (Cu v s.args=some [0])):=KY hl V.KX hN;have hp:Gz b s=(decide (s.num=0)&&b):=by
  unfold Gz;rw[h,show Of 7=false by decide];simp
 have rb:Cf N R1 n v s=some (if Cu v s.args=some [0] then (if s.kids.length=2 then Gr (JT T v [[],[]] s.kids) else -1) else -1):=by
  unfold Cf;simp only[h,Int.reduceEq,mZ,mY,mF,mm,mW,mA];rw[ht,Wb H V S hN (.inl ⟨h,rfl⟩)];by_cases q:Cu v s.args=some [0]
  ·by_cases q2:s.kids.length=2<;>simp[q,q2,Sh.cont]
  ·simp[q,Sh.cont]
 rw[hp,rb]at e1;cases hA:Cu v s.args with
 | none=>
  rw[hA]at e1 e2;refine Gp (q:=-1) ?_ e2 rfl (by omega);rw[e1];simp
 | some l=>
  rw[hA]at e1 e2;simp only[ni]at e2;have xE:decide (Sh.len l=1)=decide (l.length=1):=nZ.2 (by rw[AM];omega);cases b with
  | false=>
   refine Gp (q:=-1) ?_ e2 rfl (by omega);rw[e1];simp
  | true=>
   simp only[mm]at e2;have hc:DJ N R2 (CX n) v s l=if l=[0]/\s.num=0/\s.kids.length=2 then some (if Gr (JT T v [[],[]] s.kids)<0 then (-1,false) else (Gr (JT T v [[],[]] s.kids),true)) else some (-1,false):=by
    unfold DJ;rw[Z5 (by omega) (by omega),xE];simp only[mA,mF,mW,h,mZ,mm]
    match l with
    | []=>simp
    | [x]=>
     have VU:decide (Sh.len s.kids=2)=decide (s.kids.length=2):=nZ.2 (by rw[AM];omega);rw[show Sh.get [x] 0=some x from rfl,VU];simp only[mA];by_cases q1:x=0
     ·by_cases q2:s.num=0
      ·by_cases q3:s.kids.length=2
       ·have mk2:Sh.mk ([]:List Int) 2 24=some [[],[]]:=NA [] 2 24 (by omega) (by omega);rw[mk2];have ik:=Oy (ms:=[[],[]]) H V hN (by rw[q3];rfl) (by simp) (by simp) We;simp only[mA];rw[ik];by_cases z:Gr (JT T v [[],[]] s.kids)<0<;>simp[q1,q2,q3,z]
       ·simp[q1,q2,q3]
      ·simp[q1,q2]
     ·simp[q1]
    | x::y::r=>simp
   rw[hc]at e2;by_cases q:l=[0]/\s.num=0/\s.kids.length=2
   ·rw[mI q]at e2;refine ct (by omega) (by omega) (cN H V We) ?_ e2;rw[e1];simp[q.1,q.2.1,q.2.2]
   ·rw[mJ q]at e2;refine Gp (q:=-1) ?_ e2 rfl (by omega);rw[e1];by_cases q1:s.num=0
    ·by_cases q2:l=[0]
     ·have q3:¬ s.kids.length=2:=λz=>q ⟨q2,q1,z⟩;simp[q1,q2,q3]
     ·simp[q1,q2]
    ·simp[q1]
theorem dj (H:Q3 n R1 R2 T (Pe s))(V:SK n s v)(S:JI n)(hN:2000000<=N)(sD:Bb v s=some b)(sE:E6 v s=some (!b))(h:s.op=8):Jx n R1 R2 N v s:=by
 have hl:v.length<=1048576:=by have:=V.Mk;omega
 have e1:=NY (n:=n) (R1:=R1) (N:=N) sD;have e2:=LX (n:=n) (R2:=R2) hl V.KX hN sE;have ht:Be N v s.args [s.num]=some (decide (Cu v s.args=some [s.num])):=KY hl V.KX hN;have hp:Gz b s=b:=by
  unfold Gz;rw[h,show Of 8=true by decide];simp
 have uI:=NQ S.Vr s.num;have hm:∀m∈(E5 n.decls s.num).map (NJ n.decls),m.length<=3/\∀x∈m,DN n.decls x=true:=λm hm=>by
  obtain⟨c,hc,rfl⟩:=mU.1 hm;exact (PR S hc hN).2.2
 have sk:=Wb H V S hN (.inr ⟨h,rfl⟩);have af:=QB (n:=n) S hN s.num;have xk:((E5 n.decls s.num).map (NJ n.decls)).length<=10:=by simp;omega
 generalize (E5 n.decls s.num).map (NJ n.decls)=ms at hm sk af xk;have rb:Cf N R1 n v s=some (if Cu v s.args=some [s.num] then (if ms=[]∨¬ s.kids.length=ms.length then -1 else Gr (JT T v ms s.kids)) else -1):=by
  unfold Cf;simp only[h,Int.reduceEq,mZ,mY,mF,mm,mW,mA];rw[ht,sk];by_cases q:Cu v s.args=some [s.num]<;>simp[q,Sh.cont]
 rw[hp,rb]at e1;cases hA:Cu v s.args with
 | none=>
  rw[hA]at e1 e2;refine Gp (q:=-1) ?_ e2 rfl (by omega);rw[e1];simp
 | some l=>
  rw[hA]at e1 e2;simp only[ni]at e2;have xE:decide (Sh.len l=1)=decide (l.length=1):=nZ.2 (by rw[AM];omega);cases b with
  | false=>
   refine Gp (q:=-1) ?_ e2 rfl (by omega);rw[e1];simp
  | true=>
   simp only[mm]at e1 e2;have hc:DJ N R2 (CX n) v s l=if l=[s.num]/\¬ ms=[]/\s.kids.length=ms.length then some (if Gr (JT T v ms s.kids)<0 then (-1,false) else (Gr (JT T v ms s.kids),true)) else some (-1,false):=by
    unfold DJ;rw[Z5 (by omega) (by omega),xE,af];simp only[mA,mF,mW,h,Int.reduceEq,mY,mZ,mm,len_nil]
    match l with
    | []=>simp
    | [x]=>
     have VU:decide (Sh.len s.kids=Sh.len ms)=decide (s.kids.length=ms.length):=nZ.2 (by rw[AM,AM];omega);rw[show Sh.get [x] 0=some x from rfl,VU];simp only[mA];by_cases q1:x=s.num
     ·by_cases q2:ms=[]
      ·simp[q1,q2]
      ·by_cases q3:s.kids.length=ms.length
       ·have ik:=Oy (ms:=ms) H V hN q3.symm q2 xk hm;rw[ik];by_cases z:Gr (JT T v ms s.kids)<0<;>simp[q1,q2,q3,z]
       ·simp[q1,q2,q3]
     ·simp[q1]
    | x::y::r=>simp
   rw[hc]at e2;by_cases q:l=[s.num]/\¬ ms=[]/\s.kids.length=ms.length
   ·rw[mI q]at e2;refine ct (by omega) (by omega) (cN H V hm) ?_ e2;rw[e1];simp[q.1,q.2.1,q.2.2]
   ·rw[mJ q]at e2;refine Gp (q:=-1) ?_ e2 rfl (by omega);rw[e1];by_cases q2:l=[s.num]
    ·have q3:ms=[]∨¬ s.kids.length=ms.length:=by
      by_cases z:ms=[]
      ·exact .inl z
      ·exact .inr λy=>q ⟨q2,z,y⟩
     rw[mI (by rw[q2]),mI q3]
    ·rw[mJ (by simpa using q2)]
theorem XR (hh:Of s.op=true)(h0:0<=s.op)(h5:s.op<=11)(h7:¬ s.op=7)(h8:¬ s.op=8):∀l,Cu v s.args=some l->Gz b s=false->b=true->∃t',DJ N R2 (CX n) v s l=some (t',false):=λl _ hp hb=>by
 rcases OU h7 h8 hp hb with q|q
 ·exact⟨_,KO h0 h5 h7 h8 q⟩
 ·rw[hh]at q;exact absurd q.2 (by decide)
theorem fF (V:SK n s v)(S:JI n)(hN:2000000<=N)(sD:Bb v s=some b)(sE:E6 v s=some (!b))(h:s.op=9):Jx n R1 R2 N v s:=by
 have hl:v.length<=1048576:=by have:=V.Mk;omega
 have ha:=V.KX;have hR:=S.RM;have hG:(CX n).funcs.length<=4:=by rw[G5];exact hR
 have tW:=XR (n:=n) (R2:=R2) (N:=N) (v:=v) (b:=b) (s:=s) (by rw[h];decide) (by omega) (by omega) (by omega) (by omega);rcases SP S s.num with ⟨r,r0,r1,r2,r3,r4,r5,r6⟩|hr
 ·refine HH V hN sD sE (by omega) (by omega) (want:=r.params) (c:=true) (t:=r.result) (λ_=>r6) (λhp=>?_) (λl hA hp=>⟨r.result,?_,λ_ _=>rfl⟩) tW
  ·have ht:Be N v s.args r.params=some (decide (Cu v s.args=some r.params)):=KY hl ha hN;have r1':s.num<=(n.AH.length:Int)-1:=by omega
   unfold Cf EX;simp only[h,Int.reduceEq,mZ,mY,mF,mm,mW,mA];rw[Cp,AM n.AH,BI (n:=(n.AH.length:Int)-1) (by omega) (by omega),r2];simp only[mA,r0,r1',mZ,Bool.and_self,nB,mF,mW];rw[ht];by_cases q:Cu v s.args=some r.params<;>simp[q,Sh.cont]
  ·have uK:=GW hA;refine D7 (by omega) (by omega) (by omega) (by omega) (by omega) (Gx (by omega) (by omega) hp) ?_;rw[Bool.true_and];exact Va (D:=n.decls) (f:=⟨r.params,r.Ar,r.result⟩) (by omega) hG hN h r0 (by first|(rw[G5];exact r1)|(rw[mO];exact r1)) r3
 ·refine HH V hN sD sE (by omega) (by omega) (want:=[]) (c:=false) (t:=0) (λq=>nomatch q) (λhp=>?_) (λl hA hp=>⟨-1,?_,λq=>nomatch q⟩) tW
  ·unfold Cf EX;simp only[h,Int.reduceEq,mZ,mY,mF,mm,mW,mA];rw[Cp,AM n.AH,BI (n:=(n.AH.length:Int)-1) (by omega) (by omega)];have:(decide (0<=s.num)&&decide (s.num<=(n.AH.length:Int)-1))=false:=by
    rw[nG,mR,mR];omega
   rw[this];simp[Sh.cont]
  ·refine D7 (by omega) (by omega) (by omega) (by omega) (by omega) (Gx (by omega) (by omega) hp) ?_;rw[Bool.false_and];exact Lt (D:=n.decls) hG (.inl h) (by first|(rw[G5];exact hr)|(rw[mO];exact hr))
theorem P9 {l:List Int}{t:Int}{ok Ar:Bool}(h:s.op=10)(hk:s.kids=[])(hle:(if decide (0<=s.num)=true then if decide (s.num<Sh.len (CX n).funcs)=true then (Sh.get (CX n).funcs s.num).bind λwu=>some (decide (0<Sh.len wu.Ar)) else some false else some false)=some Ar)
  (hs:Ai N (CX n) s.op s.num l=some (t,ok)):DJ N R2 (CX n) v s l=if Ar=true then some (-1,false) else some (t,ok):=by
 unfold DJ;rw[Z5 (by omega) (by omega),hs,hk];simp only[mA,mF,mW,h,Int.reduceEq,mY,mZ,mm];rw[show decide ((0:Int)<Sh.len ([]:List Block))=false from rfl];simp only[mF,mW];rw[hle];cases Ar<;>rfl
theorem eL (V:SK n s v)(S:JI n)(hN:2000000<=N)(sD:Bb v s=some b)(sE:E6 v s=some (!b))(h:s.op=10):Jx n R1 R2 N v s:=by
 have hl:v.length<=1048576:=by have:=V.Mk;omega
 have ha:=V.KX;have hR:=S.RM;have hD:=S.PX;have hG:(CX n).funcs.length<=4:=by rw[G5];exact hR
 have tW:=XR (n:=n) (R2:=R2) (N:=N) (v:=v) (b:=b) (s:=s) (by rw[h];decide) (by omega) (by omega) (by omega) (by omega);rcases SP S s.num with ⟨r,r0,r1,r2,r3,r4,r5,r6⟩|hr
 ·have r1':s.num<=(n.AH.length:Int)-1:=by omega
  have hle:(if decide (0<=s.num)=true then if decide (s.num<Sh.len (CX n).funcs)=true then (Sh.get (CX n).funcs s.num).bind λwu=>some (decide (0<Sh.len wu.Ar)) else some false else some false)=some (decide (¬ r.Ar=[])):=by
   rw[r3,AM,G5];simp only[r0,r1,mZ,mm,mA];cases r.Ar with
   | nil=>rfl
   | cons a q=>simp[AM]<;>omega
  have rb:∀(X:Option Int),Cf N R1 n v s=Sh.cont (((
     if decide (r.params=[])=true then some true
     else if decide (0<Sh.len r.Ar)=true then some true
     else (Sh.sl r.params 0 (Sh.w (Sh.len r.params-1))).bind λl36=>(Be N v s.args l36).bind λq37=>some !q37).bind λt25=>
     if t25=true then some (-1) else (Sh.get r.params (Sh.w (Sh.len r.params-1))).bind λvH=>(I4 N n.decls vH r.result).bind λxn=>some xn).bind λq66=>some (Sum.inl q66)) id λ()=>some (-1):=λ_=>by
   unfold Cf EX;simp only[h,Int.reduceEq,mZ,mY,mF,mm,mW,mA];rw[Cp,AM n.AH,BI (n:=(n.AH.length:Int)-1) (by omega) (by omega),r2];simp only[mA,r0,r1',mZ,Bool.and_self,nB,mF,mW,len_nil]
  have rb:=rb none;have xF:decide ((0:Int)<Sh.len r.Ar)=decide (¬ r.Ar=[]):=by
   cases r.Ar with
   | nil=>rfl
   | cons a q=>exact nZ.2 (by rw[AM,mf];simp<;>omega)
  rw[xF]at rb;by_cases hp0:r.params=[]
  ·refine HH V hN sD sE (by omega) (by omega) (want:=[]) (c:=false) (t:=0) (λq=>nomatch q) (λhp=>by rw[rb];simp[hp0,Sh.cont]) (λl hA hp=>⟨-1,?_,λq=>nomatch q⟩) tW;have uK:=GW hA;rcases Pu (D:=n.decls) (G:=(CX n).funcs) (ks:=l) (N:=N) (f:=⟨r.params,r.Ar,r.result⟩) (by omega) hD hG r4 hN h r0 (by first|(rw[G5];exact r1)|(rw[mO];exact r1)) r3 with ⟨_,z⟩|⟨m,x,z,_⟩
   ·rw[P9 h (Gx (by omega) (by omega) hp) hle z];cases decide (¬ r.Ar=[])<;>rfl
   ·exfalso;rw[hp0]at z;simp at z
  ·obtain⟨m,hm⟩ :∃m,r.params.length=m+1:=⟨r.params.length-1,by have:=pX.2 hp0;omega⟩
   obtain⟨x,hx,tu⟩:=Bi (l:=r.params) (i:=m) (by omega);have hw:Sh.w (Sh.len r.params-1)=(m:Int):=by rw[AM,BI (by omega) (by omega)];omega
   have ht:Be N v s.args (r.params.take m)=some (decide (Cu v s.args=some (r.params.take m))):=KY hl ha hN;have uN:JA x r.result n.decls 0=-1∨DN n.decls (JA x r.result n.decls 0)=true:=by
    rcases Zh (a:=x) (b:=r.result) n.decls 0 with q|q
    ·exact .inl q
    ·right;unfold DN;simp;omega
   rw[hw,ZJ (by omega),As hx]at rb;simp only[mA]at rb;rw[TX (by omega) hN,ht]at rb;simp only[mA]at rb;refine HH V hN sD sE (by omega) (by omega) (want:=r.params.take m) (c:=decide (r.Ar=[])&&decide (0<=JA x r.result n.decls 0)) (t:=JA x r.result n.decls 0) (λq=>?_) (λhp=>?_) (λl hA hp=>?_) tW
   ·simp only[mQ,mX]at q;rcases uN with z|z
    ·omega
    ·exact z
   ·rw[rb];by_cases c1:r.Ar=[]
    ·by_cases c2:Cu v s.args=some (r.params.take m)
     ·by_cases c3:0<=JA x r.result n.decls 0
      ·simp[hp0,c1,c2,c3,Sh.cont]
      ·have:JA x r.result n.decls 0=-1:=by
        rcases uN with z|z
        ·exact z
        ·exact absurd (Ny z).1 c3
       simp[hp0,c1,c2,this,Sh.cont]
     ·simp[hp0,c1,c2,Sh.cont]
    ·simp[hp0,c1,Sh.cont]
   ·have uK:=GW hA;rcases Pu (D:=n.decls) (G:=(CX n).funcs) (ks:=l) (N:=N) (f:=⟨r.params,r.Ar,r.result⟩) (by omega) hD hG r4 hN h r0 (by first|(rw[G5];exact r1)|(rw[mO];exact r1)) r3 with ⟨z,_⟩|⟨m',x',z,z2,z3⟩
    ·exact absurd z hp0
    ·have:m'=m:=by rw[hm]at z;omega
     subst this;have z2':r.params[m']?=some x':=z2;rw[hx]at z2';cases z2';rw[P9 h (Gx (by omega) (by omega) hp) hle z3];by_cases c1:r.Ar=[]
     ·exact⟨_,by simp[c1],λ_ _=>rfl⟩
     ·exact⟨-1,by simp[c1],λq=>by simp[c1]at q⟩
 ·refine HH V hN sD sE (by omega) (by omega) (want:=[]) (c:=false) (t:=0) (λq=>nomatch q) (λhp=>?_) (λl hA hp=>⟨-1,?_,λq=>nomatch q⟩) tW
  ·unfold Cf EX;simp only[h,Int.reduceEq,mZ,mY,mF,mm,mW,mA];rw[Cp,AM n.AH,BI (n:=(n.AH.length:Int)-1) (by omega) (by omega)];have:(decide (0<=s.num)&&decide (s.num<=(n.AH.length:Int)-1))=false:=by
    rw[nG,mR,mR];omega
   rw[this];simp[Sh.cont]
  ·have hle:(if decide (0<=s.num)=true then if decide (s.num<Sh.len (CX n).funcs)=true then (Sh.get (CX n).funcs s.num).bind λwu=>some (decide (0<Sh.len wu.Ar)) else some false else some false)=some false:=by
    rw[AM,G5];by_cases c:0<=s.num
    ·have:¬ s.num<(n.AH.length:Int):=by omega
     simp[c,this]
    ·simp[c]
   rw[P9 h (Gx (by omega) (by omega) hp) hle (Lt (D:=n.decls) hG (.inr h) (by first|(rw[G5];exact hr)|(rw[mO];exact hr)))];simp
end
end RC
namespace RC
open Go
section
variable {n : AT} {R1 : AT -> List Int -> Block -> Option Int} {R2 : Ag -> List Int -> Block -> Option Int} {T : List Int -> Block -> Int} {s : Step} {v : List Int} {N : Nat} {b : Bool}
theorem To {a x:Int}(h:NG v a=some x):0<=a/\a<(v.length:Int)/\Sh.get v a=some x/\x∈v:=by
 unfold NG at h;split at h
 ·rename_i hr;exact⟨hr.1,hr.2,by rw[Qc hr.1,h],mB h⟩
 ·cases h
theorem Tv {a0 a1:Int}:Cu v [a0,a1]=(NG v a0).bind λx=>(NG v a1).map λy=>[x,y]:=by
 simp only[Cu];cases NG v a0<;>cases NG v a1<;>rfl
theorem UC {a0:Int}:Cu v [a0]=(NG v a0).map λx=>[x]:=by
 simp only[Cu];cases NG v a0<;>rfl
theorem eC (V:SK n s v)(S:JI n)(hN:2000000<=N)(sD:Bb v s=some b)(sE:E6 v s=some (!b))(h:s.op=11):Jx n R1 R2 N v s:=by
 have hl:v.length<=1048576:=by have:=V.Mk;omega
 have ha:=V.KX;have hD:=S.PX;have hh:Of s.op=false:=by rw[h];decide
 by_cases h2:s.args.length=2
 ·obtain⟨a0,a1,sI⟩ :∃a0 a1,s.args=[a0,a1]:=by
   match hk:s.args,h2 with
   | [a,c],_=>exact⟨a,c,rfl⟩
  have rb:Cf N R1 n v s=some (match NG v a0 with
    | some x=>match LF n.decls x with
     | some d=>if Cu v [a1]=some [d.from_] then d.to else -1
     | none=>-1
    | none=>-1):=by
   unfold Cf;simp only[h,Int.reduceEq,mZ,mY,mF,mm,mW,mA];rw[sI,show decide (Sh.len [a0,a1]=2)=true from rfl,show Sh.get [a0,a1] 0=some a0 from rfl,show Sh.sl [a0,a1] 1 (Sh.len [a0,a1])=some [a1] from rfl];simp only[mm,mA];rw[Cp,AM v,BI (n:=(v.length:Int)-1) (by omega) (by omega)];simp only[mA];cases hA:NG v a0 with
   | none=>
    have hr:¬ (0<=a0/\a0<(v.length:Int)):=λq=>by obtain⟨x,q1,_⟩:=VD q.1 q.2;rw[hA]at q1;cases q1
    have:(decide (0<=a0)&&decide (a0<=(v.length:Int)-1))=false:=by
     rw[nG,mR,mR];omega
    rw[this];simp[Sh.cont]
   | some x=>
    obtain⟨q1,q2,q3,q4⟩:=To hA;have:(decide (0<=a0)&&decide (a0<=(v.length:Int)-1))=true:=by
     rw[mQ,mX,mX];omega
    rw[this,q3];simp only[mm,mA];rw[Oj (by omega)];simp only[mA];cases hB:LF n.decls x with
    | none=>simp[Sh.cont]
    | some d=>
     obtain⟨m1,m2,m3,m4⟩:=Xd hB;have g5:Sh.get n.decls (Sh.w (x-1))=some d:=by rw[BI (by omega) (by omega),Qc (by omega),m4]
     have ht:Be N v [a1] [d.from_]=some (decide (Cu v [a1]=some [d.from_])):=KY hl (by simp) hN;rw[g5];simp only[Option.isSome_some,mm,mA];rw[ht];by_cases q:Cu v [a1]=some [d.from_]<;>simp[q,Sh.cont]
  cases hA0:NG v a0 with
  | none=>
   have hA:Cu v s.args=none:=by rw[sI,Tv,hA0];rfl
   refine HH V hN sD sE (by omega) (by omega) (want:=[]) (c:=false) (t:=0) (λq=>nomatch q) (λhp=>by rw[rb,hA0];simp) (λl q=>by rw[hA]at q;cases q) (λl q=>by rw[hA]at q;cases q)
  | some x=>
   cases hA1:NG v a1 with
   | none=>
    have hA:Cu v s.args=none:=by rw[sI,Tv,hA0,hA1];rfl
    have hA2:Cu v [a1]=none:=by rw[UC,hA1];rfl
    refine HH V hN sD sE (by omega) (by omega) (want:=[]) (c:=false) (t:=0) (λq=>nomatch q) (λhp=>by rw[rb,hA0,hA2];simp;split<;>rfl) (λl q=>by rw[hA]at q;cases q) (λl q=>by rw[hA]at q;cases q)
   | some y=>
    have hA:Cu v s.args=some [x,y]:=by rw[sI,Tv,hA0,hA1];rfl
    have hA2:Cu v [a1]=some [y]:=by rw[UC,hA1];rfl
    have tW:∀l,Cu v s.args=some l->Gz b s=false->b=true->∃t',DJ N R2 (CX n) v s l=some (t',false):=λl uK hp hb=>by
     by_cases hk:s.kids=[]
     ·rcases OU (by omega) (by omega) hp hb with q|q
      ·exact absurd hk q
      ·rw[hA]at uK;cases uK;have e:=QI (D:=n.decls) (G:=(CX n).funcs) (ks:=[x,y]) (num:=s.num) (N:=N) hD h rfl;cases hB:LF n.decls x with
       | none=>rw[hB]at e;exact⟨0,D7 (by omega) (by omega) (by omega) (by omega) (by omega) hk e⟩
       | some d=>
        rw[hB]at e;refine⟨d.to,D7 (by omega) (by omega) (by omega) (by omega) (by omega) hk (e.trans ?_)⟩;simp[q.1]
     ·exact⟨_,KO (by omega) (by omega) (by omega) (by omega) hk⟩
    cases hB:LF n.decls x with
    | none=>
     refine HH V hN sD sE (by omega) (by omega) (want:=[]) (c:=false) (t:=0) (λq=>nomatch q) (λhp=>by rw[rb,hA0];dsimp only;rw[hB];simp) (λl uK hp=>⟨0,?_,λq=>nomatch q⟩) tW;rw[hA]at uK;cases uK;refine D7 (by omega) (by omega) (by omega) (by omega) (by omega) (Gx (by omega) (by omega) hp) ((QI (D:=n.decls) (G:=(CX n).funcs) (N:=N) hD h rfl).trans ?_);rw[hB];rfl
    | some d=>
     obtain⟨m1,m2,m3,m4⟩:=Xd hB;have uN:=(S.lI d m1).2;refine HH V hN sD sE (by omega) (by omega) (want:=[x,y]) (c:=decide (y=d.from_)) (t:=d.to) (λ_=>uN) (λhp=>?_) (λl uK hp=>⟨d.to,?_,λ_ _=>rfl⟩) tW
     ·rw[rb,hA0];dsimp only;rw[hB,hA2,hA];by_cases q:y=d.from_<;>simp[q]
     ·rw[hA]at uK;cases uK;have hn:=WN hh hp;refine D7 (by omega) (by omega) (by omega) (by omega) (by omega) (Gx (by omega) (by omega) hp) ((QI (D:=n.decls) (G:=(CX n).funcs) (N:=N) hD h rfl).trans ?_);rw[hB];simp[hn]
 ·have zO:¬ ((s.args.length:Int)=2):=by omega
  refine HH V hN sD sE (by omega) (by omega) (want:=[]) (c:=false) (t:=0) (λq=>nomatch q) (λhp=>?_) (λl hA hp=>⟨-1,?_,λq=>nomatch q⟩) (λl hA hp hb=>?_)
  ·unfold Cf;simp only[h,Int.reduceEq,mZ,mY,mF,mm,mW,mA,AM,zO];simp[Sh.cont]
  ·have:=GW hA;exact D7 (by omega) (by omega) (by omega) (by omega) (by omega) (Gx (by omega) (by omega) hp) ((NO (D:=n.decls) (G:=(CX n).funcs) (N:=N) h (by omega)).trans (by simp))
  ·have:=GW hA;by_cases hk:s.kids=[]
   ·exact⟨-1,D7 (by omega) (by omega) (by omega) (by omega) (by omega) hk (NO (D:=n.decls) (G:=(CX n).funcs) (N:=N) h (by omega))⟩
   ·exact⟨_,KO (by omega) (by omega) (by omega) (by omega) hk⟩
def aA (D:List Ac)(s:Step):List Int->Bool
 | [x]=>decide (¬ x=0/\s.num=0/\s.kids=[]/\¬ ((s.op=16∨s.op=17)/\(LF D x).isSome=true))
 | _=>false
theorem dR (V:SK n s v)(S:JI n)(hN:2000000<=N)(sD:Bb v s=some b)(sE:E6 v s=some (!b))(h:s.op=14∨s.op=15∨s.op=16∨s.op=17):Jx n R1 R2 N v s:=by
 have hl:v.length<=1048576:=by have:=V.Mk;omega
 have hD:=S.PX;have e1:=NY (n:=n) (R1:=R1) (N:=N) sD;have e2:=LX (n:=n) (R2:=R2) hl V.KX hN sE;have hc:Om s.op=true:=by rcases h with h|h|h|h<;>rw[h]<;>decide
 have hp:Gz b s=((decide (s.num=0)&&b)&&decide (s.kids=[])):=by
  unfold Gz;rcases h with h|h|h|h<;>rw[h]<;>simp[Of]
 have rb:Cf N R1 n v s=some (match Cu v s.args with
   | some [x]=>if x=0∨((s.op=16∨s.op=17)/\(LF n.decls x).isSome=true) then -1 else 0
   | _=>-1):=by
  have hct:Cf N R1 n v s=Sh.cont ((FV n v s).bind λq=>some (Sum.inl q)) id λ()=>some (-1):=by
   unfold Cf;rcases h with h|h|h|h<;>simp only[h,Int.reduceEq,mZ,mY,mF,mm,mW,mA]
  rw[hct];unfold FV;have VU:decide (Sh.len s.args=1)=decide (s.args.length=1):=nZ.2 (by rw[AM];omega);rw[VU];by_cases h1:s.args.length=1
  ·obtain⟨a,sI⟩ :∃a,s.args=[a]:=by
    match hk:s.args,h1 with
    | [a],_=>exact⟨a,rfl⟩
   rw[sI,show Sh.get [a] 0=some a from rfl,UC];simp only[mA,mf,nN,mZ,nB,mF,mW];rw[Cp,AM,BI (by omega) (by omega)];simp only[mA];cases hA:NG v a with
   | none=>
    have hr:¬ (0<=a/\a<(v.length:Int)):=λq=>by obtain⟨x,q1,_⟩:=VD q.1 q.2;rw[hA]at q1;cases q1
    have:(decide (0<=a)&&decide (a<=(v.length:Int)-1))=false:=by
     rw[nG,mR,mR];omega
    rw[this];simp[Sh.cont]
   | some x=>
    obtain⟨q1,q2,q3,q4⟩:=To hA;have:(decide (0<=a)&&decide (a<=(v.length:Int)-1))=true:=by
     rw[mQ,mX,mX];omega
    rw[this,q3];simp only[nB,mF,mW,mA];rw[Oj (by omega)];by_cases z:x=0
    ·simp[z,Sh.cont]
    ·rcases h with h|h|h|h<;>cases hB:LF n.decls x<;>simp[h,z,hB,Sh.cont]
  ·have :∀x,Cu v s.args≠some [x]:=λx q=>h1 (by have:=GW q;simpa using this.symm);simp only[h1,mY,nk,mm,mA];cases hA:Cu v s.args with
   | none=>rfl
   | some l=>
    match l,hA with
    | [],_=>rfl
    | [x],hA=>exact absurd hA (this x)
    | x::y::r,_=>rfl
 rw[hp,rb]at e1;cases hA:Cu v s.args with
 | none=>
  rw[hA]at e1 e2;refine Gp (q:=-1) ?_ e2 rfl (by omega);rw[e1];simp
 | some l=>
  rw[hA]at e1 e2;simp only[ni]at e2;cases b with
  | false=>
   refine Gp (q:=-1) ?_ e2 rfl (by omega);rw[e1];simp
  | true=>
   simp only[mm]at e2;have xE:decide (Sh.len l=1)=decide (l.length=1):=nZ.2 (by rw[AM];omega);have hci:DP s.op=some true:=by rw[My,hc]
   have hic:DJ N R2 (CX n) v s l=some (-1,aA n.decls s l):=by
    unfold DJ;rw[hci,xE];simp only[mA,mm,len_nil]
    match l with
    | []=>simp[aA]
    | [x]=>
     rw[show Sh.get [x] 0=some x from rfl];simp only[mA,aA];rw[show (CX n).decls=n.decls from rfl,Ot (by omega)];by_cases z:x=0
     ·simp[z]
     ·by_cases z2:s.num=0
      ·by_cases z3:s.kids=[]
       ·rcases h with h|h|h|h<;>cases hB:LF n.decls x<;>simp[h,z,z2,z3,hB]
       ·simp[z,z2,z3]
      ·simp[z,z2]
    | x::y::r=>simp[aA]
   rw[hic]at e2
   match l with
   | []=>exact Gp (q:=-1) (by rw[e1];simp) e2 rfl (by omega)
   | x::y::r=>exact Gp (q:=-1) (by rw[e1];simp) e2 rfl (by omega)
   | [x]=>
    simp only[aA]at e2;simp only at e1;by_cases g:¬ x=0/\s.num=0/\s.kids=[]/\¬ ((s.op=16∨s.op=17)/\(LF n.decls x).isSome=true)
    ·refine⟨0,-1,true,?_,?_,?_⟩
     ·rw[e1];have:¬ (x=0∨((s.op=16∨s.op=17)/\(LF n.decls x).isSome=true)):=λq=>by
       rcases q with q|q
       ·exact g.1 q
       ·exact g.2.2.2 q
      rw[mJ this];simp[g.2.1,g.2.2.1]
     ·rw[e2,pb g]
     ·rw[mI rfl,mI hc];exact⟨by omega,mD⟩
    ·refine Gp (q:=-1) ?_ e2 (decide_eq_false g) (by omega);rw[e1];by_cases z2:s.num=0
     ·by_cases z3:s.kids=[]
      ·have:x=0∨((s.op=16∨s.op=17)/\(LF n.decls x).isSome=true):=by
        by_cases q:x=0
        ·exact .inl q
        ·refine .inr (Classical.byContradiction λq2=>g ⟨q,z2,z3,q2⟩)
       rw[mI this];simp
      ·simp[z3]
     ·simp[z2]
theorem dZ (V:SK n s v)(hN:2000000<=N)(sD:Bb v s=some b)(sE:E6 v s=some (!b))(h:s.op<0∨s.op=12∨s.op=13∨17<s.op):Jx n R1 R2 N v s:=by
 have hl:v.length<=1048576:=by have:=V.Mk;omega
 have e1:=NY (n:=n) (R1:=R1) (N:=N) sD;have e2:=LX (n:=n) (R2:=R2) hl V.KX hN sE;have hc:Om s.op=false:=by unfold Om;rw[nG,mR,mR];omega
 have rb:Cf N R1 n v s=some (-1):=by
  unfold Cf;simp only[show ¬ s.op=0 by omega,show ¬ s.op=1 by omega,show ¬ s.op=2 by omega,show ¬ s.op=3 by omega,show ¬ s.op=4 by omega,show ¬ s.op=5 by omega,show ¬ s.op=6 by omega,show ¬ s.op=7 by omega,show ¬ s.op=8 by omega,show ¬ s.op=9 by omega,show ¬ s.op=10 by omega,show ¬ s.op=11 by omega,show ¬ s.op=14 by omega,show ¬ s.op=15 by omega,show ¬ s.op=16 by omega,show ¬ s.op=17 by omega,mY,mF,mW,mA];simp[Sh.cont]
 have h1:EF N R1 n v s=some (-1):=by rw[e1,rb];split<;>rfl
 cases hA:Cu v s.args with
 | none=>rw[hA]at e2;exact Gp h1 e2 rfl (by omega)
 | some l=>
  rw[hA]at e2;simp only[ni]at e2;cases b with
  | false=>exact Gp h1 e2 rfl (by omega)
  | true=>
   simp only[mm]at e2;have hic:DJ N R2 (CX n) v s l=some (-1,false):=by
    unfold DJ;rw[My,hc];simp only[mA,mF,mW,show ¬ s.op=7 by omega,show ¬ s.op=8 by omega,show ¬ s.op=10 by omega,mY];rw[show (CX n)=⟨n.decls,(CX n).funcs⟩ from rfl,Zz (by omega)];by_cases hk:decide (0<Sh.len s.kids)=true<;>simp[hk]
   rw[hic]at e2;exact Gp h1 e2 rfl (by omega)
theorem Vl (H:Q3 n R1 R2 T (Pe s))(V:SK n s v)(S:JI n)(hN:2000000<=N):Jx n R1 R2 N v s:=by
 obtain⟨b,sD,sE⟩:=WK (n:=n) (s:=s) V.eU (by have:=V.Mk;omega);by_cases h0:s.op=0
 ·exact iT V hN sD sE h0
 by_cases h1:s.op=1∨s.op=2∨s.op=3∨s.op=4
 ·exact dQ V hN sD sE h1
 by_cases h5:s.op=5
 ·exact dJ V hN sD sE h5
 by_cases h6:s.op=6
 ·exact ir V S hN sD sE h6
 by_cases h7:s.op=7
 ·exact kV H V S hN sD sE h7
 by_cases h8:s.op=8
 ·exact dj H V S hN sD sE h8
 by_cases h9:s.op=9
 ·exact fF V S hN sD sE h9
 by_cases h10:s.op=10
 ·exact eL V S hN sD sE h10
 by_cases h11:s.op=11
 ·exact eC V S hN sD sE h11
 by_cases hc:s.op=14∨s.op=15∨s.op=16∨s.op=17
 ·exact dR V S hN sD sE hc
 exact dZ V hN sD sE (by omega)
end
end RC
namespace RC
open Go
section
variable {n : AT} {R1 : AT -> List Int -> Block -> Option Int} {R2 : Ag -> List Int -> Block -> Option Int} {T : List Int -> Block -> Int} {b : Block} {v : List Int} {N : Nat}
theorem OS (o:Int):Hl o=some (decide (0<=o)&&decide (o<=11)):=by unfold Hl;rw[Cp];rfl
theorem Vp {l:List Step}{s:Step}(h:s∈l):Pe s<=Jf l:=by
 induction l with
 | nil=>cases h
 | cons c k ih=>
  simp only[Jf];rcases mc.1 h with rfl|h
  ·omega
  ·have:=ih h;omega
structure BK (n:AT) (b:Block) (v:List Int):Prop where
 XM:Jz b
 size:Bs b
 len:v.length+4*Ff b<=4000
 eU :∀x∈v,DN n.decls x=true
theorem Se (H:Q3 n R1 R2 T (Ff b))(B:BK n b v)(S:JI n)(hN:2000000<=N):∃o:Option (List Int),
  BS N n b R1 N 0 v=some (o.elim (.inl (-1)) .inr)/\BM N (CX n) b R2 N 0 v=some (o.elim (.inl (-1)) .inr)/\∀l,o=some l->l.length<=8000/\∀x∈l,DN n.decls x=true:=by
 have hb:=B.size;have hsl:=hb.len;have key:∀{M i:Nat},i<=b.steps.length->b.steps.length-i<M->∀w:List Int,w.length+4*Jf (b.steps.drop i)<=4000->(∀x∈w,DN n.decls x=true)->∃o:Option (List Int),
   BS N n b R1 M i w=some (o.elim (.inl (-1)) .inr)/\BM N (CX n) b R2 M i w=some (o.elim (.inl (-1)) .inr)/\∀l,o=some l->l.length<=8000/\∀x∈l,DN n.decls x=true:=by
  intro M i hi hM;refine BZ b.steps.length (λM i=>∀w:List Int,w.length+4*Jf (b.steps.drop i)<=4000->(∀x∈w,DN n.decls x=true)->∃o:Option (List Int),
   BS N n b R1 M i w=some (o.elim (.inl (-1)) .inr)/\BM N (CX n) b R2 M i w=some (o.elim (.inl (-1)) .inr)/\∀l,o=some l->l.length<=8000/\∀x∈l,DN n.decls x=true) ?_ ?_ hi hM
  ·intro q w hw ht;refine⟨some w,?_,?_,λl hl=>?_⟩
   ·rw[BS,mJ (by simp[AM])];rfl
   ·rw[BM,mJ (by simp[AM])];rfl
   ·cases hl;exact⟨by omega,ht⟩
  ·intro q i hi ih w hw ht;obtain⟨s,hs,tp⟩:=Bi hi;rw[Qm hs]at hw;have hn1:=Vp tp;have zU:=Ou b;have hz:=J3 tp;have hbz:Ib b<=1048576:=hb;have V:SK n s w:=⟨B.XM.steps.1 s tp,by omega,by omega,ht⟩
   obtain⟨y,t,ok,e1,e2,e3⟩:=Vl (T:=T) (N:=N) (λv b a1 a2 a3 a4 a5=>H v b a1 a2 (by omega) a4 a5) V S hN;have f1:BS N n b R1 (q+1) i w=Sh.cont (if decide (y<0)=true then some (Sum.inl (Sum.inl (-1))) else (Hl s.op).bind λwB=>if wB=true then (Sh.app w [y] 8).bind λl35=>some (Sum.inr l35) else some (Sum.inr w)) id λvy=>BS N n b R1 q ((i+1:Nat):Int) vy:=by
    rw[BS,mI (by simp[AM];omega),As hs];simp only[mA];rw[e1,BI (by omega) (by omega),show ((i:Int)+1)=((i+1:Nat):Int) by omega];rfl
   have f2:BM N (CX n) b R2 (q+1) i w=Sh.cont (if (!ok)=true then some (Sum.inl (Sum.inl (-1))) else (DP s.op).bind λwO=>if (!wO)=true then (Sh.app w [t] 8).bind λl39=>some (Sum.inr l39) else some (Sum.inr w)) id λvy=>BM N (CX n) b R2 q ((i+1:Nat):Int) vy:=by
    rw[BM,mI (by simp[AM];omega),As hs];simp only[mA];rw[e2,BI (by omega) (by omega),show ((i:Int)+1)=((i+1:Nat):Int) by omega];rfl
   rw[f1,f2,OS,My];cases ok with
   | false=>
    simp only[mF,mW]at e3;exact⟨none,by simp[e3,Sh.cont],by simp[Sh.cont],λl hl=>nomatch hl⟩
   | true=>
    simp only[mm]at e3;obtain⟨e3,e4⟩:=e3;have e3':¬ y<0:=by omega
    have hns:=Ql s;cases hc:Om s.op with
    | true=>
     have hop:(decide (0<=s.op)&&decide (s.op<=11))=false:=by
      unfold Om at hc;simp only[mQ,mX]at hc;rw[nG,mR,mR];omega
     obtain⟨o,g1,g2,g3⟩:=ih w (by omega) ht;refine⟨o,?_,?_,g3⟩
     ·rw[hop,<- g1];simp[e3',Sh.cont]
     ·rw[<- g2];simp[Sh.cont]
    | false=>
     rw[hc]at e4;simp only[mF,mW]at e4;obtain⟨rfl,e5,e6,e7⟩:=e4;have hop:(decide (0<=s.op)&&decide (s.op<=11))=true:=by
      rw[mQ,mX,mX];exact⟨e6,e7⟩
     obtain⟨o,g1,g2,g3⟩:=ih (w++[t]) (by rw[ml];simp only[mf,nN];omega) (λx hx=>by
      rcases my.1 hx with h|h
      ·exact ht x h
      ·simp only[mv]at h;rw[h];exact e5)
     refine⟨o,?_,?_,g3⟩
     ·rw[hop,<- g1,CS w [t] 8 (by simp;omega) (by simp;omega)];simp[e3',Sh.cont]
     ·rw[<- g2,CS w [t] 8 (by simp;omega) (by simp;omega)];simp[Sh.cont]
 have:=key (mV _) (by omega:b.steps.length-0<N) v (by rw[nO,<- Ou];exact B.len) B.eU;simpa using this
theorem Zn (H:Q3 n R1 R2 T (Ff b))(B:BK n b v)(S:JI n)(hN:2000000<=N):∃t,Dw N R1 n v b=some t/\DO N R2 (CX n) v b=some t/\(t=-1∨DN n.decls t=true):=by
 have vd:v.length<=4000:=by have:=B.len;omega
 obtain⟨o,h1,h2,h3⟩:=Se H B S hN;unfold Dw DO DW Bz;rw[CS [] v 8 (by simp;omega) (by simp;omega)];simp only[mA,nV];rw[h1,h2];cases o with
 | none=>exact⟨-1,rfl,rfl,.inl rfl⟩
 | some l=>
  obtain⟨l1,l2⟩:=h3 l rfl;simp only[ni,Sh.I3];rw[Cp,AM,BI (by omega) (by omega)];by_cases hr:0<=b.result/\b.result<(l.length:Int)
  ·obtain⟨x,x1,x2⟩:=NW hr.1 hr.2;have r1:b.result<=(l.length:Int)-1:=by omega
   have r2:¬ b.result<0:=by omega
   have r3:¬ (l.length:Int)<=b.result:=by omega
   exact⟨x,by simp[hr.1,r1,x1],by simp[r2,r3,x1],.inr (l2 x (mB x2))⟩
  ·refine⟨-1,?_,?_,.inl rfl⟩
   ·have:(decide (0<=b.result)&&decide (b.result<=(l.length:Int)-1))=false:=by
     rw[nG,mR,mR];omega
    rw[this];simp
   ·by_cases r2:b.result<0
    ·simp[r2]
    ·have r3:(l.length:Int)<=b.result:=by omega
     simp[r2,r3]
end
theorem Sv {n:AT}(S:JI n){N:Nat}(hN:2000000<=N):∀(m:Nat),∃T:List Int->Block->Int,∀(v:List Int) (b:Block),Ff b<m->BK n b v->
  ∀n1 n2,m<=n1->m<=n2->Db N n1 n v b=some (T v b)/\Ce N n2 (CX n) v b=some (T v b)/\(T v b=-1∨DN n.decls (T v b)=true):=by
 intro m
 induction m with
 | zero=>exact⟨λ_ _=>0,λv b h=>by omega⟩
 | succ m ih=>
  obtain⟨T,hT⟩:=ih;refine⟨λv b=>(Db N (m+1) n v b).getD 0,λv b hn B n1 n2 h1 h2=>?_⟩;have step:∀n1 n2,m<=n1->m<=n2->∃t,Dw N (Db N n1) n v b=some t/\DO N (Ce N n2) (CX n) v b=some t/\(t=-1∨DN n.decls t=true):=λn1 n2 h1 h2=>
   Zn (T:=T) (λv c a1 a2 a3 a4 a5=>hT v c (by omega) ⟨a1,a2,a4,a5⟩ n1 n2 h1 h2) B S hN
  obtain⟨m1,rfl⟩ :∃q,n1=q+1:=⟨n1-1,by omega⟩
  obtain⟨m2,rfl⟩ :∃q,n2=q+1:=⟨n2-1,by omega⟩
  obtain⟨t,q1,q2,q3⟩:=step m m (mS _) (mS _);obtain⟨t',r1,r2,_⟩:=step m m2 (mS _) (by omega);obtain⟨t'',s1,s2,_⟩:=step m1 m (by omega) (mS _);have e1:t'=t:=by rw[q1]at r1;cases r1;rfl
  have e2:t''=t:=by rw[q2]at s2;cases s2;rfl
  subst e1;subst e2;have e3:(Db N (m+1) n v b).getD 0=t'':=by rw[Db,q1];rfl
  dsimp only;rw[e3];exact⟨by rw[Db];exact s1,by rw[Ce];exact r2,q3⟩
end RC
namespace RC
open Go
structure MN (r:Ad):Prop where
 params:FO KZ r.params
 Ar:FO KZ r.Ar
 result:KZ r.result
 body:Jz r.body
structure PK (n:AT):Prop where
 decls:FO Py n.decls
 AH:FO MN n.AH
def J5 (r:Ad):Nat:=r.params.length+r.Ar.length+Ib r.body
def L8 (n:AT):Nat:=(n.decls.length+(n.decls.map dz).sum)+(n.AH.length+(n.AH.map J5).sum)
theorem Zo {b:Block}(hb:Jz b){left:Int}(h0:0<=left)(h1:left<=1048576){N:Nat}(hN:2000000<=N):Lx N b left=some (VT left (Ib b)):=by
 unfold Lx;rw[XF hN N b left hb h0 h1 (by omega)];rfl
theorem W2 {r:Ad}(hr:MN r){left:Int}(h0:0<=left)(h1:left<=1048576){N:Nat}(hN:2000000<=N):Iw N r left=some (VT left (J5 r)):=by
 unfold Iw J5;rw[PQ h0 h1 hr.params.2];simp only[mA];by_cases h:left-(r.params.length:Int)<0
 ·rw[mI h,Fc (by omega)];rfl
 ·rw[mJ h,mJ (by simpa using h),PQ (by omega) (by omega) hr.Ar.2];simp only[mA];by_cases h2:left-(r.params.length:Int)-(r.Ar.length:Int)<0
  ·rw[mI h2,Fc (by omega)];rfl
  ·rw[mJ h2,mJ (by simpa using h2),Zo hr.body (by omega) (by omega) hN];simp only[mA];by_cases h3:left-(r.params.length:Int)-(r.Ar.length:Int)-(Ib r.body:Int)<0
   ·rw[Fc h3,Fc (by omega)];rfl
   ·rw[Hc h3,Hc (by omega),mJ (by simpa using h3)];congr 1;omega
theorem WH {l:List Ad}(hl:FO MN l){left:Int}(h0:0<=left)(h1:left<=1048576){N:Nat}(hN:2000000<=N):ID N l left=some (VT left (l.length+(l.map J5).sum)):=by
 have hlen:=hl.2;unfold ID;rw[AM,BI (by omega) (by omega)];by_cases h2:left-(l.length:Int)<0
 ·rw[mI (by simpa using h2),Fc (by omega)]
 ·rw[mJ (by simpa using h2),Vq (l:=l) J5 (EU N l) (λn l=>by rw[EU,mJ (by simp[AM])]) (λn i x l' hx l0 l1=>?_) (by omega) (by omega) (by omega)]
  ·by_cases h3:left-(l.length:Int)-((l.map J5).sum:Nat)<0
   ·rw[mI h3,Fc (by omega)];rfl
   ·rw[mJ h3,Hc (by omega)];simp only[Sh.I3];congr 1;omega
  ·have hi:=(mC.1 hx).1;rw[EU,mI (by simp[AM];omega),As hx];simp only[mA];rw[W2 (hl.1 x (mB hx)) l0 l1 hN];simp only[mA];by_cases h3:l'-(J5 x:Int)<0
   ·rw[Fc h3,mI h3];rfl
   ·rw[Hc h3,mJ h3,mJ (by simpa using h3),BI (by omega) (by omega),show ((i:Int)+1)=((i+1:Nat):Int) by omega]
theorem YI {n:AT}(H:PK n){left:Int}(h0:0<=left)(h1:left<=1048576){N:Nat}(hN:2000000<=N):Jj N n left=some (VT left (L8 n)):=by
 unfold Jj L8;rw[ZV H.decls h0 h1 hN];simp only[mA];by_cases h:left-((n.decls.length+(n.decls.map dz).sum:Nat):Int)<0
 ·rw[Fc h,Fc (by omega)];rfl
 ·rw[Hc h,mJ (by simpa using h),WH H.AH (by omega) (by omega) hN];simp only[mA];by_cases h3:left-((n.decls.length+(n.decls.map dz).sum:Nat):Int)-((n.AH.length+(n.AH.map J5).sum:Nat):Int)<0
  ·rw[Fc h3,Fc (by omega)];rfl
  ·rw[Hc h3,Hc (by omega),mJ (by simpa using h3)];congr 1;omega
theorem XD {r:Ad}(h:J5 r<=1048576){N:Nat}(hN:2000000<=N):Ix N r=some r:=by
 unfold J5 at h;unfold Ix;rw[PN (by omega) hN,PN (by omega) hN,aH (by unfold Bs;omega) hN];rfl
theorem V1 {l:List Ad}(hl:l.length+(l.map J5).sum<=1048576){N:Nat}(hN:2000000<=N):IF N l=some l:=by
 unfold IF;rw[AM,NA _ _ _ (by omega) (by omega)];simp only[mA];rw[WD (l:=l) (ET N l) (λn m=>by rw[ET,mJ (by simp[AM])]) (λn i x m hx hm=>?_) (by omega) (by simp)]
 ·rfl
 ·have hi:=(mC.1 hx).1;have hz:=GQ J5 (mB hx);obtain⟨y,hy,_⟩:=Bi (l:=m) (i:=i) (by omega);rw[ET,mI (by simp[AM];omega),As hx];simp only[mA];rw[XD (by omega) hN,As hy];simp only[mA];rw[NR,BI (by omega) (by omega),show ((i:Int)+1)=((i+1:Nat):Int) by omega]
theorem YY {n:AT}(h:L8 n<=1048576){N:Nat}(hN:2000000<=N):GM N n=some n:=by
 unfold L8 at h;unfold GM;rw[aP (by omega) hN,V1 (by omega) hN];rfl
theorem W8 {r:Ad}(h:J5 r<=1048576){N:Nat}(hN:2000000<=N):Iu N r r=some true:=by
 unfold J5 at h;unfold Iu;rw[O7 (by omega) hN,O7 (by omega) hN,aJ (by unfold Bs;omega) hN];simp
theorem V7 {l:List Ad}(hl:l.length+(l.map J5).sum<=1048576){N:Nat}(hN:2000000<=N):H4 N l l=some true:=by
 unfold H4;have L:=DE (l:=l) (EO N l l) (λ_ _=>true) (λn=>by rw[EO,mJ (by simp[AM])]) (λn i x hx=>?_) (by omega:l.length<N)
 ·rw[D6 (p:=λ_=>true)]at L;simp[L,Sh.cont]
 ·have hi:=(mC.1 hx).1;have hz:=GQ J5 (mB hx);rw[EO,mI (by simp[AM];omega),As hx];simp only[mA];rw[W8 (by omega) hN,BI (by omega) (by omega),show ((i:Int)+1)=((i+1:Nat):Int) by omega];rfl
theorem S7 {n:AT}(h:L8 n<=1048576){N:Nat}(hN:2000000<=N):GV N n n=some true:=by
 unfold L8 at h;unfold GV;rw[Zs (by omega) hN,V7 (by omega) hN];rfl
structure JG (n:AT):Prop where
 XM:PK n
 size:L8 n<=1048576
theorem JG.decls {n:AT}(S:JG n):Qj n.decls:=by
 have h:=S.size;unfold L8 at h;have hd:∀d∈n.decls,dz d<=1048576:=λd hd=>by have:=GQ dz hd;omega
 refine⟨by omega,λd hm=>?_,λd hm c hc=>?_⟩
 ·have:=hd d hm;unfold dz at this;omega
 ·have:=hd d hm;unfold dz at this;have:=GQ cz hc;show cz c<=_;omega
theorem JG.RM {n:AT}(S:JG n):n.AH.length<=1048576:=by have h:=S.size;unfold L8 at h;omega
theorem JG.rz {n:AT}(S:JG n){r:Ad}(hr:r∈n.AH):r.params.length<=1048576/\r.Ar.length<=1048576/\Bs r.body:=by
 have h:=S.size;unfold L8 at h;have h2:=GQ J5 hr;have h3:J5 r=r.params.length+r.Ar.length+Ib r.body:=rfl;unfold Bs;omega
theorem YZ {n:AT}(hl:n.AH.length<=1048576){N:Nat}(hN:2000000<=N):LA N n=some ⟨n.decls,n.AH.map Q5⟩:=by
 have key:∀{N i:Nat},i<=n.AH.length->n.AH.length-i<N->FT n N i ((n.AH.take i).map Q5)=some (n.AH.map Q5):=by
  intro N i hi hN;refine BZ n.AH.length (λN i=>FT n N i ((n.AH.take i).map Q5)=some (n.AH.map Q5)) ?_ ?_ hi hN
  ·intro q;rw[FT,mJ (by simp[AM]),nI]
  ·intro q i hi ih;obtain⟨r,hr,_⟩:=Bi hi;rw[FT,mI (by simp[AM];omega),As hr];simp only[mA];rw[CS _ _ _ (by simp;omega) (by simp;omega),BI (by omega) (by omega),show ((i:Int)+1)=((i+1:Nat):Int) by omega];simp only[mA];rw[<- ih,EA hr,mu];rfl
 have:=key (mV _) (by omega:n.AH.length-0<N);rw[qg,oU,oI]at this;unfold LA;rw[this];rfl
theorem aM {n:AT}(hl:n.AH.length<=1048576){N:Nat}(hN:2000000<=N):DG n N 0 []=some (CX n).funcs:=by
 have key:∀{N i:Nat},i<=n.AH.length->n.AH.length-i<N->DG n N i ((n.AH.take i).map λr=>(⟨r.params,r.Ar,r.result⟩:Bg))=some (CX n).funcs:=by
  intro N i hi hN;refine BZ n.AH.length (λN i=>DG n N i ((n.AH.take i).map λr=>(⟨r.params,r.Ar,r.result⟩:Bg))=some (CX n).funcs) ?_ ?_ hi hN
  ·intro q;rw[DG,mJ (by simp[AM]),nI];rfl
  ·intro q i hi ih;obtain⟨r,hr,_⟩:=Bi hi;rw[DG,mI (by simp[AM];omega),As hr];simp only[mA];rw[CS _ _ _ (by simp;omega) (by simp;omega),BI (by omega) (by omega),show ((i:Int)+1)=((i+1:Nat):Int) by omega];simp only[mA];rw[<- ih,EA hr,mu];rfl
 have:=key (mV _) (by omega:n.AH.length-0<N);simpa using this
def Vg (r:Ad):Bool:=EH (HM r.params r.Ar) 0 r.Ar
def Y5 (n:AT):Bool:=decide (n.AH.length<=4)&&(QZ n.decls (n.AH.map λr=>(r.params,r.result))&&n.AH.all Vg)
theorem Ub {n:AT}(S:JG n){N:Nat}(hN:2000000<=N):F9 N n=some (Y5 n):=by
 have hl:=S.RM;unfold F9 Y5;have L:=DE (l:=n.AH) (Cn N n) (λ_ r=>Vg r) (λq=>by rw[Cn,mJ (by simp[AM])]) (λq i r hi=>by
  have tM:=(mC.1 hi).1;obtain⟨z1,z2,z3⟩:=S.rz (mB hi);rw[Cn,mI (by simp[AM];omega),As hi];simp only[mA];rw[R7 z1 z2 hN,BI (by omega) (by omega),show ((i:Int)+1)=((i+1:Nat):Int) by omega];simp only[mA];unfold Vg;cases EH (HM r.params r.Ar) 0 r.Ar<;>rfl) (by omega:n.AH.length<N)
 rw[D6]at L;have e1:(n.AH.map Q5).map (λf=>(f.params,f.result))=n.AH.map λr=>(r.params,r.result):=by rw[ny];rfl
 rw[YZ hl hN,L,Du];simp only[mA];rw[Rc (p:=⟨n.decls,n.AH.map Q5⟩) S.decls (by simpa using hl) (λf hf=>by obtain⟨r,hr,rfl⟩:=mU.1 hf;exact (S.rz hr).1) hN,e1];have e4:decide ((4:Int)<Sh.len n.AH)=!decide (n.AH.length<=4):=by rw[<- decide_not];exact nZ.2 (by rw[AM];omega)
 rw[e4];simp only[mA];cases decide (n.AH.length<=4)<;>cases QZ n.decls (n.AH.map λr=>(r.params,r.result))<;>cases n.AH.all Vg<;>rfl
theorem UY {n:AT}(S:JG n){N:Nat}(hN:2000000<=N):∃q,GB N n=some (q,Y5 n)/\(Y5 n=true->q=CX n):=by
 have hl:=S.RM;unfold GB Y5;have e4:decide ((4:Int)<Sh.len n.AH)=!decide (n.AH.length<=4):=by rw[<- decide_not];exact nZ.2 (by rw[AM];omega)
 rw[e4,aM hl hN];simp only[mA];rw[Rp S.decls (by rw[G5];exact hl) (λf hf=>by obtain⟨r,hr,rfl⟩:=mU.1 (show f∈n.AH.map _ from hf);exact⟨(S.rz hr).1,(S.rz hr).2.1⟩) hN];have e1:((CX n).funcs.map λf=>(f.params,f.result))=n.AH.map λr=>(r.params,r.result):=by
  show (n.AH.map _).map _=_;rw[ny];rfl
 have e2:((CX n).funcs.all λf=>EH (HM f.params f.Ar) 0 f.Ar)=n.AH.all Vg:=by
  show (n.AH.map _).all _=_;rw[pw];rfl
 rw[e1,e2];cases h4:decide (n.AH.length<=4) with
 | false=>exact⟨⟨[],[]⟩,rfl,λh=>by simp at h⟩
 | true=>exact⟨CX n,rfl,λ_=>rfl⟩
def Ma (T:List Int->Block->Int)(r:Ad):Bool:=decide (Ff r.body<=600)&&decide (T r.params r.body=r.result)
theorem TF {n:AT}(S:JG n){N:Nat}(hN:2000000<=N):∃b,FF N n=some b/\Hf N n=some b:=by
 have hl:=S.RM;obtain⟨q,h1,h2⟩:=UY S hN;unfold FF Hf;rw[Ub S hN,h1];simp only[mA];cases hs:Y5 n with
 | false=>exact⟨false,rfl,rfl⟩
 | true=>
  have hq:=h2 hs;subst hq;have SO:JI n:=by
   unfold Y5 at hs;simp only[mQ]at hs;have:=OD.of (p:=⟨n.decls,n.AH.map Q5⟩) (by
    rw[show List.map (λf:IK=>(f.params,f.result)) (n.AH.map Q5)=n.AH.map λr=>(r.params,r.result) by rw[ny];rfl];exact hs.2.1)
   exact this
  obtain⟨T,hT⟩:=Sv SO hN 601;have uN:∀r∈n.AH,Ff r.body<=600->Bl N n r.params r.body=some (T r.params r.body)/\BT N (CX n) r.params r.body=some (T r.params r.body):=λr hr he=>by
   obtain⟨q1,q2,q3⟩:=SO.cO (Q5 r) (pF hr);have q1':r.params.length<=3:=q1;obtain⟨z1,z2,z3⟩:=hT r.params r.body (by omega) ⟨(S.XM.AH.1 r hr).body,(S.rz hr).2.2,by omega,q2⟩ N N (by omega) (by omega);exact⟨z1,z2⟩
  have L1:=DE (l:=n.AH) (Ca N n) (λ_ r=>Ma T r) (λq=>by rw[Ca,mJ (by simp[AM])]) (λq i r hi=>by
   have tM:=(mC.1 hi).1;have hr:=mB hi;rw[Ca,mI (by simp[AM];omega),As hi];simp only[mA];rw[Lm (S.rz hr).2.2 hN,BI (by omega) (by omega),show ((i:Int)+1)=((i+1:Nat):Int) by omega];simp only[mA];unfold Ma;by_cases he:Ff r.body<=600
   ·rw[mI he,mJ (by simp),(uN r hr he).1];by_cases hq:T r.params r.body=r.result<;>simp[he,hq]
   ·rw[mJ he];simp[he]) (by omega:n.AH.length<N)
  have L2:=DE (l:=n.AH) (D3 N n (CX n,true)) (λ_ r=>Ma T r) (λq=>by rw[D3,mJ (by simp[AM])]) (λq i r hi=>by
   have tM:=(mC.1 hi).1;have hr:=mB hi;rw[D3,mI (by simp[AM];omega),As hi];simp only[mA];rw[Oo (S.rz hr).2.2 hN,BI (by omega) (by omega),show ((i:Int)+1)=((i+1:Nat):Int) by omega];simp only[mA];unfold Ma;by_cases he:Ff r.body<=600
   ·rw[mI he,mJ (by simp),(uN r hr he).2];by_cases hq:T r.params r.body=r.result<;>simp[he,hq]
   ·rw[mJ he];simp[he]) (by omega:n.AH.length<N)
  rw[D6]at L1 L2;refine⟨n.AH.all (Ma T),?_,?_⟩
  ·simp only[nB,mF,mW];rw[L1,Du];cases n.AH.all (Ma T)<;>rfl
  ·simp only[nB,mF,mW];rw[L2,Du];cases n.AH.all (Ma T)<;>rfl
end RC
namespace RC
open Go
def dE (s:Step):Bool:=!Om s.op&&decide (s.BB=0)
mutual
def eJ:Step->Bool|.mk o _ i _ k=>(!Om o&&decide (i=0))&&WZ k
def WZ:List (Gh Step)->Bool|[]=>true|b::k=>MT b&&WZ k
def MT:Gh Step->Bool|⟨ss,_⟩=>Yq ss
def Yq:List Step->Bool|[]=>true|s::l=>eJ s&&Yq l
end
theorem VJ (s:Step):eJ s=(dE s&&WZ s.kids):=by cases s;simp only[eJ];rfl
theorem VE (b:Block):MT b=Yq b.steps:=by cases b;simp[MT]
theorem Vf:∀k:List Block,WZ k=k.all MT
 | []=>rfl
 | b::k=>by rw[oh,<- Vf k];simp only[WZ]
theorem SW:∀l:List Step,Yq l=l.all eJ
 | []=>rfl
 | s::l=>by rw[oh,<- SW l];simp only[Yq]
theorem db {b:Block}{rec:Block->Option Bool}{i:Nat}{s:Step}(hs:b.steps[i]?=some s)(hk:s.kids.length<=1048576)(rY :∀c∈s.kids,rec c=some (MT c)){N:Nat}(hN:2000000<=N):
  DD i b rec N 0=some (if WZ s.kids=true then .inr () else .inl false):=by
 have L:=DE (l:=s.kids) (DD i b rec) (λ_ c=>MT c) (λq=>by
  rw[DD,As hs];simp only[mA];rw[mJ (by simp[AM])]) (λq k c hc=>by
  have uH:=(mC.1 hc).1;rw[DD,As hs];simp only[mA];rw[mI (by simp[AM];omega),As hc];simp only[mA];rw[rY c (mB hc),BI (by omega) (by omega),show ((k:Int)+1)=((k+1:Nat):Int) by omega];simp only[mA];cases MT c<;>rfl) (by omega:s.kids.length<N)
 rw[L,D6,Vf]
theorem Wt {N:Nat}(hN:2000000<=N):∀(m:Nat) (b:Block),Bs b->Ib b<m->FX N m b=some (MT b):=by
 intro m
 induction m with
 | zero=>intro b _ h;omega
 | succ m ih=>
  intro b hb hm;have hl:=hb.len;rw[FX];unfold Ih;have L:=DE (l:=b.steps) (Dj N b (FX N m)) (λ_ s=>eJ s) (λq=>by rw[Dj,mJ (by simp[AM])]) (λq i s hs=>by
   have tM:=(mC.1 hs).1;have tp:=mB hs;rw[Dj,mI (by simp[AM];omega),As hs];simp only[mA];rw[dD,db hs (OY hb tp) (λc hc=>ih c (Ml hb tp hc).1 (by have:=(Ml hb tp hc).2;omega)) hN,BI (by omega) (by omega),show ((i:Int)+1)=((i+1:Nat):Int) by omega,Du,VJ];simp only[mA];unfold dE;by_cases h0:s.BB=0<;>cases Om s.op<;>cases WZ s.kids<;>simp[h0]) (by omega:b.steps.length<N)
  rw[L,D6,Du,VE,SW];cases b.steps.all eJ<;>rfl
theorem RF {N:Nat}(hN:2000000<=N){b:Block}(hb:Bs b):Ju N b=some (MT b):=by
 unfold Ju;exact Wt hN N b hb (by unfold Bs at hb;omega)
theorem dh (f:Bool)(s:Step):GK f s=some (f&&dE s):=by
 unfold GK dE;rw[My];simp only[mA];cases f<;>cases Om s.op<;>rfl
theorem dm {s:Step}{rec:Bool->Block->Option Bool}(hk:s.kids.length<=1048576)(rY :∀c∈s.kids,∀f,rec f c=some (f&&MT c)){N i:Nat}(hi:i<=s.kids.length)(hN:s.kids.length-i<N):∀f:Bool,Cz s rec N i f=some (f&&WZ (s.kids.drop i)):=by
 refine BZ s.kids.length (λN i=>∀f:Bool,Cz s rec N i f=some (f&&WZ (s.kids.drop i))) ?_ ?_ hi hN
 ·intro n f;rw[Cz,mJ (by simp[AM])];simp[WZ]
 ·intro n i hi ih f;obtain⟨c,hc,vB⟩:=Bi hi;rw[Cz,mI (by simp[AM];omega),As hc];simp only[mA];rw[rY c vB,BI (by omega) (by omega),show ((i:Int)+1)=((i+1:Nat):Int) by omega,drop_cons hc];simp only[mA];rw[ih,WZ,pZ]
theorem dr {b:Block}{rec:Bool->Block->Option Bool}{M:Nat}(hM:2000000<=M)(hb:Bs b)(rY :∀s∈b.steps,∀c∈s.kids,∀f,rec f c=some (f&&MT c)){N i:Nat}(hi:i<=b.steps.length)(hN:b.steps.length-i<N):∀f:Bool,Cy M b rec N i f=some (f&&Yq (b.steps.drop i)):=by
 have hl:=hb.len;refine BZ b.steps.length (λN i=>∀f:Bool,Cy M b rec N i f=some (f&&Yq (b.steps.drop i))) ?_ ?_ hi hN
 ·intro n f;rw[Cy,mJ (by simp[AM])];simp[Yq]
 ·intro n i hi ih f;obtain⟨s,hs,tp⟩:=Bi hi;rw[Cy,mI (by simp[AM];omega),As hs];simp only[mA];have l2:=dm (s:=s) (OY hb tp) (rY s tp) (mV _) (by have:=OY hb tp;omega:s.kids.length-0<M) (f&&dE s);rw[qg,nO]at l2;rw[dh];simp only[mA];rw[l2,BI (by omega) (by omega),show ((i:Int)+1)=((i+1:Nat):Int) by omega,drop_cons hs];simp only[mA];rw[ih,Yq,VJ,pZ,pZ,pZ]
theorem XK {N:Nat}(hN:2000000<=N):∀(m:Nat) (b:Block),Bs b->Ib b<m->∀f,FZ N m f b=some (f&&MT b):=by
 intro m
 induction m with
 | zero=>intro b _ h;omega
 | succ m ih=>
  intro b hb hm f;have hl:=hb.len;rw[FZ];unfold Im;have L:=dr hN hb (rec:=FZ N m) (λs hs c hc=>ih c (Ml hb hs hc).1 (by have:=(Ml hb hs hc).2;omega)) (mV _) (by omega:b.steps.length-0<N) f;rw[qg,nO]at L;rw[L,VE];rfl
theorem Pf {N:Nat}(hN:2000000<=N){b:Block}(hb:Bs b):G3 N b=some (MT b):=by
 unfold G3 Lk;rw[XK hN N b hb (by unfold Bs at hb;omega)];simp
theorem XJ {n:AT}(S:JG n){N:Nat}(hN:2000000<=N):∃v b,FF N n=some v/\(b=true->v=true/\∀r∈n.AH,MT r.body=true)/\OE N n=some b/\J7 N n=some b:=by
 have hl:=S.RM;obtain⟨v,h1,h2⟩:=TF S hN;unfold OE Hk J7;rw[h1,h2];simp only[mA];cases v with
 | false=>exact⟨_,false,rfl,(λh=>by cases h),rfl,rfl⟩
 | true=>
  have L1:=DE (l:=n.AH) (Fe N n) (λ_ r=>MT r.body) (λq=>by rw[Fe,mJ (by simp[AM])]) (λq i r hi=>by
   have tM:=(mC.1 hi).1;have hr:=mB hi;rw[Fe,mI (by simp[AM];omega),As hi];simp only[mA];rw[RF hN (S.rz hr).2.2,BI (by omega) (by omega),show ((i:Int)+1)=((i+1:Nat):Int) by omega];simp only[mA];cases MT r.body<;>rfl) (by omega:n.AH.length<N)
  have L2:=DE (l:=n.AH) (Fg N n) (λ_ r=>MT r.body) (λq=>by rw[Fg,mJ (by simp[AM])]) (λq i r hi=>by
   have tM:=(mC.1 hi).1;have hr:=mB hi;rw[Fg,mI (by simp[AM];omega),As hi];simp only[mA];rw[Pf hN (S.rz hr).2.2,BI (by omega) (by omega),show ((i:Int)+1)=((i+1:Nat):Int) by omega];simp only[mA];cases MT r.body<;>rfl) (by omega:n.AH.length<N)
  rw[D6]at L1 L2;refine⟨_,n.AH.all λr=>MT r.body,rfl,λh=>⟨rfl,by simpa using h⟩,?_,?_⟩
  ·simp only[nB,mF,mW];rw[L1,Du];cases (n.AH.all λr=>MT r.body)<;>rfl
  ·simp only[nB,mF,mW];rw[L2,Du];cases (n.AH.all λr=>MT r.body)<;>rfl
end RC
