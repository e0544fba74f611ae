import Derived.Test.YtihdgoiebmfapaaGreatGAbsZPToSSDefs
import Derived.Test.YtihdgoiebmfapaaGreatGHADefsToFTDefs
namespace RC
open Go
theorem BK {n:Int}(h1:-9223372036854775808<=n)(h2:n<=9223372036854775807):Sh.w n=n:=Abs.wrap_i64 h1 h2
theorem AN {α:Type}(l:List α):Sh.len l=(l.length:Int):=rfl
theorem Nz {α:Type}(l:List α)(i:Nat):Sh.get l (i:Int)=l[i]?:=by
 unfold Sh.get;rw[jm (me i)];simp
theorem BH {α:Type}{l:List α}{i:Nat}{x:α}(h:l[i]?=some x):Sh.get l (i:Int)=some x:=by rw[Nz,h]
theorem PK {α:Type}{l:List α}{j:Int}(h0:0<=j)(h1:j<l.length):∃x,Sh.get l j=some x/\l[j.toNat]?=some x:=by
 have h:l[j.toNat]?=some (l[j.toNat]'(by omega)):=jl (by omega);exact⟨_,by unfold Sh.get;rw[jm h0,h],h⟩
theorem Wv {α:Type}{l:List α}{j:Int}(h0:0<=j):Sh.get l j=l[j.toNat]?:=by unfold Sh.get;rw[jm h0]
theorem Pb {α:Type}(l:List α)(i:Nat)(x:α):Sh.put l (i:Int) x=l.set i x:=by simp[Sh.put]
theorem PS {α:Type}(x:α)(n b:Nat)(h:n*b<=281474976710656)(h2:n<=9223372036854775807):Sh.mk x (n:Int) b=some (List.replicate n x):=by
 unfold Sh.mk;rw[jm ⟨by omega,by rw[<- ng];omega,by omega⟩];simp
theorem EM {α:Type}(l m:List α)(b:Nat)(h:(l.length+m.length)*b<=140737488355328)(h2:l.length+m.length<=9223372036854775807):Sh.app l m b=some (l++m):=by
 unfold Sh.app;rw[jm ⟨h,h2⟩]
theorem cv {α:Type}{l:List α}{j:Nat}(h:j<=l.length):Sh.hi l (j:Int)=some (l.take j):=by
 unfold Sh.hi;rw[jm ⟨by omega,by omega⟩];simp
theorem Bo (len:Nat)(P:Nat->Nat->Prop)(h0 :∀n,P (n+1) len)(hs :∀n i,i<len->P n (i+1)->P (n+1) i):∀{N i:Nat},i<=len->len-i<N->P N i:=by
 intro N i hi hN;obtain⟨k,hk⟩ :∃k,len-i=k:=⟨_,rfl⟩
 induction k generalizing N i with
 | zero=>
  obtain⟨n,rfl⟩ :∃n,N=n+1:=⟨N-1,by omega⟩
  have:i=len:=by omega
  subst this;exact h0 n
 | succ k ih=>
  obtain⟨n,rfl⟩ :∃n,N=n+1:=⟨N-1,by omega⟩
  exact hs n i (by omega) (ih (by omega) (by omega) (by omega))
theorem CF {α:Type}{l:List α}{i:Nat}(h:i<l.length):∃x,l[i]?=some x/\x∈l:=⟨l[i],jl h,mH h⟩
theorem D3 {α:Type}{l:List α}{j:Nat}{x:α}(h:l[j]?=some x):l.take (j+1)=l.take j++[x]:=by rw[List.take_add_one,h];rfl
theorem drop_cons {α:Type}{l:List α}{j:Nat}{x:α}(h:l[j]?=some x):l.drop j=x::l.drop (j+1):=by
 obtain⟨hj,rfl⟩:=jg.1 h;exact List.drop_eq_getElem_cons hj
def dM (h:List Cell):Nat:=(h.map λc=>c.fields.length).sum
def Gk (h:List Cell):Nat:=h.length+dM h
structure Hp (h:List Cell):Prop where
 size:Gk h<=1048576
 cells :∀c∈h,YG c
theorem bg {h:List Cell}{c:Cell}(hc:c∈h):c.fields.length<=dM h:=by
 induction h with
 | nil=>cases hc
 | cons d h ih=>
  simp only[dM,kI,mM]at ih⊢;rcases js.1 hc with rfl|hc
  ·omega
  ·have:=ih hc;omega
theorem Hp.len {h:List Cell}(H:Hp h):h.length<=1048576:=by have:=H.size;unfold Gk at this;omega
theorem Hp.Kz {h:List Cell}(H:Hp h){c:Cell}(hc:c∈h):c.fields.length<=1048576:=by have:=H.size;have:=bg hc;unfold Gk at *;omega
end RC
namespace RC
open Go
def Fp {α:Type}(f:Nat->α->Bool):Nat->List α->Bool
 | _,[]=>true
 | k,x::r=>f k x&&Fp f (k+1) r
theorem R6 {α:Type}{f g:Nat->α->Bool}:∀(l:List α) (k:Nat),(∀(i:Nat) x,l[i]?=some x->f (k+i) x=g (k+i) x)->Fp f k l=Fp g k l
 | [],_,_=>rfl
 | x::r,k,h=>by
  have h0:=h 0 x rfl;rw[mA]at h0;have h1:=R6 r (k+1) λi y hy=>(show k+(i+1)=k+1+i by omega)▸h (i+1) y hy;rw[Fp,Fp,h0,h1]
theorem F6 {α:Type}{p:α->Bool}:∀(l:List α) (k:Nat),Fp (λ_ x=>p x) k l=l.all p
 | [],_=>rfl
 | x::r,k=>by rw[Fp,F6 r (k+1),lx]
theorem FE {α:Type}{l:List α}(L:Nat->Int->Option (Bool ⊕ Unit))(f:Nat->α->Bool)(h0 :∀n,L (n+1) (l.length:Int)=some (.inr ()))
  (hs :∀n (i:Nat) x,l[i]?=some x->L (n+1) (i:Int)=if f i x=true then L n ((i+1:Nat):Int) else some (.inl false)) {N:Nat} (hN:l.length<N) :
  L N 0=some (if Fp f 0 l=true then .inr () else .inl false):=by
 have key:∀{N i:Nat},i<=l.length->l.length-i<N->L N (i:Int)=some (if Fp f i (l.drop i)=true then .inr () else .inl false):=by
  intro N i hi hN;refine Bo l.length (λN i=>L N (i:Int)=some (if Fp f i (l.drop i)=true then .inr () else .inl false)) ?_ ?_ hi hN
  ·intro n;rw[h0 n];simp[Fp]
  ·intro n i hi ih;obtain⟨x,hx,_⟩:=CF hi;rw[hs n i x hx,ih,drop_cons hx,Fp];cases h:f i x<;>simp
 have:=key (kE _) (by omega:l.length-0<N);simpa using this
theorem FC {β:Type}{b:Bool}{g:Bool->β}{K:Unit->Option β}:Sh.cont (some (if b=true then Sum.inr () else Sum.inl false)) g K=if b=true then K () else some (g false):=by
 cases b<;>rfl
theorem Y5 {α:Type}{l:List α}{j:Nat}(h:j<=l.length)(h2:l.length<=9223372036854775807):Sh.sl l 0 (j:Int)=some (l.take j):=by
 unfold Sh.sl;rw[jm ⟨by omega,by omega,by omega⟩];simp
end RC
namespace RC
open Go
end RC
namespace RC
open Go
def hU (h:List Cell)(w:Int):Bool:=decide (1000<=w)&&(match h[(w-1000).toNat]? with|some c=>decide (0<c.count)|none=>false)
theorem Es (a b c:Int):DX a b c=some (decide (b<=a)&&decide (a<=c)):=by
 unfold DX;by_cases h:b<=a<;>simp[h]
end RC
namespace RC
open Go
def DJ (D:List AM)(t:Int):Bool:=decide (0<=t)&&decide (t<=(D.length:Int))
theorem Mo {D:List AM}{x:Int}:DX x 0 (Sh.len D)=some (DJ D x):=by rw[Es];rfl
theorem Mk {D:List AM}{l:List Int}(hl:l.length<=1048576){N:Nat}(hN:l.length<N):Hw N D l=some (l.all (DJ D)):=by
 unfold Hw;rw[FE (l:=l) (E8 D l) (λ_ x=>DJ D x) (λn=>by rw[E8,jn (by simp[AN])]) (λn i x hx=>?_) hN,FC,F6]
 ·cases l.all (DJ D)<;>rfl
 ·have hi:=(jg.1 hx).1;rw[E8,jm (by simp[AN];omega),BH hx];simp only[jd];rw[Mo,BK (by omega) (by omega),show ((i:Int)+1)=((i+1:Nat):Int) by omega];simp only[jd];cases DJ D x<;>rfl
theorem Jt {D:List AM}{t:Int}:HM D t=some (DJ D t):=by
 unfold HM DJ;by_cases h:0<=t<;>by_cases h2:t<=(D.length:Int)<;>simp[h,h2,AN]
theorem KV {D:List AM}{l:List Int}(hl:l.length<=1048576){N:Nat}(hN:l.length<N):G0 N D l=some (l.all (DJ D)):=by
 unfold G0;rw[FE (l:=l) (E6 D l) (λ_ x=>DJ D x) (λn=>by rw[E6,jn (by simp[AN])]) (λn i x hx=>?_) hN,FC,F6]
 ·cases l.all (DJ D)<;>rfl
 ·have hi:=(jg.1 hx).1;rw[E6,jm (by simp[AN];omega),BH hx];simp only[jd];rw[Jt,BK (by omega) (by omega),show ((i:Int)+1)=((i+1:Nat):Int) by omega];simp only[jd];cases DJ D x<;>rfl
def Qj (D:List AM)(c:Db):Bool:=decide (c.fields.length<=3)&&c.fields.all (DJ D)
def Hb (a b:AM):Bool:=decide (a.cons.length=0)&&(decide (a.from_=b.from_)&&decide (a.to=b.to))
def Lc (D:List AM)(i:Nat)(d:AM):Bool:=
 if 0<d.cons.length then (decide (d.cons.length<=3)&&(decide (d.from_=0)&&decide (d.to=0)))&&d.cons.all (Qj D)
 else (D.take i).all (λe=>!Hb e d)&&(DJ D d.from_&&DJ D d.to)
def SU (D:List AM)(i:Nat)(d:AM):Bool:=
 ((DJ D d.from_&&(DJ D d.to&&(decide (d.cons.length<=3)&&(!(decide (0<d.cons.length)&&(!decide (d.from_=0) || !decide (d.to=0)))))))&&d.cons.all (Qj D))&&(D.take i).all (λe=>!(decide (d.cons.length=0)&&Hb e d))
theorem Za (D:List AM)(i:Nat)(d:AM):SU D i d=Lc D i d:=by
 unfold SU Lc;by_cases h:0<d.cons.length
 ·have h0:¬ d.cons.length=0:=by omega
  have ha:(D.take i).all (λe=>!(decide (d.cons.length=0)&&Hb e d))=true:=by simp[h0]
  rw[jm h,ha];by_cases h1:d.from_=0<;>by_cases h2:d.to=0<;>simp[h,h1,h2,DJ]
 ·have h0:d.cons.length=0:=by omega
  have hc:d.cons=[]:=ka h0;rw[jn h];simp only[hc,h0,lE,List.all_nil,jx,mz,Bool.and_true];cases DJ D d.from_<;>cases DJ D d.to<;>simp
structure P3 (D:List AM):Prop where
 len:D.length<=1048576
 cons :∀d∈D,d.cons.length<=1048576
 LQ :∀d∈D,∀c∈d.cons,c.fields.length<=1048576
theorem RD {D:List AM}(hD:P3 D){i:Nat}{d:AM}(hd:D[i]?=some d){N:Nat}(hN:2000000<=N):IV N D i=some (Lc D i d):=by
 have hm:=je hd;have hi:=(jg.1 hd).1;have hlen:=hD.len;have hc:=hD.cons d hm;unfold IV Lc;rw[BH hd];simp only[jd];by_cases h:0<d.cons.length
 ·rw[jm (by simp[AN];omega),jm h];rw[FE (l:=d.cons) (En N d D) (λ_ c=>Qj D c) (λn=>by rw[En,jn (by simp[AN])]) (λn j c hj=>?_) (by omega),FC,F6]
  ·simp only[AN];by_cases h3:d.cons.length<=3
   ·have e3:¬ (3:Int)<(d.cons.length:Int):=by omega
    generalize d.cons.all (Qj D)=z;cases z<;>by_cases h1:d.from_=0<;>by_cases h2:d.to=0<;>simp[h1,h2,h3,e3]
   ·have e3:(3:Int)<(d.cons.length:Int):=by omega
    simp[h3,e3]
  ·have hj':=(jg.1 hj).1;have hf:=hD.LQ d hm c (je hj);rw[En,jm (by simp[AN];omega),BH hj];simp only[jd];rw[Mk hf (by omega),BK (by omega) (by omega),show ((j:Int)+1)=((j+1:Nat):Int) by omega];unfold Qj;by_cases h3:c.fields.length<=3
   ·have e3:¬ (3:Int)<(c.fields.length:Int):=by omega
    simp only[AN];cases c.fields.all (DJ D)<;>simp[h3,e3]
   ·have e3:(3:Int)<(c.fields.length:Int):=by omega
    simp[h3,e3,AN]
 ·have h0:d.cons.length=0:=by omega
  have e0:¬ decide ((0:Int)<Sh.len d.cons)=true:=by rw[AN,h0];simp
  rw[jn e0,jn h];have hlt:(D.take i).length=i:=by simp;omega
  rw[FE (l:=D.take i) (Ep d D i) (λ_ e=>!Hb e d) (λn=>by rw[Ep,jn (by simp;omega)]) (λn j e hj=>?_) (by omega),FC,F6]
  ·rw[Mo,Mo];simp only[jd];cases (D.take i).all (λe=>!Hb e d)<;>cases DJ D d.from_<;>simp
  ·have hj':=(jg.1 hj).1;have hje:D[j]?=some e:=by rw[kL]at hj;split at hj<;>first|exact hj|cases hj
   rw[Ep,jm (by simp;omega),BH hje];simp only[jd];rw[BK (by omega) (by omega),show ((j:Int)+1)=((j+1:Nat):Int) by omega];unfold Hb;simp only[AN];by_cases a0:e.cons.length=0<;>by_cases a1:e.from_=d.from_<;>by_cases a2:e.to=d.to<;>simp[a0,a1,a2]
def Mi (D:List AM):Bool:=decide (D.length<=4)&&Fp (Lc D) 0 D
theorem QR {D:List AM}(hD:P3 D){N:Nat}(hN:2000000<=N):H4 N D=some (Mi D):=by
 have hlen:=hD.len;unfold H4 Mi;rw[FE (l:=D) (ES N D) (Lc D) (λn=>by rw[ES,jn (by simp[AN])]) (λn i d hd=>?_) (by omega),FC]
 ·simp only[AN];by_cases h:D.length<=4
  ·have e4:¬ (4:Int)<(D.length:Int):=by omega
   cases Fp (Lc D) 0 D<;>simp[h,e4]
  ·have e4:(4:Int)<(D.length:Int):=by omega
   simp[h,e4]
 ·have hi:=(jg.1 hd).1;rw[ES,jm (by simp[AN];omega),RD hD hd hN];simp only[jd];rw[BK (by omega) (by omega),show ((i:Int)+1)=((i+1:Nat):Int) by omega];cases Lc D i d<;>rfl
theorem P4 {D:List AM}(hD:P3 D){N:Nat}(hN:2000000<=N):Hi N D=some (Mi D):=by
 have hlen:=hD.len;unfold Hi Mi;rw[<- R6 (f:=SU D) D 0 (λi d _=>Za D _ d)];rw[FE (l:=D) (ET N D) (SU D) (λn=>by rw[ET,jn (by simp[AN])]) (λn i d hd=>?_) (by omega),FC]
 ·simp only[AN];by_cases h:D.length<=4
  ·have e4:¬ (4:Int)<(D.length:Int):=by omega
   cases Fp (SU D) 0 D<;>simp[h,e4]
  ·have e4:(4:Int)<(D.length:Int):=by omega
   simp[h,e4]
 ·have hi:=(jg.1 hd).1;have hm:=je hd;have hc:=hD.cons d hm;have l2:Ds N d D N 0=some (if d.cons.all (Qj D)=true then .inr () else .inl false):=by
   rw[FE (l:=d.cons) (Ds N d D) (λ_ c=>Qj D c) (λn=>by rw[Ds,jn (by simp[AN])]) (λn j c hj=>?_) (by omega),F6];have hj':=(jg.1 hj).1;have hf:=hD.LQ d hm c (je hj);rw[Ds,jm (by simp[AN];omega),BH hj];simp only[jd];rw[KV hf (by omega),BK (by omega) (by omega),show ((j:Int)+1)=((j+1:Nat):Int) by omega];unfold Qj;by_cases h3:c.fields.length<=3
   ·have e3:¬ (3:Int)<(c.fields.length:Int):=by omega
    simp only[AN];cases c.fields.all (DJ D)<;>simp[h3,e3]
   ·have e3:(3:Int)<(c.fields.length:Int):=by omega
    simp[h3,e3,AN]
  have hlt:(D.take i).length=i:=by simp;omega
  have l3:Dv d (D.take i) N 0=some (if (D.take i).all (λe=>!(decide (d.cons.length=0)&&Hb e d))=true then .inr () else .inl false):=by
   rw[FE (l:=D.take i) (Dv d (D.take i)) (λ_ e=>!(decide (d.cons.length=0)&&Hb e d)) (λn=>by rw[Dv,jn (by simp[AN])]) (λn j e hj=>?_) (by omega),F6];have hj':=(jg.1 hj).1;rw[Dv,jm (by simp only[AN];simp;omega),BH hj];simp only[jd];rw[BK (by omega) (by omega),show ((j:Int)+1)=((j+1:Nat):Int) by omega];unfold Hb;simp only[AN];by_cases b0:d.cons.length=0<;>by_cases a0:e.cons.length=0<;>by_cases a1:e.from_=d.from_<;>by_cases a2:e.to=d.to<;>simp[a0,a1,a2,b0]
  rw[ET,jm (by simp[AN];omega),BH hd];simp only[jd];rw[Jt,Jt,l2,Y5 (by omega) (by omega),BK (by omega) (by omega),show ((i:Int)+1)=((i+1:Nat):Int) by omega];simp only[jd];rw[l3,FC,FC];unfold SU;simp only[AN];generalize d.cons.all (Qj D)=z1;generalize (D.take i).all (λe=>!(decide (d.cons.length=0)&&Hb e d))=z2;by_cases h3:d.cons.length<=3
  ·have e3:¬ (3:Int)<(d.cons.length:Int):=by omega
   by_cases h0:0<d.cons.length
   ·have e0:(0:Int)<(d.cons.length:Int):=by omega
    cases DJ D d.from_<;>cases DJ D d.to<;>cases z1<;>cases z2<;>by_cases h1:d.from_=0<;>by_cases h2:d.to=0<;>simp[h1,h2,h3,e3,h0]
   ·have e0:¬ (0:Int)<(d.cons.length:Int):=by omega
    cases DJ D d.from_<;>cases DJ D d.to<;>cases z1<;>cases z2<;>simp[h3,e3,h0]
  ·have e3:(3:Int)<(d.cons.length:Int):=by omega
   cases DJ D d.from_<;>cases DJ D d.to<;>simp[h3,e3]
end RC
namespace RC
open Go
def LS (ps ls:List Int)(i:Nat)(v:Int):Bool:=
 (decide (0<=v)&&decide (v<(ps.length:Int)))&&(!decide (ps[v.toNat]?=some 0)&&!(decide (0<i)&&decide (v<=(ls[i-1]?).getD 0)))
theorem bn {ls:List Int}{i:Nat}(h0:0<i)(hi:i<ls.length):∃x,ls[i-1]?=some x/\Sh.get ls (((i:Nat):Int)-1)=some x:=by
 obtain⟨x,hx,_⟩:=CF (l:=ls) (i:=i-1) (by omega);exact⟨x,hx,by rw[show ((i:Int)-1)=((i-1:Nat):Int) by omega,BH hx]⟩
theorem Wc {c:Bt}(hp:c.params.length<=1048576)(hl:c.Fu.length<=1048576){N:Nat}(hN:2000000<=N):EI c N 0=some (if Fp (LS c.params c.Fu) 0 c.Fu=true then .inr () else .inl false):=by
 refine FE (l:=c.Fu) (EI c) (LS c.params c.Fu) (λn=>by rw[EI,jn (by simp[AN])]) (λn i v hv=>?_) (by omega);have hi:=(jg.1 hv).1;rw[EI,jm (by simp[AN];omega),BH hv];simp only[jd];rw[AN,BK (n:=(i:Int)+1) (by omega) (by omega),BK (n:=(i:Int)-1) (by omega) (by omega),show ((i:Int)+1)=((i+1:Nat):Int) by omega];unfold LS;by_cases h0:0<=v
 ·have h0':¬ v<0:=by omega
  by_cases h1:v<(c.params.length:Int)
  ·have h1':¬ (c.params.length:Int)<=v:=by omega
   obtain⟨d,e1,e2⟩:=PK h0 h1;rw[e1,e2];by_cases hi0:0<i
   ·obtain⟨x,g1,g2⟩:=bn hi0 hi;rw[g1,g2];by_cases hc:d=0<;>by_cases hx:v<=x<;>simp[h0,h0',h1,h1',hc,hi0,hx]
   ·by_cases hc:d=0<;>simp[h0,h0',h1,h1',hc,hi0]
  ·have h1':(c.params.length:Int)<=v:=by omega
   simp[h0,h0',h1,h1']
 ·have h0':v<0:=by omega
  simp[h0,h0']
def Nn (D:List AM)(ps:List Int)(r:Int):Bool:=decide (ps.length<=3)&&(ps.all (DJ D)&&DJ D r)
theorem So {p:AP}(hf:p.funcs.length<=1048576)(hp :∀f∈p.funcs,f.params.length<=1048576){N:Nat}(hN:2000000<=N):EG N p N 0=some (if (p.funcs.all λf=>Nn p.decls f.params f.result)=true then .inr () else .inl false):=by
 rw[<- F6 _ 0];refine FE (l:=p.funcs) (EG N p) (λ_ f=>Nn p.decls f.params f.result) (λn=>by rw[EG,jn (by simp[AN])]) (λn i f hi=>?_) (by omega);have hi':=(jg.1 hi).1;have hpf:=hp f (je hi);rw[EG,jm (by simp[AN];omega),BH hi];simp only[jd];rw[Mk hpf (by omega),Mo,BK (by omega) (by omega),show ((i:Int)+1)=((i+1:Nat):Int) by omega];unfold Nn;simp only[AN];by_cases h3:f.params.length<=3
 ·have e3:¬ (3:Int)<(f.params.length:Int):=by omega
  generalize f.params.all (DJ p.decls)=z;cases z<;>cases DJ p.decls f.result<;>simp[h3,e3]
 ·have e3:(3:Int)<(f.params.length:Int):=by omega
  simp[h3,e3]
theorem S0 {D:List AM}{l:List Bt}(hf:l.length<=1048576)(hp :∀f∈l,f.params.length<=1048576/\f.Fu.length<=1048576){N:Nat}(hN:2000000<=N):EB N D l N 0=some (if (l.all λf=>Nn D f.params f.result&&Fp (LS f.params f.Fu) 0 f.Fu)=true then .inr () else .inl false):=by
 rw[<- F6 _ 0];refine FE (l:=l) (EB N D l) (λ_ f=>Nn D f.params f.result&&Fp (LS f.params f.Fu) 0 f.Fu) (λn=>by rw[EB,jn (by simp[AN])]) (λn i f hi=>?_) (by omega);have hi':=(jg.1 hi).1;have hpf:=hp f (je hi);rw[EB,jm (by simp[AN];omega),BH hi];simp only[jd];rw[KV hpf.1 (by omega),Jt,Wc hpf.1 hpf.2 hN,FC,BK (by omega) (by omega),show ((i:Int)+1)=((i+1:Nat):Int) by omega];unfold Nn;simp only[AN];generalize Fp (LS f.params f.Fu) 0 f.Fu=y;by_cases h3:f.params.length<=3
 ·have e3:¬ (3:Int)<(f.params.length:Int):=by omega
  generalize f.params.all (DJ D)=z;cases z<;>cases DJ D f.result<;>cases y<;>simp[h3,e3]
 ·have e3:(3:Int)<(f.params.length:Int):=by omega
  simp[h3,e3]
end RC
namespace RC
open Go
def YJ (D:List (List Int×Int)):Bool:=match D with|[]=>false|(ps,r)::_=>decide (ps.length=0)&&decide (r=0)
def OJ (D:List AM)(l:List (List Int×Int)):Bool:=Mi D&&((decide (1<=l.length)&&decide (l.length<=4))&&(l.all (λs=>Nn D s.1 s.2)&&YJ l))
theorem Q4 {p:AP}(hD:P3 p.decls)(hf:p.funcs.length<=1048576)(hp :∀f∈p.funcs,f.params.length<=1048576){N:Nat}(hN:2000000<=N):HC N p=some (OJ p.decls (p.funcs.map λf=>(f.params,f.result))):=by
 unfold HC OJ;rw[QR hD hN,So hf hp hN,FC,Es];simp only[jd,kB,List.all_map,nP];cases Mi p.decls with
 | false=>simp
 | true=>
  cases hl:p.funcs with
  | nil=>simp[AN]
  | cons f r=>
   have e0:Sh.get (f::r) 0=some f:=rfl;rw[e0];generalize (f::r).all (λf=>Nn p.decls f.params f.result)=z;simp only[kI,YJ];have q1:decide ((1:Int)<=Sh.len (f::r))=true:=decide_eq_true (by rw[AN,kQ];omega);have q2:decide (1<=(f::r).length)=true:=by simp
   have q3:decide (Sh.len (f::r)<=4)=decide ((f::r).length<=4):=mU.2 (by rw[AN];omega);have q4:decide (Sh.len f.params=0)=decide (f.params.length=0):=mU.2 (by rw[AN];omega);simp only[q1,q2,q3,q4,jd];cases decide ((f::r).length<=4)<;>cases z<;>by_cases a1:f.params.length=0<;>by_cases a2:f.result=0<;>simp[a1,a2]
theorem Qt {D:List AM}{l:List Bt}(hD:P3 D)(hf:l.length<=1048576)(hp :∀f∈l,f.params.length<=1048576/\f.Fu.length<=1048576){N:Nat}(hN:2000000<=N):
  IY N D l=some (OJ D (l.map λf=>(f.params,f.result))&&l.all (λf=>Fp (LS f.params f.Fu) 0 f.Fu)):=by
 unfold IY OJ;rw[P4 hD hN,S0 hf hp hN,FC];have hsplit:(l.all λf=>Nn D f.params f.result&&Fp (LS f.params f.Fu) 0 f.Fu)=((l.all λf=>Nn D f.params f.result)&&(l.all λf=>Fp (LS f.params f.Fu) 0 f.Fu)):=by
  clear hf hp
  induction l with
  | nil=>rfl
  | cons f r ih=>
   simp only[lx,ih];cases Nn D f.params f.result<;>cases Fp (LS f.params f.Fu) 0 f.Fu<;>simp
 rw[hsplit];simp only[jd,kB,List.all_map,nP];cases Mi D with
 | false=>simp
 | true=>
  cases hl:l with
  | nil=>simp[AN]
  | cons f r=>
   have e0:Sh.get (f::r) 0=some f:=rfl;rw[e0];generalize (f::r).all (λf=>Nn D f.params f.result)=z;generalize (f::r).all (λf=>Fp (LS f.params f.Fu) 0 f.Fu)=y;simp only[kI,YJ];have q1:decide (Sh.len (f::r)<1)=false:=decide_eq_false (by rw[AN,kQ];omega);have q2:decide (1<=(f::r).length)=true:=by simp
   have q3:decide ((4:Int)<Sh.len (f::r))=!decide ((f::r).length<=4):=by rw[<- decide_not];exact mU.2 (by rw[AN];omega)
   have q4:decide ((0:Int)<Sh.len f.params)=!decide (f.params.length=0):=by rw[<- decide_not];exact mU.2 (by rw[AN];omega)
   simp only[q1,q2,q3,q4,jd];cases decide ((f::r).length<=4)<;>cases z<;>cases y<;>by_cases a1:f.params.length=0<;>by_cases a2:f.result=0<;>simp[a1,a2]
end RC
namespace RC
open Go
def nc (D:List AM):Nat:=(D.map (·.cons.length)).sum
theorem LI {D:List AM}{i:Nat}{d:AM}(h:D[i]?=some d):nc (D.take (i+1))=nc (D.take i)+d.cons.length:=by
 rw[D3 h];simp[nc]
theorem R8 {D:List AM}{i:Nat}{d:AM}(h:D[i]?=some d):nc (D.drop i)=d.cons.length+nc (D.drop (i+1)):=by
 rw[drop_cons h];simp[nc]
theorem Gw (D:List AM)(i:Nat):nc D=nc (D.take i)+nc (D.drop i):=by
 unfold nc;rw[<- List.sum_append_nat,<- lJ,List.take_append_drop]
theorem HW {D:List AM}(hD:D.length<=1048576)(hn:nc D<=1048576){i:Nat}(hi:i<=D.length){N:Nat}(hN:2000000<=N):GM N D i=some (nc (D.take i):Int):=by
 unfold GM;have key:∀{N j:Nat},j<=i->i-j<N->Eg D i N (nc (D.take j)) j=some (nc (D.take i):Int):=by
  intro N j hj hN;refine Bo i (λN j=>Eg D i N (nc (D.take j)) j=some (nc (D.take i):Int)) ?_ ?_ hj hN
  ·intro n;rw[Eg,jn (by simp)]
  ·intro n j hj ih;obtain⟨d,hd,_⟩:=CF (l:=D) (i:=j) (by omega);have hs:=Gw D (j+1);have ht:=LI hd;rw[Eg,jm (by simp;omega),BH hd];simp only[jd];rw[AN,BK (n:=(j:Int)+1) (by omega) (by omega),BK (by omega) (by omega),show ((nc (D.take j):Int)+(d.cons.length:Int))=((nc (D.take (j+1)):Nat):Int) by omega,show ((j:Int)+1)=((j+1:Nat):Int) by omega];exact ih
 have:=key (kE _) (by omega:i-0<N);rw[show (((nc (D.take 0):Nat):Int))=0 from rfl,show (((0:Nat):Int))=0 from rfl]at this;rw[this];rfl
theorem Rm {D:List AM}(hD:D.length<=1048576)(hn:nc D<=1048576){N:Nat}(hN:2000000<=N):JM N D=some (nc D:Int):=by
 unfold JM;have key:∀{N j:Nat},j<=D.length->D.length-j<N->Ej D N (nc (D.take j)) j=some (nc D:Int):=by
  intro N j hj hN;refine Bo D.length (λN j=>Ej D N (nc (D.take j)) j=some (nc D:Int)) ?_ ?_ hj hN
  ·intro n;rw[Ej,jn (by simp[AN]),lM]
  ·intro n j hj ih;obtain⟨d,hd,_⟩:=CF hj;have hs:=Gw D (j+1);have ht:=LI hd;rw[Ej,jm (by simp[AN];omega),BH hd];simp only[jd];rw[AN,BK (n:=(j:Int)+1) (by omega) (by omega),BK (by omega) (by omega),show ((nc (D.take j):Int)+(d.cons.length:Int))=((nc (D.take (j+1)):Nat):Int) by omega,show ((j:Int)+1)=((j+1:Nat):Int) by omega];exact ih
 have:=key (kE _) (by omega:D.length-0<N);rw[show (((nc (D.take 0):Nat):Int))=0 from rfl,show (((0:Nat):Int))=0 from rfl]at this;rw[this];rfl
def Gb:List AM->Nat->Nat->Option (Nat×Db)
 | [],_,_=>none
 | d::r,k,c=>match d.cons[c]? with
  | some x=>some (k+1,x)
  | none=>Gb r (k+1) (c-d.cons.length)
theorem O8 {D:List AM}(hD:D.length<=1048576)(hn:nc D<=1048576){c:Nat}(hc:c<nc D){N:Nat}(hN:2000000<=N):∃t x,Gb D 0 c=some (t,x)/\IA N D c=some ((t:Int),x):=by
 have key:∀(m j N c:Nat),D.length-j=m->j<=D.length->m<N->c<nc (D.drop j)->∃t x,Gb (D.drop j) j c=some (t,x)/\FG D N c j=some (.inl ((t:Int),x)):=by
  intro m
  induction m with
  | zero=>
   intro j N c h1 h2 _ h3;rw[lz (by omega)]at h3;simp[nc]at h3
  | succ m ih=>
   intro j N c h1 h2 h3 h4;obtain⟨N,rfl⟩ :∃n,N=n+1:=⟨N-1,by omega⟩
   obtain⟨d,hd,_⟩:=CF (l:=D) (i:=j) (by omega);have hs:=Gw D j;rw[R8 hd]at h4 hs;rw[drop_cons hd];unfold Gb;rw[FG,jm (by simp[AN];omega),BH hd];simp only[jd];rw[jm (by simp),AN,BK (n:=(j:Int)+1) (by omega) (by omega),BK (by omega) (by omega)];cases hx:d.cons[c]? with
   | some x=>
    have hlt:=(jg.1 hx).1;refine⟨j+1,x,rfl,?_⟩;have e:((c:Int)<(d.cons.length:Int)):=by omega
    simp[e,BH hx]
   | none=>
    have hle:d.cons.length<=c:=by simpa using hx
    obtain⟨t,x,g1,g2⟩:=ih (j+1) N (c-d.cons.length) (by omega) (by omega) (by omega) (by omega);refine⟨t,x,g1,?_⟩;have e:¬ ((c:Int)<(d.cons.length:Int)):=by omega
    rw[<- g2,show ((c:Int)-(d.cons.length:Int))=((c-d.cons.length:Nat):Int) by omega,show ((j:Int)+1)=((j+1:Nat):Int) by omega];simp[e]
 obtain⟨t,x,g1,g2⟩:=key D.length 0 N c (by omega) (by omega) (by omega) (by simpa using hc);refine⟨t,x,by simpa using g1,?_⟩;unfold IA;rw[show (((0:Nat):Int))=0 from rfl]at g2;rw[g2];rfl
end RC
namespace RC
open Go
theorem Kk {D:List AM}(hD:D.length<=1048576)(hn:nc D<=1048576){c:Nat}(hc:c<nc D){N:Nat}(hN:2000000<=N):∃t x,Gb D 0 c=some (t,x)/\GF N D c=some (t:Int):=by
 have key:∀(m j M c:Nat),D.length-j=m->j<=D.length->m<M->c<nc (D.drop j)->∃t x,Gb (D.drop j) j c=some (t,x)/\D1 N D ((nc (D.take j)+c:Nat):Int) M j=some (.inl (t:Int)):=by
  intro m
  induction m with
  | zero=>
   intro j M c h1 h2 _ h3;rw[lz (by omega)]at h3;simp[nc]at h3
  | succ m ih=>
   intro j M c h1 h2 h3 h4;obtain⟨M,rfl⟩ :∃n,M=n+1:=⟨M-1,by omega⟩
   obtain⟨d,hd,_⟩:=CF (l:=D) (i:=j) (by omega);have hs:=Gw D j;rw[R8 hd]at h4 hs;have ht:=LI hd;rw[drop_cons hd];unfold Gb;rw[D1,jm (by simp[AN];omega),HW hD hn (by omega) hN,BH hd];simp only[jd];rw[AN,BK (n:=(j:Int)+1) (by omega) (by omega),BK (n:=(nc (D.take j):Int)+(d.cons.length:Int)) (by omega) (by omega),BK (by omega) (by omega),Es];simp only[jd];cases hx:d.cons[c]? with
   | some x=>
    have hlt:=(jg.1 hx).1;refine⟨j+1,x,rfl,?_⟩;rw[jm (by simp;omega)];rfl
   | none=>
    have hle:d.cons.length<=c:=by simpa using hx
    obtain⟨t,x,g1,g2⟩:=ih (j+1) M (c-d.cons.length) (by omega) (by omega) (by omega) (by omega);refine⟨t,x,g1,?_⟩;rw[jn (by simp;omega),<- g2,show nc (D.take j)+c=nc (D.take (j+1))+(c-d.cons.length) by omega];rfl
 obtain⟨t,x,g1,g2⟩:=key D.length 0 N c (by omega) (by omega) (by omega) (by simpa using hc);refine⟨t,x,by simpa using g1,?_⟩;unfold GF;rw[show nc (D.take 0)+c=c by simp[nc],show (((0:Nat):Int))=0 from rfl]at g2;rw[g2];rfl
theorem Mu {D:List AM}(hD:D.length<=1048576)(hn:nc D<=1048576){c:Int}(hc:c<0∨(nc D:Int)<=c){N:Nat}(hN:2000000<=N):GF N D c=some (-1):=by
 unfold GF;have key:∀{M j:Nat},j<=D.length->D.length-j<M->D1 N D c M j=some (.inr ()):=by
  intro M j hj hM;refine Bo D.length (λM j=>D1 N D c M j=some (.inr ())) ?_ ?_ hj hM
  ·intro n;rw[D1,jn (by simp[AN])]
  ·intro n j hj ih;obtain⟨d,hd,_⟩:=CF hj;have hs:=Gw D (j+1);have ht:=LI hd;rw[D1,jm (by simp[AN];omega),HW hD hn (by omega) hN,BH hd];simp only[jd];rw[AN,BK (n:=(j:Int)+1) (by omega) (by omega),BK (n:=(nc (D.take j):Int)+(d.cons.length:Int)) (by omega) (by omega),BK (by omega) (by omega),Es];simp only[jd];rw[jn (by simp;omega)];exact ih
 have:=key (kE _) (by omega:D.length-0<N);rw[show (((0:Nat):Int))=0 from rfl]at this;rw[this];rfl
end RC
namespace RC
open Go
theorem Zt {D:List AM}:∀(m j c t:Nat) (x:Db),D.length-j=m->j<=D.length->Gb (D.drop j) j c=some (t,x)->∃d,1<=t/\D[t-1]?=some d/\nc (D.take (t-1))<=nc (D.take j)+c/\d.cons[nc (D.take j)+c-nc (D.take (t-1))]?=some x:=by
 intro m
 induction m with
 | zero=>
  intro j c t x h1 h2 h;rw[lz (by omega)]at h;simp[Gb]at h
 | succ m ih=>
  intro j c t x h1 h2 h;obtain⟨d,hd,_⟩:=CF (l:=D) (i:=j) (by omega);have ht:=LI hd;rw[drop_cons hd]at h;unfold Gb at h;cases hx:d.cons[c]? with
  | some y=>
   rw[hx]at h;simp only[jh,nA]at h;obtain⟨rfl,rfl⟩:=h;exact⟨d,by omega,by simpa using hd,by simp,by simpa using hx⟩
  | none=>
   rw[hx]at h;have hle:d.cons.length<=c:=by simpa using hx
   obtain⟨e,g1,g2,g3,g4⟩:=ih (j+1) (c-d.cons.length) t x (by omega) (by omega) h;rw[show nc (D.take (j+1))+(c-d.cons.length)=nc (D.take j)+c by omega]at g3 g4;exact⟨e,g1,g2,g3,g4⟩
theorem G3 {D:List AM}(hD:D.length<=1048576)(hn:nc D<=1048576){c:Nat}(hc:c<nc D){N:Nat}(hN:2000000<=N):∃t x,Gb D 0 c=some (t,x)/\Bv N D c=some x.fields:=by
 obtain⟨t,x,e1,e2⟩:=Kk hD hn hc hN;obtain⟨d,g1,g2,g3,g4⟩:=Zt (D:=D) D.length 0 c t x (by omega) (by omega) (by simpa using e1);have hlt:=(jg.1 g2).1;have hs:=Gw D (t-1);rw[show nc (D.take 0)+c=c by simp[nc]]at g3 g4;refine⟨t,x,e1,?_⟩;unfold Bv;rw[e2];simp only[jd];rw[jn (by simp;omega),BK (n:=(t:Int)-1) (by omega) (by omega),show ((t:Int)-1)=((t-1:Nat):Int) by omega,BH g2,HW hD hn (by omega) hN];simp only[jd];rw[BK (by omega) (by omega),show ((c:Int)-(nc (D.take (t-1)):Int))=((c-nc (D.take (t-1)):Nat):Int) by omega,BH g4];rfl
theorem SJ {D:List AM}(hD:D.length<=1048576)(hn:nc D<=1048576){c:Nat}(hc:c<nc D){N:Nat}(hN:2000000<=N):∃t x,Gb D 0 c=some (t,x)/\EJ N D c=some x.fields:=by
 obtain⟨t,x,e1,e2⟩:=O8 hD hn hc hN;exact⟨t,x,e1,by unfold EJ;rw[e2];rfl⟩
end RC
namespace RC
open Go
def Bs (D:List AM)(t:Int):List Int:=
 if 1<=t/\t<=(D.length:Int) then (List.range ((D[(t-1).toNat]?).elim 0 (·.cons.length))).map λ(i:Nat)=>(nc (D.take (t-1).toNat):Int)+(i:Int) else []
theorem Tb {f:Nat->Int}{i:Nat}:(List.range (i+1)).map f=(List.range i).map f++[f i]:=by rw[List.range_succ,lJ];rfl
theorem Ld {D:List AM}(hD:D.length<=1048576)(hn:nc D<=1048576){t:Int}{N:Nat}(hN:2000000<=N):GI N D t=some (Bs D t):=by
 unfold GI Bs;rw[Es,AN];simp only[jd];by_cases h:1<=t/\t<=(D.length:Int)
 ·obtain⟨a,ha⟩ :∃a:Nat,t=(a:Int)+1:=⟨(t-1).toNat,by omega⟩
  subst ha;obtain⟨d,hd,_⟩:=CF (l:=D) (i:=a) (by omega);have hs:=Gw D (a+1);have ht:=LI hd;rw[jn (by simp;omega),jm h,show (((a:Int)+1)-1).toNat=a by omega,hd];simp only[mC];have key:∀{M i:Nat},i<=d.cons.length->d.cons.length-i<M->FR N D ((a:Int)+1) M i ((List.range i).map λ(i:Nat)=>(nc (D.take a):Int)+(i:Int))=some ((List.range d.cons.length).map λ(i:Nat)=>(nc (D.take a):Int)+(i:Int)):=by
   intro M i hi hM;refine Bo d.cons.length (λM i=>FR N D ((a:Int)+1) M i ((List.range i).map λ(i:Nat)=>(nc (D.take a):Int)+(i:Int))=some ((List.range d.cons.length).map λ(i:Nat)=>(nc (D.take a):Int)+(i:Int))) ?_ ?_ hi hM
   ·intro n;rw[FR,BK (by omega) (by omega),show ((a:Int)+1-1)=((a:Nat):Int) by omega,BH hd];simp only[jd];rw[jn (by simp[AN])]
   ·intro n i hi ih;rw[FR,BK (n:=(a:Int)+1-1) (by omega) (by omega),show ((a:Int)+1-1)=((a:Nat):Int) by omega,BH hd];simp only[jd];rw[jm (by simp[AN];omega),HW hD hn (by omega) hN];simp only[jd];rw[EM _ _ _ (by simp;omega) (by simp;omega),BK (n:=(i:Int)+1) (by omega) (by omega),BK (by omega) (by omega),show ((i:Int)+1)=((i+1:Nat):Int) by omega];simp only[jd];rw[<- ih,Tb]
  have:=key (kE _) (by omega:d.cons.length-0<N);rw[show (((0:Nat):Int))=0 from rfl,List.range_zero,lV]at this;rw[this];rfl
 ·rw[jm (by simp;omega),jn h]
theorem HD {D:List AM}(hD:D.length<=1048576)(hn:nc D<=1048576){t:Int}{N:Nat}(hN:2000000<=N):HS N D t=some (Bs D t):=by
 unfold HS Bs;rw[AN];by_cases h:1<=t/\t<=(D.length:Int)
 ·obtain⟨a,ha⟩ :∃a:Nat,t=(a:Int)+1:=⟨(t-1).toNat,by omega⟩
  subst ha;obtain⟨d,hd,_⟩:=CF (l:=D) (i:=a) (by omega);have hs:=Gw D (a+1);have hs0:=Gw D a;have ht:=LI hd;have e1:¬ ((a:Int)+1<1):=by omega
  have e2:¬ ((D.length:Int)<(a:Int)+1):=by omega
  rw[jm h,show (((a:Int)+1)-1).toNat=a by omega,hd,BK (by omega) (by omega),show ((a:Int)+1-1)=((a:Nat):Int) by omega,Y5 (by omega) (by omega),BH hd];simp only[mC,e1,e2,kA,jk,kH,jd];rw[Rm (by simp;omega) (by omega) hN];simp only[jd];have key:∀{M i:Nat},i<=d.cons.length->d.cons.length-i<M->FO d (nc (D.take a):Int) M i ((List.range i).map λ(i:Nat)=>(nc (D.take a):Int)+(i:Int))=some ((List.range d.cons.length).map λ(i:Nat)=>(nc (D.take a):Int)+(i:Int)):=by
   intro M i hi hM;refine Bo d.cons.length (λM i=>FO d (nc (D.take a):Int) M i ((List.range i).map λ(i:Nat)=>(nc (D.take a):Int)+(i:Int))=some ((List.range d.cons.length).map λ(i:Nat)=>(nc (D.take a):Int)+(i:Int))) ?_ ?_ hi hM
   ·intro n;rw[FO,jn (by simp[AN])]
   ·intro n i hi ih;rw[FO,jm (by simp[AN];omega)];rw[EM _ _ _ (by simp;omega) (by simp;omega),BK (n:=(i:Int)+1) (by omega) (by omega),BK (by omega) (by omega),show ((i:Int)+1)=((i+1:Nat):Int) by omega];simp only[jd];rw[<- ih,Tb]
  have:=key (kE _) (by omega:d.cons.length-0<N);rw[show (((0:Nat):Int))=0 from rfl,List.range_zero,lV]at this;rw[this];rfl
 ·rw[jn h];by_cases e1:t<1
  ·simp[e1]
  ·have e2:(D.length:Int)<t:=by omega
   simp[e1,e2]
end RC
namespace RC
open Go
end RC
namespace RC
open Go
def iG (left:Int)(s:Nat):Int:=if left-s<0 then -1 else left-s
theorem SI {left:Int}{s:Nat}(h:left-s<0):iG left s=-1:=jm h
theorem U4 {left:Int}{s:Nat}(h:¬ left-s<0):iG left s=left-s:=jn h
def cz (c:Db):Nat:=c.fields.length
def dz (d:AM):Nat:=d.cons.length+(d.cons.map cz).sum
end RC
namespace RC
open Go
end RC
namespace RC
open Go
end RC
namespace RC
open Go
end RC
namespace RC
open Go
section
variable {im : er} {p : eA} {at_ : Nat} {i : bT} {N : Nat}
end
end RC
namespace RC
open Go
theorem LR {α:Type}(f:α->Nat){l:List α}{x:α}(h:x∈l):f x<=(l.map f).sum:=by
 induction l with
 | nil=>cases h
 | cons y r ih=>
  rw[kI,mM];rcases js.1 h with rfl|h
  ·omega
  ·have:=ih h;omega
end RC
namespace RC
open Go
end RC
namespace RC
open Go
end RC
namespace RC
open Go
mutual
def en:AE->Nat|.mk _ _ k=>1+CK k
def CK:List AE->Nat|[]=>0|e::l=>en e+CK l
end
theorem Fw (e:AE):en e=1+CK e.kids:=by cases e;simp[en,AE.kids]
theorem Wu {k:List AE}{i:Nat}{e:AE}(h:k[i]?=some e):CK (k.drop i)=en e+CK (k.drop (i+1)):=by rw[drop_cons h];simp[CK]
theorem G6 (e:AE):1<=en e:=by rw[Fw];omega
theorem Hy {k:List AE}{e:AE}(h:e∈k):en e<=CK k:=by
 induction k with
 | nil=>cases h
 | cons c k ih=>
  simp only[CK];rcases js.1 h with rfl|h
  ·omega
  ·have:=ih h;omega
theorem Hk (k:List AE):k.length<=CK k:=by
 induction k with
 | nil=>simp
 | cons c k ih=>have:=G6 c;simp only[CK,kQ];omega
theorem DG {e k:AE}(h:k∈e.kids):en k<en e:=by have:=Hy h;rw[Fw e];omega
def YB (f:Ac):Nat:=f.params.length+CK f.body.kids
def Sz (p:AP):Nat:=(p.decls.length+(p.decls.map dz).sum)+(p.funcs.length+(p.funcs.map YB).sum)
theorem T2 {N:Nat}(hN:2000000<=N):∀(n:Nat) (e:AE) (left:Int),left<=1000->0<=left->left<n->CK e.kids<=1048576->E7 N n e left=some (iG left (en e)):=by
 intro n
 induction n with
 | zero=>intro e left _ _ h;omega
 | succ n ih=>
  intro e left h0 hl0 h1 hz;rw[E7];unfold Iw;have hp:=Fw e;have hle:=Hk e.kids;by_cases h2:left<1
  ·rw[jm (by simpa using h2),SI (by omega)]
  ·rw[jn (by simpa using h2),BK (by omega) (by omega)];have key:∀{M i:Nat},i<=e.kids.length->e.kids.length-i<M->∀l:Int,0<=l->l<left->Dg e (E7 N n) M l i=some (if l-(CK (e.kids.drop i):Int)<0 then .inl (-1) else .inr (l-(CK (e.kids.drop i):Int))):=by
    intro M i hi hM;refine Bo e.kids.length (λM i=>∀l:Int,0<=l->l<left->Dg e (E7 N n) M l i=some (if l-(CK (e.kids.drop i):Int)<0 then .inl (-1) else .inr (l-(CK (e.kids.drop i):Int)))) ?_ ?_ hi hM
    ·intro m l l0 l1;rw[Dg,jn (by simp[AN])];simp[CK];omega
    ·intro m i hi ih2 l l0 l1;obtain⟨x,hx,hxm⟩:=CF hi;have hz2:=Hy hxm;have e1:=Fw x;rw[Dg,jm (by simp[AN];omega),BH hx];simp only[jd];rw[ih x l (by omega) l0 (by omega) (by omega),Wu hx];simp only[jd];by_cases h3:l-(en x:Int)<0
     ·rw[SI h3,jm (by simp),jm (by omega)]
     ·rw[U4 h3,jn (by simpa using h3),BK (by omega) (by omega),show ((i:Int)+1)=((i+1:Nat):Int) by omega,ih2 (l-(en x:Int)) (by omega) (by omega)];rw[show l-(en x:Int)-(CK (e.kids.drop (i+1)):Int)=l-((en x+CK (e.kids.drop (i+1)):Nat):Int) by omega]
   have:=key (kE _) (by omega:e.kids.length-0<N) (left-1) (by omega) (by omega);rw[show ((0:Nat):Int)=0 from rfl,lj]at this;rw[this];by_cases h3:left-1-(CK e.kids:Int)<0
   ·rw[jm h3,SI (by omega)];rfl
   ·rw[jn h3,U4 (by omega)];simp only[Sh.Ns];congr 1;omega
theorem Gv {e:AE}(hz:CK e.kids<=1048576){N:Nat}(hN:2000000<=N):Gl N e=some (if en e<=30 then (en e:Int) else -1):=by
 unfold Gl LX;rw[T2 hN N e 30 (by omega) (by omega) (by omega) hz];simp only[jd];by_cases h:en e<=30
 ·rw[U4 (by omega),jm h,jn (by simp;omega),BK (by omega) (by omega)];congr 1;omega
 ·rw[SI (by omega),jn h];rfl
theorem TL {N:Nat}(hN:2000000<=N):∀(n:Nat) (e:AE) (c:Nat),c<=30->31-c<n->CK e.kids<=1048576->Er N n c e=some (if c+en e<=30 then (true,((c+en e:Nat):Int)) else (false,31)):=by
 intro n
 induction n with
 | zero=>intro e c _ h;omega
 | succ n ih=>
  intro e c h0 h1 hz;rw[Er];unfold ID;have hp:=Fw e;have hle:=Hk e.kids;rw[BK (by omega) (by omega)];by_cases h2:c=30
  ·subst h2;rw[jm (by simp),jn (by omega)];rfl
  ·rw[jn (by simp;omega)];have key:∀{M i:Nat},i<=e.kids.length->e.kids.length-i<M->∀d:Nat,c<d->d<=30->DN e (Er N n) M i d=some (if d+CK (e.kids.drop i)<=30 then .inr ((d+CK (e.kids.drop i):Nat):Int) else .inl (false,31)):=by
    intro M i hi hM;refine Bo e.kids.length (λM i=>∀d:Nat,c<d->d<=30->DN e (Er N n) M i d=some (if d+CK (e.kids.drop i)<=30 then .inr ((d+CK (e.kids.drop i):Nat):Int) else .inl (false,31))) ?_ ?_ hi hM
    ·intro m d l0 l1;rw[DN,jn (by simp[AN])];simp[CK,l1]
    ·intro m i hi ih2 d l0 l1;obtain⟨x,hx,hxm⟩:=CF hi;have hz2:=Hy hxm;have e1:=Fw x;rw[DN,jm (by simp[AN];omega),BH hx];simp only[jd];rw[ih x d l1 (by omega) (by omega),Wu hx];simp only[jd];by_cases h3:d+en x<=30
     ·rw[jm h3];simp only[lL,jk,kH];rw[BK (by omega) (by omega),show ((i:Int)+1)=((i+1:Nat):Int) by omega,ih2 (d+en x) (by omega) h3,lS]
     ·have h4:¬ (d+(en x+CK (List.drop (i+1) e.kids))<=30):=by omega
      rw[jn h3,jn h4];rfl
   have:=key (kE _) (by omega:e.kids.length-0<N) (c+1) (by omega) (by omega);rw[show ((0:Nat):Int)=0 from rfl,lj,show ((c+1:Nat):Int)=(c:Int)+1 by omega]at this;rw[this];by_cases h3:c+1+CK e.kids<=30
   ·rw[jm h3,jm (by omega)];simp only[Sh.Ns];rw[show c+1+CK e.kids=c+en e by omega]
   ·rw[jn h3,jn (by omega)];rfl
theorem Nj {e:AE}(hz:CK e.kids<=1048576){N:Nat}(hN:2000000<=N):Ih N e=some (if en e<=30 then (en e:Int) else -1):=by
 unfold Ih Km;have:=TL hN N e 0 (by omega) (by omega) hz;rw[show ((0:Nat):Int)=0 from rfl,kt]at this;rw[this];simp only[jd];by_cases h:en e<=30
 ·rw[jm h,jm h];rfl
 ·rw[jn h,jn h];rfl
end RC
namespace RC
open Go
theorem Pf {α:Type}{g:Nat->α->Bool}:∀(l:List α) (k:Nat),Fp g k l=true↔∀(i:Nat) x,l[i]?=some x->g (k+i) x=true
 | [],_=>by simp[Fp]
 | x::r,k=>by
  rw[Fp,kF,Pf r (k+1)];constructor
  ·rintro⟨h1,h2⟩ i y hy;cases i with
   | zero=>simp only[kK,jh]at hy;subst hy;exact h1
   | succ i=>have:=h2 i y hy;rw[show k+(i+1)=k+1+i by omega];exact this
  ·intro h;exact⟨h 0 x rfl,λi y hy=>by have:=h (i+1) y hy;rw[show k+(i+1)=k+1+i by omega]at this;exact this⟩
theorem SM {a b:List Int}(h:a.length=b.length):Fp (λi x=>decide (b[i]?=some x)) 0 a=decide (a=b):=by
 rw[Bool.eq_iff_iff,Pf,mg];constructor
 ·intro g;refine lk λi=>?_;by_cases hi:i<a.length
  ·obtain⟨x,hx,_⟩:=CF hi;have:=g i x hx;rw[mg,kt]at this;rw[hx,this]
  ·rw[kq (by omega),kq (by omega)]
 ·rintro rfl i x hx;rw[mg,kt,hx]
theorem Nv {a b:List Int}(ha:a.length<=1048576){N:Nat}(hN:2000000<=N):DR N a b=some (decide (a=b)):=by
 unfold DR;by_cases h:a.length=b.length
 ·rw[jn (by simp[AN,h]),FE (l:=a) (DB a b) (λi x=>decide (b[i]?=some x)) (λn=>by rw[DB,jn (by simp[AN])]) (λn i x hx=>?_) (by omega),FC,SM h]
  ·cases decide (a=b)<;>rfl
  ·have hi:=(jg.1 hx).1;obtain⟨y,hy,_⟩:=CF (l:=b) (i:=i) (by omega);rw[DB,jm (by simp[AN];omega),BH hx];simp only[jd];rw[BH hy,hy,BK (by omega) (by omega),show ((i:Int)+1)=((i+1:Nat):Int) by omega];simp only[jd];by_cases e:x=y
   ·simp[e]
   ·have e':¬ y=x:=λq=>e q.symm;simp[e,e']
 ·have hne:¬ a=b:=λe=>h (by rw[e]);have h':¬ ((a.length:Int)=(b.length:Int)):=by omega
  simp[AN,h',hne]
structure Ek (D:List AM) (F:List Ac):Prop where
 Ms:D.length<=4
 Qa :∀d∈D,d.cons.length<=3
 LQ :∀d∈D,∀c∈d.cons,c.fields.length<=3/\∀t∈c.fields,DJ D t=true
 cw :∀d∈D,DJ D d.from_=true/\DJ D d.to=true
 Kz:F.length<=4
 Ov :∀f∈F,f.params.length<=3/\(∀t∈f.params,DJ D t=true)/\DJ D f.result=true
theorem dg {D:List AM}(h :∀d∈D,d.cons.length<=3):nc D<=3*D.length:=by
 induction D with
 | nil=>simp[nc]
 | cons d r ih=>
  have h1:=h d (by simp);have h2:=ih λe he=>h e (by simp[he]);simp only[nc,kI,mM,kQ]at h2⊢;omega
theorem Ek.nc {D:List AM}{F:List Ac}(S:Ek D F):nc D<=12:=by have:=dg S.Qa;have:=S.Ms;omega
theorem Ju {D:List AM}{t:Int}(h:DJ D t=true):0<=t/\t<=(D.length:Int):=by
 unfold DJ at h;simpa using h
theorem Ek.of {p:AP}(h:OJ p.decls (p.funcs.map λf=>(f.params,f.result))=true):Ek p.decls p.funcs:=by
 unfold OJ at h;simp only[kF,kB,List.all_map,jw]at h;obtain⟨h1,⟨_,h2⟩,h3,_⟩:=h;unfold Mi at h1;simp only[kF,jw]at h1;obtain⟨h4,h5⟩:=h1;rw[Pf]at h5;have hd:∀d∈p.decls,∃i,Lc p.decls i d=true:=λd hd=>by
  obtain⟨i,hi⟩:=jz.1 hd;exact⟨_,h5 i d hi⟩
 refine⟨h4,λd hm=>?_,λd hm c hc=>?_,λd hm=>?_,h2,λf hf=>?_⟩
 ·obtain⟨i,hi⟩:=hd d hm;unfold Lc at hi;split at hi
  ·simp only[kF,jw]at hi;exact hi.1.1
  ·omega
 ·obtain⟨i,hi⟩:=hd d hm;unfold Lc at hi;split at hi
  ·simp only[kF,jw,jq]at hi;have:=hi.2 c hc;unfold Qj at this;simp only[kF,jw,jq]at this;exact this
  ·have:=List.length_pos_of_mem hc;omega
 ·obtain⟨i,hi⟩:=hd d hm;unfold Lc at hi;split at hi
  ·simp only[kF,jw]at hi;rw[hi.1.2.1,hi.1.2.2];have:DJ p.decls 0=true:=by unfold DJ;simp
   exact⟨this,this⟩
  ·simp only[kF]at hi;exact hi.2
 ·have:=jq.1 h3 f hf;simp only[Function.comp,Nn,kF,jw,jq]at this;exact this
def KX (p:AP)(sg:BO)(R1:AP->List Int->AE->Option Int)(R2:List Int->BO->AE->Option Int)(T:List Int->AE->Int)(m:Nat):Prop:=
 ∀(v:List Int) (e:AE),An e->en e<m->v.length+3*en e<=1000->(∀x∈v,DJ p.decls x=true)->R1 p v e=some (T v e)/\R2 v sg e=some (T v e)/\(T v e=-1∨DJ p.decls (T v e)=true)
section
variable {p : AP} {sg : BO} {R1 : AP -> List Int -> AE -> Option Int} {R2 : List Int -> BO -> AE -> Option Int} {T : List Int -> AE -> Int} {e : AE} {v : List Int} {N : Nat}
structure IB (p:AP) (e:AE) (v:List Int):Prop where
 len:v.length+3*en e<=1000
 H7 :∀x∈v,DJ p.decls x=true
 small:en e<=340
 CZ:An e
theorem IB.I1 (V:IB p e v){k:AE}(hk:k∈e.kids):v.length+3*en k<=1000:=by have:=V.len;have:=DG hk;omega
theorem IB.more (V:IB p e v){k:AE}(hk:k∈e.kids){m:List Int}(hm:m.length<=3):(v++m).length+3*en k<=1000:=by have:=V.len;have:=DG hk;rw[kD];omega
theorem IB.Ws (V:IB p e v){m:List Int}(hm :∀x∈m,DJ p.decls x=true):∀x∈v++m,DJ p.decls x=true:=λx hx=>by
 rcases kJ.1 hx with h|h
 ·exact V.H7 x h
 ·exact hm x h
theorem IB.LB (V:IB p e v):e.kids.length<=340:=by have:=Hk e.kids;have:=V.small;have:=Fw e;omega
theorem PV (H:KX p sg R1 R2 T (en e))(V:IB p e v)(hN:2000000<=N)(m:Nat):Ib N R1 p v e.kids m=some (decide (e.kids.map (T v)=List.replicate m 0)):=by
 unfold Ib;have hk:=V.LB;by_cases h:e.kids.length=m
 ·subst h;rw[jn (by simp[AN]),FE (l:=e.kids) (Fb p v e.kids e.kids.length R1) (λ_ x=>decide (T v x=0)) (λn=>by rw[Fb,jn (by simp)]) (λn i x hx=>?_) (by omega),FC,F6]
  ·have e1:e.kids.all (λx=>decide (T v x=0))=decide (e.kids.map (T v)=List.replicate e.kids.length 0):=by
    rw[Bool.eq_iff_iff,mg,jq,List.eq_replicate_iff];simp
   rw[e1];cases decide (e.kids.map (T v)=List.replicate e.kids.length 0)<;>rfl
  ·have hi:=(jg.1 hx).1;have hm:=je hx;rw[Fb,jm (by simp;omega),BH hx];simp only[jd];rw[(H v x (V.CZ.kids x hm) (DG hm) (V.I1 hm) V.H7).1,BK (by omega) (by omega),show ((i:Int)+1)=((i+1:Nat):Int) by omega];simp only[jd];by_cases e1:T v x=0<;>simp[e1]
 ·have h1:¬ ((e.kids.length:Int)=(m:Int)):=by omega
  have h2:¬ e.kids.map (T v)=List.replicate m 0:=λq=>h (by have:=kf List.length q;simpa using this);simp[AN,h1,h2]
theorem Ps (H:KX p sg R1 R2 T (en e))(V:IB p e v)(hN:2000000<=N)(l:List Int):JG N R1 p v e.kids l=some (decide (e.kids.map (T v)=l)):=by
 unfold JG;have hk:=V.LB;by_cases h:e.kids.length=l.length
 ·rw[jn (by simp[AN,h]),FE (l:=l) (GS p v e.kids l R1) (λi x=>decide ((e.kids.map (T v))[i]?=some x)) (λn=>by rw[GS,jn (by simp[AN])]) (λn i x hx=>?_) (by omega),FC,SM (by simp[h])]
  ·by_cases q:l=e.kids.map (T v)
   ·simp[q]
   ·have q':¬ e.kids.map (T v)=l:=λz=>q z.symm;simp[q,q']
  ·have hi:=(jg.1 hx).1;obtain⟨y,hy,hm⟩:=CF (l:=e.kids) (i:=i) (by omega);rw[GS,jm (by simp[AN];omega),BH hy];simp only[jd];rw[(H v y (V.CZ.kids y hm) (DG hm) (V.I1 hm) V.H7).1,BH hx,BK (by omega) (by omega),show ((i:Int)+1)=((i+1:Nat):Int) by omega];simp only[jd];rw[ji,hy,kb];by_cases e1:T v y=x<;>simp[e1]
 ·have h1:¬ ((e.kids.length:Int)=(l.length:Int)):=by omega
  have h2:¬ e.kids.map (T v)=l:=λq=>h (by have:=kf List.length q;simpa using this);simp[AN,h1,h2]
theorem Xx (H:KX p sg R1 R2 T (en e))(V:IB p e v)(hN:2000000<=N):
  CG v sg e R2 N 0 (List.replicate e.kids.length 0)=some (if (e.kids.map (T v)).any (λt=>decide (t<0))=true then .inl (-1) else .inr (e.kids.map (T v))):=by
 have hk:=V.LB;have key:∀{N i:Nat},i<=e.kids.length->e.kids.length-i<N->∀m:List Int,m.length=e.kids.length->m.take i=(e.kids.map (T v)).take i->
   CG v sg e R2 N i m=some (if ((e.kids.map (T v)).drop i).any (λt=>decide (t<0))=true then .inl (-1) else .inr (e.kids.map (T v))):=by
  intro N i hi hN;refine Bo e.kids.length (λN i=>∀m:List Int,m.length=e.kids.length->m.take i=(e.kids.map (T v)).take i->
   CG v sg e R2 N i m=some (if ((e.kids.map (T v)).drop i).any (λt=>decide (t<0))=true then .inl (-1) else .inr (e.kids.map (T v)))) ?_ ?_ hi hN
  ·intro n m a b;rw[CG,jn (by simp[AN])];rw[kY (by omega),kY (by simp)]at b;rw[b,mn (by simp)];simp
  ·intro n i hi ih m a b;obtain⟨x,hx,hxm⟩:=CF hi;obtain⟨y,hy,_⟩:=CF (l:=m) (i:=i) (by omega);have hx2:(e.kids.map (T v))[i]?=some (T v x):=by rw[ji,hx];rfl
   have hi':(m.set i (T v x))[i]?=some (T v x):=by rw[ju (by omega)]
   rw[CG,jm (by simp[AN];omega),BH hx];simp only[jd];rw[(H v x (V.CZ.kids x hxm) (DG hxm) (V.I1 hxm) V.H7).2.1,BH hy];simp only[jd];rw[Pb,BH hi',drop_cons hx2];simp only[jd,List.any_cons];by_cases h:T v x<0
   ·simp[h]
   ·rw[jn (by simpa using h),BK (by omega) (by omega),show ((i:Int)+1)=((i+1:Nat):Int) by omega,ih (m.set i (T v x)) (by simp[a]) (by rw[D3 hi',D3 hx2,<- b,nG (jv _)])];simp[h]
 have:=key (kE _) (by omega:e.kids.length-0<N) (List.replicate e.kids.length 0) (by simp) rfl;simpa using this
theorem JB {a b:List Int}(ha:a.length<=1000)(hb:b.length<=1000):Ec a b=some (a++b):=by
 unfold Ec FJ;rw[EM [] a 8 (by simp;omega) (by simp;omega)];simp only[jd,lR];rw[EM a b 8 (by omega) (by omega)];rfl
theorem ab {a b:List Int}(ha:a.length<=1000)(hb:b.length<=1000)(hN:2000000<=N):Fi N [a,b]=some (a++b):=by
 obtain⟨n,rfl⟩ :∃n,N=n+3:=⟨N-3,by omega⟩
 unfold Fi;have e1:Cf [a,b] (n+3) 0 0=some ((a.length+b.length:Nat):Int):=by
  rw[Cf,jm (by simp[AN]),show Sh.get [a,b] 0=some a from rfl];simp only[jd];rw[AN,BK (n:=(0:Int)+1) (by omega) (by omega),BK (by omega) (by omega),jn (by rw[jw];omega)];rw[Cf,jm (by simp[AN]),show Sh.get [a,b] (0+1)=some b from rfl];simp only[jd];rw[AN,BK (n:=(0:Int)+1+1) (by omega) (by omega),BK (by omega) (by omega),jn (by rw[jw];omega)];rw[Cf,jn (by simp[AN])];congr 1;omega
 have e2:Cg [a,b] (n+3) 0 []=some (a++b):=by
  rw[Cg,jm (by simp[AN]),show Sh.get [a,b] 0=some a from rfl];simp only[jd];rw[EM [] a 8 (by simp;omega) (by simp;omega),BK (n:=(0:Int)+1) (by omega) (by omega)];simp only[jd,lR];rw[Cg,jm (by simp[AN]),show Sh.get [a,b] (0+1)=some b from rfl];simp only[jd];rw[EM a b 8 (by omega) (by omega),BK (n:=(0:Int)+1+1) (by omega) (by omega)];simp only[jd];rw[Cg,jn (by simp[AN])]
 have e3:GR ((a.length+b.length:Nat):Int)=some []:=by
  unfold GR;rw[jn (by simp;omega),BK (n:=(0:Int)-0) (by omega) (by omega),BK (by omega) (by omega)];by_cases h:0<a.length+b.length
  ·rw[jm (by simp;omega),show (((a.length+b.length:Nat):Int)-(0-0))=((a.length+b.length:Nat):Int) by omega,PS _ _ _ (by omega) (by omega)];simp only[jd];have:=cv (l:=List.replicate (a.length+b.length) (0:Int)) (j:=0) (by omega);rw[show ((0:Nat):Int)=0 from rfl]at this;rw[this];rfl
  ·rw[jn (by simp;omega)];rfl
 rw[e1];simp only[jd];rw[e3];simp only[jd];rw[e2];rfl
def LJ:List Int->Int
 | []=>-1
 | t::r=>if r.all (λx=>decide (x=t))=true then t else -1
theorem J8 (H:KX p sg R1 R2 T (en e))(V:IB p e v)(hN:2000000<=N){ks:List AE}{ms:List (List Int)}(hks :∀k∈ks,k∈e.kids)(hkl:ks.length<=340)(hl:ms.length=ks.length)(hm :∀m∈ms,m.length<=3/\∀x∈m,DJ p.decls x=true):
  EO N R2 sg v ks ms=some (LJ (List.zipWith (λm k=>T (v++m) k) ms ks)):=by
 unfold EO;have hvl:v.length<=1000:=by have:=V.len;omega
 have step:∀(n i:Nat) (r:Int) k m,ks[i]?=some k->ms[i]?=some m->Bg N sg v ks ms R2 (n+1) r i=if T (v++m) k<0∨(0<i/\T (v++m) k≠r) then some (.inl (-1)) else Bg N sg v ks ms R2 n (T (v++m) k) ((i+1:Nat):Int):=by
  intro n i r k m hk hmm;have hi:=(jg.1 hk).1;have hmo:=hm m (je hmm);have hke:=hks k (je hk);rw[Bg,jm (by simp[AN];omega),BH hk];simp only[jd];rw[BH hmm];simp only[jd];rw[ab hvl (by omega) hN];simp only[jd];rw[(H (v++m) k (V.CZ.kids k hke) (DG hke) (V.more hke hmo.1) (V.Ws hmo.2)).2.1];simp only[jd];rw[BK (by omega) (by omega),show ((i:Int)+1)=((i+1:Nat):Int) by omega];by_cases h1:T (v++m) k<0
  ·simp[h1]
  ·by_cases h2:0<i
   ·by_cases h3:T (v++m) k=r
    ·have h1':¬ r<0:=h3▸h1;simp[h1',h2,h3]
    ·simp[h1,h2,h3]
   ·simp[h1,h2]
 have rest:∀(d i n:Nat) (r:Int),ks.length-i=d->0<i->i<=ks.length->d<n->Bg N sg v ks ms R2 n r i=some (if ((List.zipWith (λm k=>T (v++m) k) ms ks).drop i).all (λx=>decide (x=r))=true then (if ((List.zipWith (λm k=>T (v++m) k) ms ks).drop i).any (λx=>decide (x<0))=true then .inl (-1) else .inr r) else .inl (-1)):=by
  intro d
  induction d with
  | zero=>
   intro i n r h1 h2 h3 h4;obtain⟨n,rfl⟩ :∃q,n=q+1:=⟨n-1,by omega⟩
   rw[Bg,jn (by simp[AN];omega),mn (by simp;omega)];rfl
  | succ d ih=>
   intro i n r h1 h2 h3 h4;obtain⟨n,rfl⟩ :∃q,n=q+1:=⟨n-1,by omega⟩
   obtain⟨k,hk,_⟩:=CF (l:=ks) (i:=i) (by omega);obtain⟨m,hmm,_⟩:=CF (l:=ms) (i:=i) (by omega);have hz:(List.zipWith (λm k=>T (v++m) k) ms ks)[i]?=some (T (v++m) k):=by rw[lO,hk,hmm]
   rw[step n i r k m hk hmm,drop_cons hz,lx,List.any_cons];by_cases h5:T (v++m) k=r
   ·by_cases h6:T (v++m) k<0
    ·rw[jm (.inl h6)];have h6':r<0:=h5▸h6;simp[h5,h6']
    ·rw[jn (by rintro (h|h);exact h6 h;exact h.2 h5),ih (i+1) n _ (by omega) (by omega) (by omega) (by omega)];have h6':¬ r<0:=h5▸h6;simp[h5,h6']
   ·rw[jm (.inr ⟨h2,h5⟩)];simp[h5]
 cases hks0:ks with
 | nil=>
  obtain⟨n,rfl⟩ :∃q,N=q+1:=⟨N-1,by omega⟩
  rw[Bg,jn (by simp[AN])];simp[LJ]
 | cons k r=>
  cases hms0:ms with
  | nil=>rw[hks0,hms0]at hl;simp at hl
  | cons m s=>
   rw[<- hks0,<- hms0];obtain⟨n,hn⟩ :∃q,N=q+1:=⟨N-1,by omega⟩
   have h0:=step n 0 (-1) k m (by rw[hks0];rfl) (by rw[hms0];rfl);rw[show ((0:Nat):Int)=0 from rfl]at h0;have hke:=hks k (by rw[hks0];simp);have hmo:=hm m (by rw[hms0];simp);have hT:=(H (v++m) k (V.CZ.kids k hke) (DG hke) (V.more hke hmo.1) (V.Ws hmo.2)).2.2;rw[show Bg N sg v ks ms R2 N (-1) 0=Bg N sg v ks ms R2 (n+1) (-1) 0 by rw[<- hn],h0];have hzc:List.zipWith (λm k=>T (v++m) k) ms ks=T (v++m) k::List.zipWith (λm k=>T (v++m) k) s r:=by rw[hks0,hms0];rfl
   rw[hzc];unfold LJ;by_cases h1:T (v++m) k<0
   ·rw[jm (.inl h1)];have:T (v++m) k=-1:=by
     rcases hT with h|h
     ·exact h
     ·have:=(Ju h).1;omega
    rw[this];simp
   ·rw[jn (by rintro (h|h);exact h1 h;omega),rest _ 1 n _ rfl (by omega) (by rw[hks0];simp) (by omega),hzc,List.drop_succ_cons,lj];by_cases h2:(List.zipWith (λm k=>T (v++m) k) s r).all (λx=>decide (x=T (v++m) k))=true
    ·have h3:¬ (List.zipWith (λm k=>T (v++m) k) s r).any (λx=>decide (x<0))=true:=λh=>by
      obtain⟨x,hx,hx2⟩:=mG.1 h;have:=jq.1 h2 x hx;simp only[jw]at this hx2;omega
     rw[jm h2,jn h3];dsimp only;rw[jm h2];rfl
    ·rw[jn h2];dsimp only;rw[jn h2];rfl
end
end RC
namespace RC
open Go
theorem bV {n:Int}(h1:n < -9223372036854775808)(h2:-18446744073709551616<=n):Sh.w n=n+18446744073709551616:=by
 unfold Sh.w;rw[IntKind.wrap_i64];omega
theorem Ty {D:List AM}(hD:D.length<=1048576)(hn:nc D<=1048576){c:Int}(hI:Gu c)(hc:c<0∨(nc D:Int)<=c){N:Nat}(hN:2000000<=N):IA N D c=some (-1,⟨[]⟩):=by
 have key:∀(m j N:Nat) (c:Int),D.length-j=m->j<=D.length->m<N->Gu c->(c<0∨(nc (D.drop j):Int)<=c)->FG D N c j=some (.inr ()):=by
  intro m
  induction m with
  | zero=>
   intro j N c h1 h2 h3 _ _;obtain⟨N,rfl⟩ :∃n,N=n+1:=⟨N-1,by omega⟩
   rw[FG,jn (by simp[AN];omega)]
  | succ m ih=>
   intro j N c h1 h2 h3 hI h4;obtain⟨N,rfl⟩ :∃n,N=n+1:=⟨N-1,by omega⟩
   obtain⟨d,hd,_⟩:=CF (l:=D) (i:=j) (by omega);have hs:=Gw D j;rw[R8 hd]at h4 hs;rw[FG,jm (by simp[AN];omega),BH hd];simp only[jd];have hlo:=hI.1;have hhi:=hI.2;have e1:¬ (0<=c/\c<(d.cons.length:Int)):=by omega
   have e2:(if decide (0<=c)=true then some (decide (c<Sh.len d.cons)) else some false)=some false:=by
    by_cases h0:0<=c
    ·have:¬ c<(d.cons.length:Int):=by omega
     simp[h0,AN,this]
    ·simp[h0]
   rw[BK (n:=(j:Int)+1) (by omega) (by omega),show ((j:Int)+1)=((j+1:Nat):Int) by omega,AN];rw[AN]at e2;by_cases h5:c-(d.cons.length:Int) < -9223372036854775808
   ·have:=ih (j+1) N (Sh.w (c-(d.cons.length:Int))) (by omega) (by omega) (by omega) (by rw[bV h5 (by omega)];unfold Gu;omega) (by rw[bV h5 (by omega)];omega);rw[e2];simp only[jd,jk,kH];exact this
   ·have:=ih (j+1) N (Sh.w (c-(d.cons.length:Int))) (by omega) (by omega) (by omega) (by rw[BK (by omega) (by omega)];unfold Gu;omega) (by rw[BK (by omega) (by omega)];omega);rw[e2];simp only[jd,jk,kH];exact this
 have:=key D.length 0 N c (by omega) (by omega) (by omega) hI (by simpa using hc);unfold IA;rw[show (((0:Nat):Int))=0 from rfl]at this;rw[this];rfl
theorem Kn:∀{D:List AM} {k c t:Nat} {x:Db},Gb D k c=some (t,x)->k<t/\t<=k+D.length/\∃d∈D,x∈d.cons
 | [],_,_,_,_,h=>by simp[Gb]at h
 | d::r,k,c,t,x,h=>by
  unfold Gb at h;cases hx:d.cons[c]? with
  | some y=>
   rw[hx]at h;simp only[jh,nA]at h;obtain⟨rfl,rfl⟩:=h;exact⟨by omega,by simp,d,by simp,je hx⟩
  | none=>
   rw[hx]at h;obtain⟨h1,h2,e,h3,h4⟩:=Kn h;exact⟨by omega,by simp;omega,e,by simp[h3],h4⟩
def TI (a b:Int)(d:AM):Bool:=decide (d.cons.length=0)&&(decide (d.from_=a)&&decide (d.to=b))
def IS (a b:Int):List AM->Nat->Int
 | [],_=>-1
 | d::r,k=>if TI a b d=true then (k:Int)+1 else IS a b r (k+1)
theorem Y3 {a b:Int}:∀(l:List AM) (k:Nat),IS a b l k=-1∨((k:Int)<IS a b l k/\IS a b l k<=k+l.length)
 | [],_=>.inl rfl
 | d::r,k=>by
  unfold IS;by_cases h:TI a b d=true
  ·rw[jm h];right;simp only[kQ];omega
  ·rw[jn h];rcases Y3 r (k+1) with h1|h1
   ·exact .inl h1
   ·right;simp only[kQ];omega
theorem XB {a b:Int}{d:AM}:(if decide ((Sh.len d.cons)=0)=true then if decide (d.from_=a)=true then some (decide (d.to=b)) else some false else some false)=some (TI a b d):=by
 unfold TI;by_cases h1:d.cons.length=0<;>by_cases h2:d.from_=a<;>simp[AN,h1,h2]
theorem Nm {D:List AM}(hD:D.length<=1048576){a b:Int}{N:Nat}(hN:2000000<=N):Ig N D a b=some (IS a b D 0):=by
 unfold Ig;have key:∀{M i:Nat},i<=D.length->D.length-i<M->Sh.cont (Ew D a b M i) id (λ()=>some (-1))=some (IS a b (D.drop i) i):=by
  intro M i hi hM;refine Bo D.length (λM i=>Sh.cont (Ew D a b M i) id (λ()=>some (-1))=some (IS a b (D.drop i) i)) ?_ ?_ hi hM
  ·intro n;rw[Ew,jn (by simp[AN])];simp[IS,Sh.cont]
  ·intro n i hi ih;obtain⟨d,hd,_⟩:=CF hi;rw[Ew,jm (by simp[AN];omega),BH hd,drop_cons hd];simp only[jd];rw[XB,BK (by omega) (by omega),show ((i:Int)+1)=((i+1:Nat):Int) by omega];simp only[jd,IS];by_cases h:TI a b d=true
   ·rw[jm h,jm h];simp[Sh.cont]
   ·rw[jn h,jn h,ih]
 have:=key (kE _) (by omega:D.length-0<N);simpa using this
theorem S6 {D:List AM}(hD:D.length<=1048576){a b:Int}{N:Nat}(hN:2000000<=N):Jg N D a b=some (IS a b D 0):=by
 unfold Jg;have key:∀{M i:Nat},i<=D.length->D.length-i<M->Sh.cont (E1 D a b M i) id (λ()=>some (-1))=some (IS a b (D.drop i) i):=by
  intro M i hi hM;refine Bo D.length (λM i=>Sh.cont (E1 D a b M i) id (λ()=>some (-1))=some (IS a b (D.drop i) i)) ?_ ?_ hi hM
  ·intro n;rw[E1,jn (by simp[AN])];simp[IS,Sh.cont]
  ·intro n i hi ih;obtain⟨d,hd,_⟩:=CF hi;rw[E1,jm (by simp[AN];omega),BH hd,drop_cons hd];simp only[jd];rw[XB,BK (by omega) (by omega),show ((i:Int)+1)=((i+1:Nat):Int) by omega];simp only[jd,IS];by_cases h:TI a b d=true
   ·rw[jm h,jm h];simp[Sh.cont]
   ·rw[jn h,jn h,ih]
 have:=key (kE _) (by omega:D.length-0<N);simpa using this
def QZ (D:List AM)(t:Int):Option AM:=if 1<=t/\t<=(D.length:Int) then (D[(t-1).toNat]?).bind λd=>if d.cons.length=0 then some d else none else none
theorem TD {D:List AM}{t:Int}{d:AM}(h:QZ D t=some d):d∈D/\1<=t/\t<=(D.length:Int)/\D[(t-1).toNat]?=some d:=by
 unfold QZ at h;split at h
 ·rename_i h1;obtain⟨e,he,h2⟩:=kU.1 h;split at h2
  ·cases h2;exact⟨je he,h1.1,h1.2,he⟩
  ·cases h2
 ·cases h
theorem Sx {D:List AM}(hD:D.length<=1048576){t:Int}:Jl D t=some ((QZ D t).elim (⟨0,0,[]⟩,false) λd=>(d,true)):=by
 unfold Jl QZ;by_cases h:1<=t/\t<=(D.length:Int)
 ·obtain⟨a,ha⟩ :∃a:Nat,t=(a:Int)+1:=⟨(t-1).toNat,by omega⟩
  subst ha;obtain⟨d,hd,_⟩:=CF (l:=D) (i:=a) (by omega);have e1:¬ ((a:Int)+1<1):=by omega
  have e2:¬ ((D.length:Int)<(a:Int)+1):=by omega
  rw[jm h,BK (by omega) (by omega),show ((a:Int)+1-1)=((a:Nat):Int) by omega,BH hd,lY,hd];by_cases h2:d.cons.length=0
  ·have h2':d.cons=[]:=ka h2;simp[e1,e2,AN,h2']
  ·have h3:0<d.cons.length:=by omega
   have h2':¬ d.cons=[]:=λq=>h2 (by rw[q];rfl);simp[e1,e2,AN,h2',h3]
 ·rw[jn h];by_cases h1:t<1
  ·simp[h1]
  ·have h2:(D.length:Int)<t:=by omega
   simp[h1,AN,h2]
theorem JN {D:List AM}(hD:D.length<=1048576){t:Int}:Gm D t=some (QZ D t).isSome:=by
 unfold Gm QZ;rw[Es];by_cases h:1<=t/\t<=(D.length:Int)
 ·obtain⟨a,ha⟩ :∃a:Nat,t=(a:Int)+1:=⟨(t-1).toNat,by omega⟩
  subst ha;obtain⟨d,hd,_⟩:=CF (l:=D) (i:=a) (by omega);have e1:((1:Int)<=(a:Int)+1):=by omega
  have e2:((a:Int)+1<=(D.length:Int)):=by omega
  rw[jm h,BK (by omega) (by omega),show ((a:Int)+1-1)=((a:Nat):Int) by omega,BH hd,lY,hd];by_cases h2:d.cons=[]<;>simp[e1,e2,AN,h2]
 ·rw[jn h];have:(decide (1<=t)&&decide (t<=Sh.len D))=false:=by
   rw[AN];by_cases h1:1<=t
   ·have h2:¬ t<=(D.length:Int):=λq=>h ⟨h1,q⟩;simp[h1,h2]
   ·simp[h1]
  simp[this]
section
variable {p : AP} {sg : BO} {R1 : AP -> List Int -> AE -> Option Int} {R2 : List Int -> BO -> AE -> Option Int} {T : List Int -> AE -> Int} {e : AE} {v : List Int} {N : Nat}
theorem FN (H:KX p sg R1 R2 T (en e))(V:IB p e v)(hN:2000000<=N)(h1:¬ e.op=12)(h2:¬ e.op=13)(h3:¬ e.op=7)(h4:¬ e.op=8):
  Ao N R2 v sg e=if (e.kids.map (T v)).any (λt=>decide (t<0))=true then some (-1) else (BI N sg e.op e.num (e.kids.map (T v))).bind λq=>if q.2=true then some q.1 else some (-1):=by
 unfold Ao;have hk:=V.LB;simp only[h1,h2,h3,h4,kA,jk,kH];rw[AN,PS _ _ _ (by omega) (by omega)];simp only[jd];rw[Xx H V hN];by_cases h:(e.kids.map (T v)).any (λt=>decide (t<0))=true
 ·rw[jm h,jm h];rfl
 ·rw[jn h,jn h];simp only[Sh.Ns];cases BI N sg e.op e.num (e.kids.map (T v)) with
  | none=>rfl
  | some q=>simp only[jd];cases q.2<;>rfl
theorem Kh (H:KX p sg R1 R2 T (en e))(V:IB p e v)(hN:2000000<=N)(h1:¬ e.op=12)(h2:¬ e.op=13)(h3:¬ e.op=7)(h4:¬ e.op=8){want:List Int}{c:Bool}{t:Int}(hw :∀x∈want,0<=x)
  (hs:BI N sg e.op e.num (e.kids.map (T v))=some (t,c&&decide (e.kids.map (T v)=want))) :
  Ao N R2 v sg e=some (if c=true/\e.kids.map (T v)=want then t else -1):=by
 rw[FN H V hN h1 h2 h3 h4,hs];by_cases h:e.kids.map (T v)=want
 ·have:¬ (e.kids.map (T v)).any (λt=>decide (t<0))=true:=λq=>by
   obtain⟨x,hx,hx2⟩:=mG.1 q;have:=hw x (h▸hx);simp only[jw]at hx2;omega
  rw[jn this];cases c<;>simp[h]
 ·have hn:¬ (c=true/\e.kids.map (T v)=want):=λq=>h q.2;rw[jn hn];simp[h]
end
end RC
namespace RC
open Go
def Ev (p:AP):BO:=⟨p.decls,p.funcs.map λf=>⟨f.params,[],f.result⟩⟩
section
variable {p : AP} {R1 : AP -> List Int -> AE -> Option Int} {R2 : List Int -> BO -> AE -> Option Int} {T : List Int -> AE -> Int} {e : AE} {v : List Int} {N : Nat}
def Kb (p:AP)(R1:AP->List Int->AE->Option Int)(R2:List Int->BO->AE->Option Int)(N:Nat)(v:List Int)(e:AE):Prop:=
 ∃t,Bp N R1 p v e=some t/\Ao N R2 v (Ev p) e=some t/\(t=-1∨DJ p.decls t=true)
theorem fr {D:List AM}:DJ D 0=true:=by unfold DJ;simp
theorem len_nil {α:Type}{l:List α}:decide ((Sh.len l)=0)=decide (l=[]):=by
 cases l with
 | nil=>rfl
 | cons x r=>exact mU.2 (by rw[AN,kQ];exact⟨λh=>by omega,λh=>nomatch h⟩)
theorem bq (H:KX p (Ev p) R1 R2 T (en e))(V:IB p e v)(hN:2000000<=N)(h:e.op=0):Kb p R1 R2 N v e:=by
 have h1:=Kh H V hN (by omega) (by omega) (by omega) (by omega) (want:=[]) (c:=decide (-999<=e.num)&&decide (e.num<=999)) (t:=0) (by simp) (by
  unfold BI;simp only[h,jx,kO,len_nil];by_cases a:-999<=e.num<;>by_cases b:e.num<=999<;>simp[a,b,Sh.cont])
 refine⟨_,?_,h1,?_⟩
 ·unfold Bp;simp only[h,jx,kO,len_nil,Es];by_cases a:-999<=e.num<;>by_cases b:e.num<=999<;>by_cases c:e.kids=[]<;>simp[a,b,c,Sh.cont]
 ·split
  ·exact .inr fr
  ·exact .inl rfl
theorem Y7 (H:KX p (Ev p) R1 R2 T (en e))(V:IB p e v)(hN:2000000<=N)(h:e.op=1∨e.op=2∨e.op=3∨e.op=4):Kb p R1 R2 N v e:=by
 have hk:=V.LB;have h1:=Kh H V hN (by omega) (by omega) (by omega) (by omega) (want:=[0,0]) (c:=decide (e.num=0)) (t:=0) (by simp) (by
  unfold BI;have e3:DR N (e.kids.map (T v)) [0,0]=some (decide (e.kids.map (T v)=[0,0])):=Nv (by simp;omega) hN;rcases h with h|h|h|h<;>simp only[h,Int.reduceEq,jx,kA,jk,kO,kH,jd,Sh.Ns]<;>rw[e3]<;>by_cases a:e.num=0<;>simp[a])
 refine⟨_,?_,h1,?_⟩
 ·unfold Bp;have e2:=PV H V hN 2;rw[show ((2:Nat):Int)=2 from rfl,show List.replicate 2 (0:Int)=[0,0] from rfl]at e2;rcases h with h|h|h|h<;>simp only[h,Int.reduceEq,jx,kA,jk,kO,kH,jd]<;>rw[e2]<;>by_cases a:e.num=0<;>by_cases b:e.kids.map (T v)=[0,0]<;>simp[a,b,Sh.cont]
 ·split
  ·exact .inr fr
  ·exact .inl rfl
theorem YN (H:KX p (Ev p) R1 R2 T (en e))(V:IB p e v)(hN:2000000<=N)(h:e.op=5):Kb p R1 R2 N v e:=by
 have hk:=V.LB;have h1:=Kh H V hN (by omega) (by omega) (by omega) (by omega) (want:=[0]) (c:=decide (e.num=0)) (t:=0) (by simp) (by
  unfold BI;simp only[h,Int.reduceEq,jx,kA,jk,kO,kH,jd,Sh.Ns];rw[Nv (by simp;omega) hN];by_cases a:e.num=0<;>simp[a])
 refine⟨_,?_,h1,?_⟩
 ·unfold Bp;have e2:=PV H V hN 1;rw[show ((1:Nat):Int)=1 from rfl,show List.replicate 1 (0:Int)=[0] from rfl]at e2;simp only[h,Int.reduceEq,jx,kA,jk,kO,kH,jd];rw[e2];by_cases a:e.num=0<;>by_cases b:e.kids.map (T v)=[0]<;>simp[a,b,Sh.cont]
 ·split
  ·exact .inr fr
  ·exact .inl rfl
theorem cc (H:KX p (Ev p) R1 R2 T (en e))(V:IB p e v)(S:Ek p.decls p.funcs)(hN:2000000<=N)(h:e.op=6):Kb p R1 R2 N v e:=by
 have hk:=V.LB;have hD:=S.Ms;have hn:=S.nc;by_cases hr:0<=e.num/\e.num<(nc p.decls:Int)
 ·obtain⟨c,hc⟩:=kZ hr.1;have hc2:c<nc p.decls:=by omega
  obtain⟨t,x,e1,e2⟩:=Kk (D:=p.decls) (by omega) (by omega) hc2 hN;obtain⟨t',x',e1',e3⟩:=G3 (D:=p.decls) (by omega) (by omega) hc2 hN;obtain⟨t'',x'',e1'',e4⟩:=O8 (D:=p.decls) (by omega) (by omega) hc2 hN;rw[e1]at e1' e1'';cases e1';cases e1'';obtain⟨g1,g2,d,g3,g4⟩:=Kn e1;have hx:=S.LQ d g3 x g4;have h1:=Kh H V hN (by omega) (by omega) (by omega) (by omega) (want:=x.fields) (c:=true) (t:=(t:Int)) (λy hy=>(Ju (hx.2 y hy)).1) (by
   unfold BI;simp only[h,Int.reduceEq,jx,kA,jk,kO,kH,jd];rw[hc,show (Ev p).decls=p.decls from rfl,e4];simp only[jd];rw[Nv (by simp;omega) hN,jm (by simp)];simp[Sh.cont])
  refine⟨_,?_,h1,?_⟩
  ·unfold Bp;simp only[h,Int.reduceEq,jx,kA,jk,kO,kH,jd];rw[hc,e2,e3];simp only[jd];rw[Ps H V hN,jm (by simp;omega)];by_cases b:e.kids.map (T v)=x.fields<;>simp[b,Sh.cont]
  ·split
   ·right;unfold DJ;simp;omega
   ·exact .inl rfl
 ·refine⟨-1,?_,?_,.inl rfl⟩
  ·unfold Bp;simp only[h,Int.reduceEq,jx,kA,jk,kO,kH,jd];rw[Mu (by omega) (by omega) (by omega) hN];simp[Sh.cont]
  ·rw[FN H V hN (by omega) (by omega) (by omega) (by omega)];unfold BI;simp only[h,Int.reduceEq,jx,kA,jk,kO,kH,jd];rw[show (Ev p).decls=p.decls from rfl,Ty (by omega) (by omega) V.CZ.num (by omega) hN];simp[Sh.cont]
theorem Ym (H:KX p (Ev p) R1 R2 T (en e))(V:IB p e v)(hN:2000000<=N)(h:e.op<0∨13<e.op):Kb p R1 R2 N v e:=by
 refine⟨-1,?_,?_,.inl rfl⟩
 ·unfold Bp;simp only[show ¬ e.op=0 by omega,show ¬ e.op=12 by omega,show ¬ e.op=1 by omega,show ¬ e.op=2 by omega,show ¬ e.op=3 by omega,show ¬ e.op=4 by omega,show ¬ e.op=5 by omega,show ¬ e.op=6 by omega,show ¬ e.op=13 by omega,show ¬ e.op=7 by omega,show ¬ e.op=8 by omega,show ¬ e.op=9 by omega,show ¬ e.op=10 by omega,show ¬ e.op=11 by omega,kA,jk,kH,jd];simp[Sh.cont]
 ·rw[FN H V hN (by omega) (by omega) (by omega) (by omega)];unfold BI;simp only[show ¬ e.op=0 by omega,show ¬ e.op=12 by omega,show ¬ e.op=1 by omega,show ¬ e.op=2 by omega,show ¬ e.op=3 by omega,show ¬ e.op=4 by omega,show ¬ e.op=5 by omega,show ¬ e.op=6 by omega,show ¬ e.op=13 by omega,show ¬ e.op=7 by omega,show ¬ e.op=8 by omega,show ¬ e.op=9 by omega,show ¬ e.op=10 by omega,show ¬ e.op=11 by omega,kA,jk,kH,jd];simp[Sh.cont]
theorem bu (V:IB p e v)(h:e.op=12):Kb p R1 R2 N v e:=by
 have hv:v.length<=1000:=by have:=V.len;omega
 unfold Kb Bp Ao;simp only[h,Int.reduceEq,jx,kA,jk,kO,kH,jd,len_nil,Es];rw[AN,BK (by omega) (by omega)];cases hks:e.kids with
 | cons a r=>exact⟨-1,by simp[Sh.cont],by simp[AN],.inl rfl⟩
 | nil=>
  by_cases h1:0<=e.num
  ·by_cases h2:e.num<(v.length:Int)
   ·obtain⟨x,g1,g2⟩:=PK h1 h2;have h3:e.num<=(v.length:Int)-1:=by omega
    have h4:¬ e.num<0:=by omega
    have h5:¬ (v.length:Int)<=e.num:=by omega
    refine⟨x,?_,?_,.inr (V.H7 x (je g2))⟩
    ·simp[h1,h3,g1,Sh.cont]
    ·simp[h4,h5,g1,AN]
   ·have h3:¬ e.num<=(v.length:Int)-1:=by omega
    have h4:¬ e.num<0:=by omega
    have h5:(v.length:Int)<=e.num:=by omega
    exact⟨-1,by simp[h1,h3,Sh.cont],by simp[h4,h5,AN],.inl rfl⟩
  ·have h4:e.num<0:=by omega
   exact⟨-1,by simp[h1,Sh.cont],by simp[h4,AN],.inl rfl⟩
end
end RC
namespace RC
open Go
section
variable {p : AP} {R1 : AP -> List Int -> AE -> Option Int} {R2 : List Int -> BO -> AE -> Option Int} {T : List Int -> AE -> Int} {e : AE} {v : List Int} {N : Nat}
theorem cF (H:KX p (Ev p) R1 R2 T (en e))(V:IB p e v)(h:e.op=13):Kb p R1 R2 N v e:=by
 have hv:v.length<=1000:=by have:=V.len;omega
 unfold Kb Bp Ao;simp only[h,Int.reduceEq,jx,kA,jk,kO,kH,jd];by_cases hl:e.kids.length=2
 ·obtain⟨a,b,hk⟩ :∃a b,e.kids=[a,b]:=by
   match hk:e.kids,hl with
   | [a,b],_=>exact⟨a,b,rfl⟩
  have hma:a∈e.kids:=by rw[hk];simp
  have hmb:b∈e.kids:=by rw[hk];simp
  obtain⟨a1,a2,a3⟩:=H v a (V.CZ.kids a hma) (DG hma) (V.I1 hma) V.H7;have g0:Sh.get e.kids 0=some a:=by rw[hk];rfl
  have g1:Sh.get e.kids 1=some b:=by rw[hk];rfl
  rw[g0,g1];simp only[jd,AN,hl];rw[a1,a2];simp only[jd];by_cases hn:e.num=0
  ·by_cases ht:0<=T v a
   ·have ht':¬ T v a<0:=by omega
    have hty:DJ p.decls (T v a)=true:=by
     rcases a3 with q|q
     ·omega
     ·exact q
    obtain⟨b1,b2,b3⟩:=H (v++[T v a]) b (V.CZ.kids b hmb) (DG hmb) (V.more hmb (by simp)) (V.Ws (by simp[hty]));refine⟨T (v++[T v a]) b,?_,?_,b3⟩
    ·rw[JB hv (by simp)];simp[hn,ht,b1,Sh.cont]
    ·rw[EM v [T v a] 8 (by simp;omega) (by simp;omega)];simp[hn,ht',b2]
   ·have ht':T v a<0:=by omega
    exact⟨-1,by simp[hn,ht,Sh.cont],by simp[hn,ht'],.inl rfl⟩
  ·exact⟨-1,by simp[hn,Sh.cont],by simp[hn],.inl rfl⟩
 ·have hl':¬ ((e.kids.length:Int)=2):=by omega
  refine⟨-1,?_,?_,.inl rfl⟩
  ·by_cases hn:e.num=0<;>simp[hn,AN,hl',Sh.cont]
  ·simp[AN,hl']
theorem S4 (x y:Int):LJ [x,y]=if y=x then x else -1:=by
 unfold LJ;by_cases h:y=x<;>simp[h]
theorem dS (H:KX p (Ev p) R1 R2 T (en e))(V:IB p e v)(hN:2000000<=N)(h:e.op=7):Kb p R1 R2 N v e:=by
 have hv:v.length<=1000:=by have:=V.len;omega
 unfold Kb Bp Ao;simp only[h,Int.reduceEq,jx,kA,jk,kO,kH,jd];by_cases hl:e.kids.length=3
 ·obtain⟨a,b,c,hk⟩ :∃a b c,e.kids=[a,b,c]:=by
   match hk:e.kids,hl with
   | [a,b,c],_=>exact⟨a,b,c,rfl⟩
  have hma:a∈e.kids:=by rw[hk];simp
  have hmb:b∈e.kids:=by rw[hk];simp
  have hmc:c∈e.kids:=by rw[hk];simp
  obtain⟨a1,a2,a3⟩:=H v a (V.CZ.kids a hma) (DG hma) (V.I1 hma) V.H7;obtain⟨b1,b2,b3⟩:=H v b (V.CZ.kids b hmb) (DG hmb) (V.I1 hmb) V.H7;obtain⟨c1,c2,c3⟩:=H v c (V.CZ.kids c hmc) (DG hmc) (V.I1 hmc) V.H7;have g0:Sh.get e.kids 0=some a:=by rw[hk];rfl
  have g1:Sh.get e.kids 1=some b:=by rw[hk];rfl
  have g2:Sh.get e.kids 2=some c:=by rw[hk];rfl
  have g3:Sh.sl e.kids 1 3=some [b,c]:=by rw[hk];rfl
  have o:=J8 (ks:=[b,c]) (ms:=[[],[]]) H V hN (by intro k hk;simp only[js,kN,kx]at hk;rcases hk with rfl|rfl<;>assumption) (by simp) rfl (by simp);have mk2:Sh.mk ([]:List Int) 2 24=some [[],[]]:=PS [] 2 24 (by omega) (by omega);rw[g0,g1,g2];simp only[jd,AN,hl];rw[a1,a2,b1,c1,show ((3:Nat):Int)=3 from rfl,g3,mk2];simp only[jd];rw[o];simp only[jd,List.zipWith,ky,S4];by_cases hn:e.num=0
  ·by_cases ht:T v a=0
   ·by_cases hq:T v c=T v b
    ·exact⟨T v b,by simp[hn,ht,hq,Sh.cont],by simp[hn,ht,hq],b3⟩
    ·exact⟨-1,by simp[hn,ht,hq,Sh.cont],by simp[hn,ht,hq],.inl rfl⟩
   ·exact⟨-1,by simp[hn,ht,Sh.cont],by simp[hn,ht],.inl rfl⟩
  ·exact⟨-1,by simp[hn,Sh.cont],by simp[hn],.inl rfl⟩
 ·have hl':¬ ((e.kids.length:Int)=3):=by omega
  refine⟨-1,?_,?_,.inl rfl⟩
  ·by_cases hn:e.num=0<;>simp[hn,AN,hl',Sh.cont]
  ·simp[AN,hl']
theorem bN {n:Int}:(∃f,0<=n/\n<(p.funcs.length:Int)/\p.funcs[n.toNat]?=some f/\f∈p.funcs/\Sh.get p.funcs n=some f/\Sh.get (Ev p).funcs n=some ⟨f.params,[],f.result⟩)∨(n<0∨(p.funcs.length:Int)<=n):=by
 by_cases h:0<=n/\n<(p.funcs.length:Int)
 ·obtain⟨f,h1,h2⟩:=PK h.1 h.2;refine .inl ⟨f,h.1,h.2,h2,je h2,h1,?_⟩;rw[Wv h.1];show ((p.funcs.map λf=>(⟨f.params,[],f.result⟩:Bt)))[n.toNat]?=_;rw[ji,h2];rfl
 ·exact .inr (by omega)
theorem Mm:(Ev p).funcs.length=p.funcs.length:=by show (p.funcs.map _).length=_;simp
theorem Zz (H:KX p (Ev p) R1 R2 T (en e))(V:IB p e v)(S:Ek p.decls p.funcs)(hN:2000000<=N)(h:e.op=9):Kb p R1 R2 N v e:=by
 have hk:=V.LB;have hF:=S.Kz;rcases bN (p:=p) (n:=e.num) with ⟨f,f0,f1,f2,f3,f4,f5⟩|hr
 ·obtain⟨q1,q2,q3⟩:=S.Ov f f3;have f0':¬ e.num<0:=by omega
  have f1':¬ (p.funcs.length:Int)<=e.num:=by omega
  have f1'':e.num<=(p.funcs.length:Int)-1:=by omega
  have h1:=Kh H V hN (by omega) (by omega) (by omega) (by omega) (want:=f.params) (c:=true) (t:=f.result) (λy hy=>(Ju (q2 y hy)).1) (by
   unfold BI;simp only[h,Int.reduceEq,jx,kA,jk,kO,kH,jd,AN,Mm,f0',f1'];rw[f5];simp only[jd];rw[Nv (by simp;omega) hN];simp[Sh.cont])
  refine⟨_,?_,h1,?_⟩
  ·unfold Bp GP;simp only[h,Int.reduceEq,jx,kA,jk,kO,kH,jd];rw[Es,AN p.funcs,BK (n:=(p.funcs.length:Int)-1) (by omega) (by omega),f4];simp only[h,Int.reduceEq,jx,kA,jk,kO,kH,jd,f0,f1'',nT,lL];rw[Ps H V hN];by_cases b:e.kids.map (T v)=f.params<;>simp[b,Sh.cont]
  ·split
   ·exact .inr q3
   ·exact .inl rfl
 ·refine⟨-1,?_,?_,.inl rfl⟩
  ·unfold Bp GP;simp only[h,Int.reduceEq,jx,kA,jk,kO,kH,jd];rw[Es,AN p.funcs,BK (n:=(p.funcs.length:Int)-1) (by omega) (by omega)];have:(decide (0<=e.num)&&decide (e.num<=(p.funcs.length:Int)-1))=false:=by
    rw[Bool.and_eq_false_iff,mJ,mJ];omega
   rw[this];simp only[h,Int.reduceEq,jx,kA,jk,kO,kH,jd];simp[Sh.cont]
  ·rw[FN H V hN (by omega) (by omega) (by omega) (by omega)];unfold BI;simp only[h,Int.reduceEq,jx,kA,jk,kO,kH,jd,AN,Mm];rcases hr with hr|hr
   ·simp[hr,Sh.cont]
   ·have:¬ e.num<0:=by omega
    simp[hr,this,Sh.cont]
theorem Y4 {α:Type}{l:List α}{m:Nat}(h:m<=l.length):Sh.sl l 0 (m:Int)=some (l.take m):=by
 unfold Sh.sl;rw[jm ⟨by omega,by omega,by omega⟩];simp
theorem YP (H:KX p (Ev p) R1 R2 T (en e))(V:IB p e v)(S:Ek p.decls p.funcs)(hN:2000000<=N)(h:e.op=10):Kb p R1 R2 N v e:=by
 have hk:=V.LB;have hF:=S.Kz;have hD:=S.Ms;rcases bN (p:=p) (n:=e.num) with ⟨f,f0,f1,f2,f3,f4,f5⟩|hr
 ·obtain⟨q1,q2,q3⟩:=S.Ov f f3;have f0':¬ e.num<0:=by omega
  have f1':¬ (p.funcs.length:Int)<=e.num:=by omega
  have f1'':e.num<=(p.funcs.length:Int)-1:=by omega
  by_cases hp:f.params.length=0
  ·have hp':f.params=[]:=ka hp;refine⟨-1,?_,?_,.inl rfl⟩
   ·unfold Bp GP;simp only[h,Int.reduceEq,jx,kA,jk,kO,kH,jd];rw[Es,AN p.funcs,BK (n:=(p.funcs.length:Int)-1) (by omega) (by omega),f4];simp only[h,Int.reduceEq,jx,kA,jk,kO,kH,jd,f0,f1'',nT,lL,len_nil,hp'];simp[Sh.cont]
   ·rw[FN H V hN (by omega) (by omega) (by omega) (by omega)];unfold BI;simp only[h,Int.reduceEq,jx,kA,jk,kO,kH,jd,AN,Mm,f0',f1'];rw[f5];simp only[jd,hp];rw[BK (by omega) (by omega)];simp[Sh.cont]
  ·obtain⟨m,hm⟩ :∃m,f.params.length=m+1:=⟨f.params.length-1,by omega⟩
   obtain⟨x,hx,hxm⟩:=CF (l:=f.params) (i:=m) (by omega);have hp':¬ f.params=[]:=λq=>hp (by rw[q];rfl);have hw:Sh.w ((f.params.length:Int)-1)=(m:Int):=by rw[BK (by omega) (by omega)];omega
   have hm0:¬ ((m:Int)<0):=by omega
   have hty:IS x f.result p.decls 0=-1∨DJ p.decls (IS x f.result p.decls 0)=true:=by
    rcases Y3 (a:=x) (b:=f.result) p.decls 0 with q|q
    ·exact .inl q
    ·right;unfold DJ;simp;omega
   have h1:=Kh H V hN (by omega) (by omega) (by omega) (by omega) (want:=f.params.take m) (c:=decide (0<=IS x f.result p.decls 0)) (t:=IS x f.result p.decls 0) (λy hy=>(Ju (q2 y (kv hy))).1) (by
    unfold BI;simp only[h,Int.reduceEq,jx,kA,jk,kO,kH,jd,AN,Mm,f0',f1'];rw[f5];simp only[jd,hw,hm0,kA,jk,kH];rw[BH hx];simp only[jd];rw[show (Ev p).decls=p.decls from rfl,S6 (by omega) hN,Y4 (by omega)];simp only[jd];rw[Nv (by simp;omega) hN];by_cases z:0<=IS x f.result p.decls 0<;>simp[z,Sh.cont])
   refine⟨_,?_,h1,?_⟩
   ·unfold Bp GP;simp only[h,Int.reduceEq,jx,kA,jk,kO,kH,jd];rw[Es,AN p.funcs,BK (n:=(p.funcs.length:Int)-1) (by omega) (by omega),f4];simp only[h,Int.reduceEq,jx,kA,jk,kO,kH,jd,f0,f1'',nT,lL,len_nil,hp'];rw[AN,hw,Y4 (by omega),BH hx];simp only[jd];rw[Ps H V hN,Nm (by omega) hN];by_cases b:e.kids.map (T v)=f.params.take m
    ·by_cases z:0<=IS x f.result p.decls 0
     ·simp[b,z,Sh.cont]
     ·have:IS x f.result p.decls 0=-1:=by
       rcases hty with q|q
       ·exact q
       ·exact absurd (Ju q).1 z
      simp[b,this,Sh.cont]
    ·simp[b,Sh.cont]
   ·split
    ·exact hty
    ·exact .inl rfl
 ·refine⟨-1,?_,?_,.inl rfl⟩
  ·unfold Bp GP;simp only[h,Int.reduceEq,jx,kA,jk,kO,kH,jd];rw[Es,AN p.funcs,BK (n:=(p.funcs.length:Int)-1) (by omega) (by omega)];have:(decide (0<=e.num)&&decide (e.num<=(p.funcs.length:Int)-1))=false:=by
    rw[Bool.and_eq_false_iff,mJ,mJ];omega
   rw[this];simp only[h,Int.reduceEq,jx,kA,jk,kO,kH,jd];simp[Sh.cont]
  ·rw[FN H V hN (by omega) (by omega) (by omega) (by omega)];unfold BI;simp only[h,Int.reduceEq,jx,kA,jk,kO,kH,jd,AN,Mm];rcases hr with hr|hr
   ·simp[hr,Sh.cont]
   ·have:¬ e.num<0:=by omega
    simp[hr,this,Sh.cont]
theorem ZS (H:KX p (Ev p) R1 R2 T (en e))(V:IB p e v)(S:Ek p.decls p.funcs)(hN:2000000<=N)(h:e.op=11):Kb p R1 R2 N v e:=by
 have hk:=V.LB;have hD:=S.Ms;by_cases hl:e.kids.length=2
 ·obtain⟨a,b,hk⟩ :∃a b,e.kids=[a,b]:=by
   match hk:e.kids,hl with
   | [a,b],_=>exact⟨a,b,rfl⟩
  have hma:a∈e.kids:=by rw[hk];simp
  have hmb:b∈e.kids:=by rw[hk];simp
  obtain⟨a1,a2,a3⟩:=H v a (V.CZ.kids a hma) (DG hma) (V.I1 hma) V.H7;obtain⟨b1,b2,b3⟩:=H v b (V.CZ.kids b hmb) (DG hmb) (V.I1 hmb) V.H7;have g0:Sh.get e.kids 0=some a:=by rw[hk];rfl
  have g1:Sh.get e.kids 1=some b:=by rw[hk];rfl
  have i1:Sh.get (e.kids.map (T v)) 0=some (T v a):=by rw[hk];rfl
  have i2:Sh.get (e.kids.map (T v)) 1=some (T v b):=by rw[hk];rfl
  have imp:Ao N R2 v (Ev p) e=some ((QZ p.decls (T v a)).elim (-1) λd=>if T v b=d.from_/\e.num=0 then d.to else -1):=by
   rw[FN H V hN (by omega) (by omega) (by omega) (by omega)];unfold BI;simp only[h,Int.reduceEq,jx,kA,jk,kO,kH,jd,AN,kB,hl];rw[i1,i2];simp only[jd];rw[show (Ev p).decls=p.decls from rfl,Sx (by omega)];simp only[jd];cases hA:QZ p.decls (T v a) with
   | none=>simp[Sh.cont]
   | some d=>
    obtain⟨m1,m2,m3,m4⟩:=TD hA;have m5:=S.cw d m1;have n1:¬ T v a<0:=by omega
    by_cases c1:T v b=d.from_
    ·have n2:¬ T v b<0:=by rw[c1];have:=(Ju m5.1).1;omega
     have n3:¬ d.from_<0:=c1▸n2;by_cases c2:e.num=0<;>simp[hk,n1,c1,n3,c2,Sh.cont]
    ·simp[c1,Sh.cont]
  refine⟨_,?_,imp,?_⟩
  ·unfold Bp;simp only[h,Int.reduceEq,jx,kA,jk,kO,kH,jd,AN,hl];rw[g0,g1];simp only[jd];rw[a1];simp only[jd];rw[JN (by omega),b1];simp only[jd];cases hA:QZ p.decls (T v a) with
   | none=>by_cases c2:e.num=0<;>simp[c2,Sh.cont]
   | some d=>
    obtain⟨m1,m2,m3,m4⟩:=TD hA;have g5:Sh.get p.decls (Sh.w (T v a-1))=some d:=by rw[BK (by omega) (by omega),Wv (by omega),m4]
    rw[g5];by_cases c2:e.num=0<;>by_cases c1:T v b=d.from_<;>simp[c1,c2,Sh.cont]
  ·cases hA:QZ p.decls (T v a) with
   | none=>exact .inl rfl
   | some d=>
    obtain⟨m1,_⟩:=TD hA;simp only[mC];split
    ·exact .inr (S.cw d m1).2
    ·exact .inl rfl
 ·have hl':¬ ((e.kids.length:Int)=2):=by omega
  refine⟨-1,?_,?_,.inl rfl⟩
  ·unfold Bp;simp only[h,Int.reduceEq,jx,kA,jk,kO,kH,jd,AN,hl'];by_cases c2:e.num=0<;>simp[c2,Sh.cont]
  ·rw[FN H V hN (by omega) (by omega) (by omega) (by omega)];unfold BI;simp only[h,Int.reduceEq,jx,kA,jk,kO,kH,jd,AN,kB,hl'];simp[Sh.cont]
end
end RC
namespace RC
open Go
def FZ (D:List AM)(c:Int):List Int:=(Gb D 0 c.toNat).elim [] λx=>x.2.fields
theorem Zv {D:List AM}{t c:Int}(h:c∈Bs D t):∃k:Nat,c=(k:Int)/\k<nc D:=by
 unfold Bs at h;split at h
 ·rename_i h1;obtain⟨a,ha⟩ :∃a:Nat,t=(a:Int)+1:=⟨(t-1).toNat,by omega⟩
  subst ha;obtain⟨d,hd,_⟩:=CF (l:=D) (i:=a) (by omega);rw[show (((a:Int)+1)-1).toNat=a by omega,hd]at h;simp only[mC,kC,lp]at h;obtain⟨i,hi,rfl⟩:=h;have hs:=Gw D a;rw[R8 hd]at hs;exact⟨nc (D.take a)+i,by omega,by omega⟩
 ·cases h
theorem J0 {D:List AM}(h :∀d∈D,d.cons.length<=3)(t:Int):(Bs D t).length<=3:=by
 unfold Bs;split
 ·rename_i h1;obtain⟨a,ha⟩ :∃a:Nat,t=(a:Int)+1:=⟨(t-1).toNat,by omega⟩
  subst ha;obtain⟨d,hd,hm⟩:=CF (l:=D) (i:=a) (by omega);rw[show (((a:Int)+1)-1).toNat=a by omega,hd];simp only[mC,kB,nQ];exact h d hm
 ·simp
theorem Mz {D:List AM}{F:List Ac}(S:Ek D F){t c:Int}(h:c∈Bs D t){N:Nat}(hN:2000000<=N):Bv N D c=some (FZ D c)/\EJ N D c=some (FZ D c)/\(FZ D c).length<=3/\∀x∈FZ D c,DJ D x=true:=by
 obtain⟨k,rfl,hk⟩:=Zv h;have hD:=S.Ms;have hn:=S.nc;obtain⟨t,x,e1,e2⟩:=G3 (D:=D) (by omega) (by omega) hk hN;obtain⟨t',x',e1',e3⟩:=SJ (D:=D) (by omega) (by omega) hk hN;rw[e1]at e1';cases e1';obtain⟨_,_,d,g3,g4⟩:=Kn e1;have hf:FZ D (k:Int)=x.fields:=by unfold FZ;rw[lY,e1];rfl
 rw[hf];exact⟨e2,e3,S.LQ d g3 x g4⟩
section
variable {p : AP} {R1 : AP -> List Int -> AE -> Option Int} {R2 : List Int -> BO -> AE -> Option Int} {T : List Int -> AE -> Int} {e : AE} {v : List Int} {N : Nat}
theorem N7 (S:Ek p.decls p.funcs)(hN:2000000<=N){C:List Int}(hC:C.length<=3)(hc :∀c∈C,EJ N p.decls c=some (FZ p.decls c)):CH N (Ev p) C N 0 (List.replicate C.length [])=some (C.map (FZ p.decls)):=by
 have key:∀{M i:Nat},i<=C.length->C.length-i<M->∀m:List (List Int),m.length=C.length->m.take i=(C.map (FZ p.decls)).take i->CH N (Ev p) C M i m=some (C.map (FZ p.decls)):=by
  intro M i hi hM;refine Bo C.length (λM i=>∀m:List (List Int),m.length=C.length->m.take i=(C.map (FZ p.decls)).take i->CH N (Ev p) C M i m=some (C.map (FZ p.decls))) ?_ ?_ hi hM
  ·intro n m a b;rw[CH,jn (by simp[AN])];rw[kY (by omega),kY (by simp)]at b;rw[b]
  ·intro n i hi ih m a b;obtain⟨x,hx,hxm⟩:=CF hi;obtain⟨y,hy,_⟩:=CF (l:=m) (i:=i) (by omega);have hx2:(C.map (FZ p.decls))[i]?=some (FZ p.decls x):=by rw[ji,hx];rfl
   have hi':(m.set i (FZ p.decls x))[i]?=some (FZ p.decls x):=by rw[ju (by omega)]
   rw[CH,jm (by simp[AN];omega),BH hx];simp only[jd];rw[show (Ev p).decls=p.decls from rfl,hc x hxm,BH hy];simp only[jd];rw[Pb,BK (by omega) (by omega),show ((i:Int)+1)=((i+1:Nat):Int) by omega];exact ih _ (by simp[a]) (by rw[D3 hi',D3 hx2,<- b,nG (jv _)])
 have:=key (kE _) (by omega:C.length-0<N) (List.replicate C.length []) (by simp) rfl;simpa using this
theorem Yw (H:KX p (Ev p) R1 R2 T (en e))(V:IB p e v)(S:Ek p.decls p.funcs)(hN:2000000<=N)(h:e.op=8):Kb p R1 R2 N v e:=by
 have hk:=V.LB;have hD:=S.Ms;have hn:=S.nc;have hv:v.length<=1000:=by have:=V.len;omega
 have hCl:=J0 S.Qa e.num;unfold Kb Bp Ao Jp;simp only[h,Int.reduceEq,jx,kA,jk,kO,kH,jd];rw[show (Ev p).decls=p.decls from rfl,Ld (by omega) (by omega) hN,HD (by omega) (by omega) hN];simp only[jd];generalize hCe:Bs p.decls e.num=C at hCl;have hCm:∀c∈C,Bv N p.decls c=some (FZ p.decls c)/\EJ N p.decls c=some (FZ p.decls c)/\(FZ p.decls c).length<=3/\∀x∈FZ p.decls c,DJ p.decls x=true:=λc hc=>Mz S (hCe▸hc) hN;rw[AN C,AN e.kids,BK (n:=1+(C.length:Int)) (by omega) (by omega)];by_cases h0:C.length=0
 ·exact⟨-1,by simp[h0,Sh.cont],by simp[h0],.inl rfl⟩
 ·have h0':¬ ((C.length:Int)=0):=by omega
  have hne:¬ C=[]:=λq=>h0 (by rw[q];rfl);by_cases h1:e.kids.length=1+C.length
  ·have h1':((e.kids.length:Int)=1+(C.length:Int)):=by omega
   obtain⟨a,r,hks⟩ :∃a r,e.kids=a::r:=by
    cases hq:e.kids with
    | nil=>rw[hq]at h1;simp at h1;omega
    | cons a r=>exact⟨a,r,rfl⟩
   have hrl:r.length=C.length:=by rw[hks]at h1;simp at h1;omega
   have hma:a∈e.kids:=by rw[hks];simp
   have hmr:∀k∈r,k∈e.kids:=λk hk=>by rw[hks];simp[hk]
   obtain⟨a1,a2,a3⟩:=H v a (V.CZ.kids a hma) (DG hma) (V.I1 hma) V.H7;have g0:Sh.get e.kids 0=some a:=by rw[hks];rfl
   have gi:∀(i:Nat) k,r[i]?=some k->Sh.get e.kids ((1+i:Nat):Int)=some k:=λi k hk=>by
    rw[Nz,hks,Nat.add_comm];simpa using hk
   have g3:Sh.sl e.kids 1 (e.kids.length:Int)=some r:=by
    unfold Sh.sl;rw[jm ⟨by omega,by omega,by omega⟩,hks];simp
   have mkC:Sh.mk ([]:List Int) (C.length:Int) 24=some (List.replicate C.length []):=PS [] C.length 24 (by omega) (by omega);have o:=J8 (ks:=r) (ms:=C.map (FZ p.decls)) H V hN hmr (by omega) (by simp[hrl]) (by
    intro m hm;obtain⟨c,hc,rfl⟩:=kC.1 hm;exact (hCm c hc).2.2)
   have F:=N7 (p:=p) S hN hCl λc hc=>(hCm c hc).2.1;generalize hts:List.zipWith (λm k=>T (v++m) k) (C.map (FZ p.decls)) r=ts at o;have tsl:ts.length=C.length:=by rw[<- hts];simp[hrl]
   have tsi:∀(i:Nat),i<C.length->∃c k,C[i]?=some c/\r[i]?=some k/\ts[i]?=some (T (v++FZ p.decls c) k)/\Bv N p.decls c=some (FZ p.decls c)/\Ec v (FZ p.decls c)=some (v++FZ p.decls c)/\R1 p (v++FZ p.decls c) k=some (T (v++FZ p.decls c) k)/\(T (v++FZ p.decls c) k=-1∨DJ p.decls (T (v++FZ p.decls c) k)=true):=λi hi=>by
    obtain⟨c,hc,hcm⟩:=CF (l:=C) (i:=i) hi;obtain⟨k,hk2,hkm⟩:=CF (l:=r) (i:=i) (by omega);obtain⟨q1,q2,q3,q4⟩:=hCm c hcm;obtain⟨z1,z2,z3⟩:=H (v++FZ p.decls c) k (V.CZ.kids k (hmr k hkm)) (DG (hmr k hkm)) (V.more (hmr k hkm) q3) (V.Ws q4);refine⟨c,k,hc,hk2,?_,q1,JB hv (by omega),z1,z3⟩;rw[<- hts,lO,ji,hc,hk2];rfl
   have L:∀(t:Int) {M i:Nat},i<=C.length->C.length-i<M->EC N p v e t C R1 M i=some (if (ts.drop i).all (λx=>decide (x=t))=true then .inr () else .inl (-1)):=by
    intro t M i hi hM;refine Bo C.length (λM i=>EC N p v e t C R1 M i=some (if (ts.drop i).all (λx=>decide (x=t))=true then .inr () else .inl (-1))) ?_ ?_ hi hM
    ·intro n;rw[EC,jn (by simp[AN]),mn (by omega)];rfl
    ·intro n i hi ih;obtain⟨c,k,q1,q2,q3,q4,q5,q6,q7⟩:=tsi i hi;rw[EC,jm (by simp[AN];omega),BH q1];simp only[jd];rw[q4];simp only[jd];rw[q5,BK (n:=(1:Int)+(i:Int)) (by omega) (by omega),show ((1:Int)+(i:Int))=((1+i:Nat):Int) by omega,gi i k q2];simp only[jd];rw[q6,BK (by omega) (by omega),show ((i:Int)+1)=((i+1:Nat):Int) by omega,drop_cons q3,lx];simp only[jd];by_cases z:T (v++FZ p.decls c) k=t
     ·simp only[z,jx,lL,jk,kH,mz];exact ih
     ·simp[z]
   rw[g0,g3,mkC];simp only[jd];rw[a1,a2];simp only[jd];rw[F];simp only[jd];rw[o];obtain⟨c,k,q1,q2,q3,q4,q5,q6,q7⟩:=tsi 0 (by omega);have g1:=gi 0 k q2;have c0:Sh.get C 0=some c:=by rw[show (0:Int)=((0:Nat):Int) from rfl,BH q1]
   rw[show ((1+0:Nat):Int)=1 from rfl]at g1;rw[c0];simp only[jd];rw[q4];simp only[jd];rw[q5,g1];simp only[jd];rw[q6];simp only[jd];have L1:=L (T (v++FZ p.decls c) k) (M:=N) (i:=1) (by omega) (by omega);rw[show ((1:Nat):Int)=1 from rfl]at L1;rw[L1];have hts2:ts=T (v++FZ p.decls c) k::ts.drop 1:=by
    have:=drop_cons q3;simpa using this
   by_cases z:T v a=e.num
   ·by_cases y:(ts.drop 1).all (λx=>decide (x=T (v++FZ p.decls c) k))=true
    ·have ho:LJ ts=T (v++FZ p.decls c) k:=by rw[hts2];unfold LJ;dsimp only;rw[if_pos y]
     refine⟨T (v++FZ p.decls c) k,?_,?_,q7⟩
     ·rw[jm y];simp[h0',hne,h1',z,Sh.cont]
     ·rw[ho];simp[h0',hne,h1',z]
    ·have ho:LJ ts=-1:=by rw[hts2];unfold LJ;dsimp only;rw[if_neg y]
     refine⟨-1,?_,?_,.inl rfl⟩
     ·rw[jn y];simp[h0',hne,h1',z,Sh.cont]
     ·rw[ho];simp[h0',hne,h1',z]
   ·exact⟨-1,by simp[h0',hne,h1',z,Sh.cont],by simp[h0',hne,h1',z],.inl rfl⟩
  ·have h1':¬ ((e.kids.length:Int)=1+(C.length:Int)):=by omega
   exact⟨-1,by simp[h0',hne,h1',Sh.cont],by simp[h0',hne,h1'],.inl rfl⟩
theorem Zh (H:KX p (Ev p) R1 R2 T (en e))(V:IB p e v)(S:Ek p.decls p.funcs)(hN:2000000<=N):Kb p R1 R2 N v e:=by
 by_cases h0:e.op=0
 ·exact bq H V hN h0
 by_cases h1:e.op=1∨e.op=2∨e.op=3∨e.op=4
 ·exact Y7 H V hN h1
 by_cases h5:e.op=5
 ·exact YN H V hN h5
 by_cases h6:e.op=6
 ·exact cc H V S hN h6
 by_cases h7:e.op=7
 ·exact dS H V hN h7
 by_cases h8:e.op=8
 ·exact Yw H V S hN h8
 by_cases h9:e.op=9
 ·exact Zz H V S hN h9
 by_cases h10:e.op=10
 ·exact YP H V S hN h10
 by_cases h11:e.op=11
 ·exact ZS H V S hN h11
 by_cases h12:e.op=12
 ·exact bu V h12
 by_cases h13:e.op=13
 ·exact cF H V h13
 exact Ym H V hN (by omega)
end
theorem Pv {p:AP}(S:Ek p.decls p.funcs){N:Nat}(hN:2000000<=N):∀(n:Nat),∃T:List Int->AE->Int,∀(v:List Int) (e:AE),An e->en e<n->v.length+3*en e<=1000->(∀x∈v,DJ p.decls x=true)->
  ∀n1 n2,n<=n1->n<=n2->Cx N n1 p v e=some (T v e)/\Bq N n2 v (Ev p) e=some (T v e)/\(T v e=-1∨DJ p.decls (T v e)=true):=by
 intro n
 induction n with
 | zero=>exact⟨λ_ _=>0,λv e _ h=>by omega⟩
 | succ n ih=>
  obtain⟨T,hT⟩:=ih;refine⟨λv e=>(Cx N (n+1) p v e).getD 0,λv e hi hn hl ht n1 n2 h1 h2=>?_⟩;have step:∀n1 n2,n<=n1->n<=n2->Kb p (Cx N n1) (Bq N n2) N v e:=λn1 n2 h1 h2=>
   Zh (T:=T) (λv e a b c d=>hT v e a (by omega) c d n1 n2 h1 h2) ⟨hl,ht,by have:=hl;omega,hi⟩ S hN
  obtain⟨m1,rfl⟩ :∃m,n1=m+1:=⟨n1-1,by omega⟩
  obtain⟨m2,rfl⟩ :∃m,n2=m+1:=⟨n2-1,by omega⟩
  obtain⟨t,q1,q2,q3⟩:=step n n (jv _) (jv _);obtain⟨t',r1,r2,_⟩:=step n m2 (jv _) (by omega);obtain⟨t'',s1,s2,_⟩:=step m1 n (by omega) (jv _);have e1:t'=t:=by rw[q1]at r1;cases r1;rfl
  have e2:t''=t:=by rw[q2]at s2;cases s2;rfl
  subst e1;subst e2;have e3:(Cx N (n+1) p v e).getD 0=t'':=by rw[Cx,q1];rfl
  dsimp only;rw[e3];exact⟨by rw[Cx];exact s1,by rw[Bq];exact r2,q3⟩
end RC
namespace RC
open Go
structure EE (p:AP):Prop where
 CZ:Ye p
 size:Sz p<=1048576
theorem EE.decls {p:AP}(S:EE p):P3 p.decls:=by
 have h:=S.size;unfold Sz at h;have hd:∀d∈p.decls,dz d<=1048576:=λd hd=>by have:=LR dz hd;omega
 refine⟨by omega,λd hm=>?_,λd hm c hc=>?_⟩
 ·have:=hd d hm;unfold dz at this;omega
 ·have:=hd d hm;unfold dz at this;have:=LR cz hc;show cz c<=_;omega
theorem EE.Kz {p:AP}(S:EE p):p.funcs.length<=1048576:=by have h:=S.size;unfold Sz at h;omega
theorem EE.fz {p:AP}(S:EE p){f:Ac}(hf:f∈p.funcs):f.params.length<=1048576/\CK f.body.kids<=1048576:=by
 have h:=S.size;unfold Sz at h;have h2:=LR YB hf;have h3:YB f=f.params.length+CK f.body.kids:=rfl;omega
theorem EE.fin {p:AP}(S:EE p){f:Ac}(hf:f∈p.funcs):Vu f:=S.CZ.funcs.1 f hf
def MP (p:AP):Bool:=OJ p.decls (p.funcs.map λf=>(f.params,f.result))
theorem OX {p:AP}(S:EE p){N:Nat}(hN:2000000<=N):HC N p=some (MP p):=Q4 S.decls S.Kz (λf hf=>(S.fz hf).1) hN
theorem Zl {p:AP}(hl:p.funcs.length<=1048576){N:Nat}(hN:2000000<=N):Dk p N 0 []=some (Ev p).funcs:=by
 have key:∀{N i:Nat},i<=p.funcs.length->p.funcs.length-i<N->Dk p N i ((Ev p).funcs.take i)=some (Ev p).funcs:=by
  intro N i hi hN;refine Bo p.funcs.length (λN i=>Dk p N i ((Ev p).funcs.take i)=some (Ev p).funcs) ?_ ?_ hi hN
  ·intro n;rw[Dk,jn (by simp[AN]),kY (by rw[Mm];omega)]
  ·intro n i hi ih;obtain⟨f,hf,_⟩:=CF hi;have hf2:(Ev p).funcs[i]?=some ⟨f.params,[],f.result⟩:=by
    show (p.funcs.map _)[i]?=_;rw[ji,hf];rfl
   rw[Dk,jm (by simp[AN];omega),BH hf];simp only[jd];rw[EM _ _ _ (by simp;omega) (by simp;omega),BK (by omega) (by omega),show ((i:Int)+1)=((i+1:Nat):Int) by omega];simp only[jd];rw[<- ih,D3 hf2]
 have:=key (kE _) (by omega:p.funcs.length-0<N);simpa using this
theorem aR {p:AP}(hl:p.funcs.length<=1048576){N:Nat}(hN:2000000<=N):KU N p=some (Ev p):=by
 have key:∀{N i:Nat},i<=p.funcs.length->p.funcs.length-i<N->FM p N i ((Ev p).funcs.take i)=some (Ev p).funcs:=by
  intro N i hi hN;refine Bo p.funcs.length (λN i=>FM p N i ((Ev p).funcs.take i)=some (Ev p).funcs) ?_ ?_ hi hN
  ·intro n;rw[FM,jn (by simp[AN]),kY (by rw[Mm];omega)]
  ·intro n i hi ih;obtain⟨f,hf,_⟩:=CF hi;have hf2:(Ev p).funcs[i]?=some ⟨f.params,[],f.result⟩:=by
    show (p.funcs.map _)[i]?=_;rw[ji,hf];rfl
   rw[FM,jm (by simp[AN];omega),BH hf];simp only[jd];rw[EM _ _ _ (by simp;omega) (by simp;omega),BK (by omega) (by omega),show ((i:Int)+1)=((i+1:Nat):Int) by omega];simp only[jd];rw[<- ih,D3 hf2]
 have:=key (kE _) (by omega:p.funcs.length-0<N);rw[lF,show ((0:Nat):Int)=0 from rfl]at this;unfold KU;rw[this];rfl
theorem Vd {p:AP}(S:EE p){N:Nat}(hN:2000000<=N):HB N p=some (MP p):=by
 have hl:=S.Kz;unfold HB MP;by_cases h4:p.funcs.length<=4
 ·rw[jn (by rw[jw,AN];omega),Zl hl hN];simp only[jd];rw[Qt S.decls (by rw[Mm];exact hl) (λf hf=>by obtain⟨q,hq,rfl⟩:=kC.1 (show f∈p.funcs.map _ from hf);exact⟨(S.fz hq).1,by simp⟩) hN];have e1:((Ev p).funcs.map λf=>(f.params,f.result))=p.funcs.map λf=>(f.params,f.result):=by
   show (p.funcs.map _).map _=_;rw[lU];rfl
  have e2:((Ev p).funcs.all λf=>Fp (LS f.params f.Fu) 0 f.Fu)=true:=by
   rw[jq];intro f hf;obtain⟨q,hq,rfl⟩:=kC.1 (show f∈p.funcs.map _ from hf);rfl
  rw[e1,e2];simp
 ·rw[jm (by rw[jw,AN];omega)];have:OJ p.decls (p.funcs.map λf=>(f.params,f.result))=false:=by
   unfold OJ;simp[h4]
  rw[this]
def IJ (p:AP)(T:List Int->AE->Int)(f:Ac):Bool:=decide (en f.body<=30)&&decide (T f.params f.body=f.result)
theorem J1 {p:AP}(S:EE p){N:Nat}(hN:2000000<=N):∃b,Bm N p=some b/\EH N p=some b/\(b=true->Ek p.decls p.funcs/\∀f∈p.funcs,en f.body<=30):=by
 unfold Bm EH;rw[OX S hN,Vd S hN];simp only[jd];cases hs:MP p with
 | false=>exact⟨false,rfl,rfl,λh=>nomatch h⟩
 | true=>
  have SO:=Ek.of hs;have hl:=S.Kz;obtain⟨T,hT⟩:=Pv SO hN 31;have hty:∀f∈p.funcs,en f.body<=30->KC N p f.params f.body=some (T f.params f.body)/\H0 N f.params (Ev p) f.body=some (T f.params f.body)/\(T f.params f.body=-1∨DJ p.decls (T f.params f.body)=true):=λf hf he=>by
   obtain⟨q1,q2,q3⟩:=SO.Ov f hf;exact hT f.params f.body (S.fin hf).body (by omega) (by omega) q2 N N (by omega) (by omega)
  have hcl:∀f∈p.funcs,CP f.params=some f.params:=λf hf=>by
   obtain⟨q1,q2,q3⟩:=SO.Ov f hf;unfold CP;rw[EM [] f.params 8 (by simp;omega) (by simp;omega)];rfl
  have L1:=FE (l:=p.funcs) (CI N p) (λ_ f=>IJ p T f) (λn=>by rw[CI,jn (by simp[AN])]) (λn i f hi=>by
   have hil:=(jg.1 hi).1;have hf:=je hi;rw[CI,jm (by simp[AN];omega),BH hi];simp only[jd];rw[Gv (S.fz hf).2 hN,BK (by omega) (by omega),show ((i:Int)+1)=((i+1:Nat):Int) by omega];simp only[jd];unfold IJ;by_cases he:en f.body<=30
   ·rw[jm he,jn (by simp),(hty f hf he).1];by_cases hr:T f.params f.body=f.result<;>simp[he,hr]
   ·rw[jn he];simp[he]) (by omega:p.funcs.length<N)
  have L2:=FE (l:=p.funcs) (Dn N p) (λ_ f=>IJ p T f) (λn=>by rw[Dn,jn (by simp[AN])]) (λn i f hi=>by
   have hil:=(jg.1 hi).1;have hf:=je hi;obtain⟨q1,q2,q3⟩:=SO.Ov f hf;have q4:f.params.all (DJ p.decls)=true:=jq.2 q2;rw[Dn,jm (by simp[AN];omega),BH hi];simp only[jd];unfold Lu;rw[Vd S hN,hs,Nj (S.fz hf).2 hN,KV (by omega) (by omega),q4,aR hl hN,hcl f hf,BK (by omega) (by omega),show ((i:Int)+1)=((i+1:Nat):Int) by omega];simp only[jd];unfold IJ;by_cases he:en f.body<=30
   ·rw[jm he,(hty f hf he).2.1];have he0:¬ ((en f.body:Int)<0):=by omega
    by_cases hr:T f.params f.body=f.result<;>simp[he,hr,he0]
   ·rw[jn he];have hr:¬ ((-1:Int)=f.result):=λq=>by have:=(Ju q3).1;omega
    simp[he,hr]) (by omega:p.funcs.length<N)
  rw[F6]at L1 L2;refine⟨p.funcs.all (IJ p T),?_,?_,λh=>⟨SO,λf hf=>?_⟩⟩
  ·simp only[lL,jk,kH];rw[L1,FC];cases p.funcs.all (IJ p T)<;>rfl
  ·simp only[lL,jk,kH];rw[L2,FC];cases p.funcs.all (IJ p T)<;>rfl
  ·have:=jq.1 h f hf;unfold IJ at this;simp only[kF,jw]at this;exact this.1
end RC
namespace RC
open Go
def Ag {α:Type}(x:Option α)(Q:α->Prop):Prop:=∃v,x=some v/\Q v
theorem Ag.some {α:Type}{v:α}{Q:α->Prop}(h:Q v):Ag (some v) Q:=⟨v,rfl,h⟩
theorem Ag.mono {α:Type}{x:Option α}{Q R:α->Prop}(h:Ag x Q)(g :∀v,Q v->R v):Ag x R:=
 let ⟨v,e,q⟩:=h;⟨v,e,g v q⟩
theorem Ag.bind {α β:Type}{x:Option α}{f:α->Option β}{R:α->Prop}{Q:β->Prop}(h:Ag x R)(k :∀v,R v->Ag (f v) Q):Ag (Option.bind x f) Q:=by
 obtain⟨v,rfl,hv⟩:=h;exact k v hv
theorem AS {α β:Type}{x:Option α}{f:α->Option β}{v:α}{Q:β->Prop}(h:x=Option.some v)(k:Ag (f v) Q):Ag (Option.bind x f) Q:=by
 subst h;exact k
theorem Cm {α:Type}{b:Bool}{x y:Option α}{Q:α->Prop}(h1:b=true->Ag x Q)(h2:b=false->Ag y Q):Ag (if b=true then x else y) Q:=by
 cases b
 ·exact h2 rfl
 ·exact h1 rfl
theorem BB {α:Type}{p:Prop}[Decidable p]{x y:Option α}{Q:α->Prop}(h1:p->Ag x Q)(h2:¬ p->Ag y Q):Ag (if decide p=true then x else y) Q:=by
 by_cases h:p
 ·rw[jm (by simpa using h)];exact h1 h
 ·rw[jn (by simpa using h)];exact h2 h
theorem Ag.cont {ρ σ β:Type}{o:Option (ρ ⊕ σ)}{g:ρ->β}{f:σ->Option β}{R:ρ->Prop}{S:σ->Prop}{Q:β->Prop}(h:Ag o λv=>match v with|.inl r=>R r|.inr s=>S s)(h1 :∀r,R r->Q (g r))(h2 :∀s,S s->Ag (f s) Q):Ag (Sh.cont o g f) Q:=by
 obtain⟨v,rfl,hv⟩:=h;cases v with
 | inl r=>exact⟨g r,rfl,h1 r hv⟩
 | inr s=>exact h2 s hv
theorem Ag.get {α β:Type}{l:List α}{j:Int}{f:α->Option β}{Q:β->Prop}(h0:0<=j)(h1:j<l.length)(k :∀x,l[j.toNat]?=Option.some x->x∈l->Ag (f x) Q):Ag (Option.bind (Sh.get l j) f) Q:=by
 obtain⟨x,e,hx⟩:=PK h0 h1;exact AS e (k x hx (je hx))
theorem Ag.app {α β:Type}{l m:List α}{b:Nat}{f:List α->Option β}{Q:β->Prop}(h:(l.length+m.length)*b<=140737488355328)(h2:l.length+m.length<=9223372036854775807)(k:Ag (f (l++m)) Q):Ag (Option.bind (Sh.app l m b) f) Q:=AS (EM l m b h h2) k
theorem ZW {n:Int}(h1:-9223372036854775808<=n)(h2:n<=9223372036854775807):Sh.wk .i64 n=n:=Abs.wrap_i64 h1 h2
theorem fh {a b:Int}(ha:0<=a)(ha':a<4611686018427387904)(hb:0<=b)(hb':b<4611686018427387904):0<=Sh.xor a b/\Sh.xor a b<4611686018427387904:=by
 obtain⟨x,rfl⟩:=kZ ha;obtain⟨y,rfl⟩:=kZ hb;have e:Sh.xor (x:Int) (y:Int)=((x ^^^ y:Nat):Int):=by
  unfold Sh.xor;have h1:(BitVec.ofInt 64 (x:Int) ^^^ BitVec.ofInt 64 (y:Int)).toNat=x ^^^ y:=by
   rw[BitVec.toNat_xor];simp only[BitVec.ofInt_natCast,BitVec.toNat_ofNat];rw[mT (by omega),mT (by omega)]
  rw[h1];have h2:x ^^^ y<2 ^ 62:=Nat.xor_lt_two_pow (by omega) (by omega);exact Abs.wrap_i64 (by omega) (by omega)
 have h2:x ^^^ y<2 ^ 62:=Nat.xor_lt_two_pow (by omega) (by omega);rw[e];omega
end RC
namespace RC
open Go
inductive Xe:Step->Prop where
 | mk {s:Step}:Gu s.op->Gu s.num->Gu s.bK->IH Gu s.args->s.kids.length<=9223372036854775807->(∀b∈s.kids,b.steps.length<=9223372036854775807)->(∀b∈s.kids,Gu b.result)->(∀b∈s.kids,∀t∈b.steps,Xe t)->Xe s
structure iz (b:Block):Prop where
 steps:IH Xe b.steps
 result:Gu b.result
def lf (left:Int)(s:Nat):Int:=if left-s<0 then -1 else left-s
end RC
namespace RC
open Go
end RC
namespace RC
open Go
def jI (o:Int):Bool:=decide (14<=o)&&decide (o<=17)
mutual
def us (v:Int):Step->Nat|.mk o _ _ a k=>if jI o then 0 else a.countP (λx=>decide (x=v))+uk v k
def uk (v:Int):List (LD Step)->Nat|[]=>0|b::k=>ub v b+uk v k
def ub (v:Int):LD Step->Nat|⟨ss,r⟩=>(if r=v then 1 else 0)+ul v ss
def ul (v:Int):List Step->Nat|[]=>0|s::l=>us v s+ul v l
end
def ua (v:Int)(a:List Int):Nat:=a.countP λx=>decide (x=v)
theorem jW (v:Int)(a:List Int):ua v a<=a.length:=List.countP_le_length
end RC
namespace RC
open Go
section
variable {D : List AM} {G : List Bt} {ks : List Int} {op num : Int} {N : Nat}
end
end RC
namespace RC
open Go
section
variable {n : IT} {R1 : IT -> List Int -> Block -> Option Int} {R2 : BO -> List Int -> Block -> Option Int} {T : List Int -> Block -> Int} {s : Step} {v : List Int} {N : Nat}
end
end RC
namespace RC
open Go
section
variable {n : IT} {R1 : IT -> List Int -> Block -> Option Int} {R2 : BO -> List Int -> Block -> Option Int} {T : List Int -> Block -> Int} {s : Step} {v : List Int} {N : Nat}
end
end RC
namespace RC
open Go
section
variable {n : IT} {R1 : IT -> List Int -> Block -> Option Int} {R2 : BO -> List Int -> Block -> Option Int} {T : List Int -> Block -> Int} {s : Step} {v : List Int} {N : Nat} {b : Bool}
end
end RC
namespace RC
open Go
section
variable {n : IT} {R1 : IT -> List Int -> Block -> Option Int} {R2 : BO -> List Int -> Block -> Option Int} {T : List Int -> Block -> Int} {s : Step} {v : List Int} {N : Nat} {b : Bool}
end
end RC
namespace RC
open Go
section
variable {n : IT} {R1 : IT -> List Int -> Block -> Option Int} {R2 : BO -> List Int -> Block -> Option Int} {T : List Int -> Block -> Int} {s : Step} {v : List Int} {N : Nat} {b : Bool}
end
end RC
namespace RC
open Go
section
variable {n : IT} {R1 : IT -> List Int -> Block -> Option Int} {R2 : BO -> List Int -> Block -> Option Int} {T : List Int -> Block -> Int} {b : Block} {v : List Int} {N : Nat}
end
end RC
namespace RC
open Go
end RC
namespace RC
open Go
end RC
namespace RC
open Go
theorem ZH {α:Type}(A B:List α)(x:α):Sh.get (A++x::B) (A.length:Int)=some x:=BH (by simp)
theorem Y6 {α:Type}(A B:List α)(x y:α):Sh.put (A++x::B) (A.length:Int) y=A++y::B:=by rw[Pb];simp
theorem SC {α:Type}{f g:α->Nat}{a b:Nat}:∀{l:List α},(∀x∈l,f x<=a+b*g x)->(l.map f).sum<=a*l.length+b*(l.map g).sum
 | [],_=>by simp
 | x::r,h=>by
  have h1:=h x (by simp);have h2:=SC (l:=r) λy hy=>h y (by simp[hy]);simp only[kI,mM,kQ,Nat.mul_add];omega
mutual
def ms:Step->Nat|.mk _ _ _ a k=>3+a.length+iy k
def iy:List (LD Step)->Nat|[]=>0|b::k=>mb b+iy k
def mb:LD Step->Nat|⟨ss,_⟩=>iS ss+1
def iS:List Step->Nat|[]=>0|s::l=>ms s+iS l
end
end RC
namespace RC
open Go
theorem W5 {α β:Type}{l:List α}(L:Nat->Int->List β->Option (List β))(g:α->β)(h0 :∀n acc,L (n+1) ((l.length:Nat):Int) acc=some acc)
  (hs :∀n i x acc,l[i]?=some x->acc.length=i->L (n+1) ((i:Nat):Int) acc=L n ((i+1:Nat):Int) (acc++[g x])) {N:Nat} (hN:l.length<N):L N 0 []=some (l.map g):=by
 have key:∀{N i:Nat},i<=l.length->l.length-i<N->L N (i:Int) ((l.take i).map g)=some (l.map g):=by
  intro N i hi hN;refine Bo l.length (λN i=>L N (i:Int) ((l.take i).map g)=some (l.map g)) ?_ ?_ hi hN
  ·intro n;rw[h0,lM]
  ·intro n i hi ih;obtain⟨x,hx,_⟩:=CF hi;rw[hs n i x _ hx (by simp;omega),<- ih,D3 hx,lJ];rfl
 have:=key (kE _) (by omega:l.length-0<N);simpa using this
theorem Wt {α:Type}{l:List α}(L:Nat->Int->List α->Option (List α))(g:α->α)(h0 :∀n acc,L (n+1) ((l.length:Nat):Int) acc=some acc)
  (hs :∀n (A:List α) (x:α) (C:List α),A.length+C.length<l.length->l[A.length]?=some x->L (n+1) ((A.length:Nat):Int) (A++x::C)=L n ((A.length+1:Nat):Int) (A++g x::C)) {N:Nat} (hN:l.length<N):L N 0 l=some (l.map g):=by
 have key:∀(C A:List α) (n:Nat),C.length<n->A.length<=l.length->C=l.drop A.length->L n ((A.length:Nat):Int) (A++C)=some (A++C.map g):=by
  intro C
  induction C with
  | nil=>
   intro A n hn h1 h2;obtain⟨n,rfl⟩ :∃m,n=m+1:=⟨n-1,by simp at hn;omega⟩
   have h3:=kf List.length h2;simp at h3;rw[show A.length=l.length by omega,h0];simp
  | cons x C ih=>
   intro A n hn h1 h2;have h3:=kf List.length h2;simp only[kQ,mI]at hn h3;obtain⟨n,rfl⟩ :∃m,n=m+1:=⟨n-1,by omega⟩
   have hx:l[A.length]?=some x:=by
    have:=kf (λz=>z[0]?) h2;simpa using this.symm
   rw[hs n A x C (by omega) hx];have:=ih (A++[g x]) n (by omega) (by simp;omega) (by
    rw[drop_cons hx]at h2;simpa using (List.cons.inj h2).2)
   simpa using this
 have:=key l [] N hN (by simp) (by simp);simpa using this
theorem YC {i:Nat}(h:i<=1048576):Sh.w ((i:Int)+1)=((i+1:Nat):Int):=by rw[BK (by omega) (by omega)];rfl
theorem ja {l:List Int}(hl:l.length<=1048576):FJ l=some l:=by
 unfold FJ;rw[EM [] l 8 (by simp;omega) (by simp;omega)];rfl
theorem jK {l:List Int}(hl:l.length<=1048576):CP l=some l:=by
 unfold CP;rw[EM [] l 8 (by simp;omega) (by simp;omega)];rfl
theorem WD {D:List AM}{i:Nat}{d:AM}(hd:D[i]?=some d)(hz:dz d<=1048576){N:Nat}(hN:2000000<=N):EA i D N 0 []=some d.cons:=by
 unfold dz at hz;rw[W5 (l:=d.cons) (EA i D) id (λn acc=>by rw[EA,BH hd];simp only[jd];rw[jn (by simp[AN])]) (λn j c acc hc ha=>?_) (by omega)]
 ·simp
 ·have hj:=(jg.1 hc).1;have hcz:=LR cz (je hc);rw[EA,BH hd];simp only[jd];rw[jm (by simp[AN];omega),BH hc];simp only[jd];rw[ja (show cz c<=1048576 by omega)];simp only[jd];rw[EM acc _ 24 (by simp;omega) (by simp;omega)];simp only[jd];rw[YC (by omega)];rfl
theorem WB {D:List AM}(hl:D.length<=1048576)(hz :∀d∈D,dz d<=1048576){N:Nat}(hN:2000000<=N):IZ N D=some D:=by
 unfold IZ;rw[W5 (l:=D) (Em N D) id (λn acc=>by rw[Em,jn (by simp[AN])]) (λn j c acc hc ha=>?_) (by omega)]
 ·simp
 ·have hj:=(jg.1 hc).1;rw[Em,jm (by simp[AN];omega),WD hc (hz c (je hc)) hN,BH hc];simp only[jd];rw[EM acc _ 40 (by simp;omega) (by simp;omega)];simp only[jd];rw[YC (by omega)];rfl
theorem VW {D:List AM}(hl:D.length<=1048576)(hz :∀d∈D,dz d<=1048576){N:Nat}(hN:2000000<=N):H3 N D=some D:=by
 unfold H3 DY;rw[EM [] D 40 (by simp;omega) (by simp;omega)];simp only[jd,lR];rw[Wt (l:=D) (EP N (Sh.len D)) id (λn acc=>by rw[EP,jn (by simp[AN])]) (λn A d C hA hd=>?_) (by omega)]
 ·simp
 ·have h1:=hz d (je hd);unfold dz at h1;rw[EP,jm (by simp[AN];omega),ZH];simp only[jd];unfold Cz;rw[EM [] d.cons 24 (by simp;omega) (by simp;omega)];simp only[jd,lR];rw[Wt (l:=d.cons) (ER d.cons) id (λn acc=>by rw[ER,jn (by simp[AN])]) (λn B c E hB hc=>?_) (by omega)]
  ·simp only[jd,Y6,lI];rw[YC (by omega)];rfl
  ·have hcz:=LR cz (je hc);have hl:=(jg.1 hc).1;rw[ER,jm (by simp[AN];omega),BH hc];simp only[jd];rw[jK (show cz c<=1048576 by omega),ZH];simp only[jd];rw[Y6,YC (by omega)];rfl
end RC
namespace RC
open Go
end RC
namespace RC
end RC
namespace RC
open Go
mutual
def vs:Step->List Int|.mk o _ _ a k=>if jI o then [] else a++iX k
def iX:List (LD Step)->List Int|[]=>[]|b::k=>jT b++iX k
def jT:LD Step->List Int|⟨ss,r⟩=>ig ss++[r]
def ig:List Step->List Int|[]=>[]|s::l=>vs s++ig l
end
end RC
namespace RC
open Go
def jH (h:List Cell)(j:Nat)(w:Int):Bool:=hU h w&&decide ((w-1000).toNat=j)
def jM (h:List Cell)(ws:List Int)(j:Nat):Nat:=ws.countP (jH h j)
theorem jG (h:List Cell)(j:Nat):jM h [] j=0:=rfl
def ik (l:List Nat):List Int:=List.map (λn:Nat=>(n:Int)) l
end RC
namespace RC
open Go
def mk (m:Nat->Bool)(n i:Nat):List Nat:=(List.range' i (n-i)).filter m
def iJ (m:Nat->Bool)(j:Nat):Nat->Bool:=λk=>m k || decide (k=j)
def iK (m:Nat->Bool)(l:List Int):Nat->Bool:=λk=>m k || decide ((k:Int)∈l)
mutual
def fy:AE->List Int|.mk o n k=>(if o=9∨o=10 then [n] else [])++ee k
def ee:List AE->List Int|[]=>[]|e::l=>fy e++ee l
end
end RC
namespace RC
open Go
def push:List Int->(Nat->Bool)->List Int->(Nat->Bool)×List Int
 | [],m,w=>(m,w)
 | x::q,m,w=>if m x.toNat then push q m w else push q (iJ m x.toNat) (w++[x])
end RC
namespace RC
open Go
def jJ (p:AP)(k:Nat):List Int:=match p.funcs[k]? with|some f=>fy f.body|none=>[]
def jU:Nat->Bool:=λ_=>false
def cl (p:AP)(F k:Nat):List Int:=ik (mk (iK jU (jJ p k)) F 0)
end RC
namespace RC
open Go
end RC
namespace RC
open Go
end RC
namespace RC
open Go
section
variable {p : AP} {R1 : AP -> List Int -> AE -> Option Int} {R2 : List Int -> BO -> AE -> Option Int} {T : List Int -> AE -> Int} {e : AE} {v : List Int} {N : Nat}
theorem TK {l:List Int}(h:LJ l≠-1):∀x∈l,x≠-1:=by
 cases l with
 | nil=>exact absurd rfl h
 | cons a r=>
  simp only[LJ]at h;by_cases hr:r.all (λx=>decide (x=a))=true
  ·rw[jm hr]at h;intro x hx;rcases js.1 hx with rfl|hx
   ·exact h
   ·have:=jq.1 hr x hx;simp only[jw]at this;rw[this];exact h
  ·rw[jn hr]at h;exact absurd rfl h
theorem eH (H:KX p (Ev p) R1 R2 T (en e))(V:IB p e v)(S:Ek p.decls p.funcs)(hN:2000000<=N){t:Int}(hB:Ao N R2 v (Ev p) e=some t)(ht:t≠-1):
  ∀k∈e.kids,∃m:List Int,m.length<=3/\(∀x∈m,DJ p.decls x=true)/\T (v++m) k≠-1:=by
 have hv:v.length<=1000:=by have:=V.len;omega
 have nil:∀k,T v k≠-1->∃m:List Int,m.length<=3/\(∀x∈m,DJ p.decls x=true)/\T (v++m) k≠-1:=λk h=>⟨[],by simp,λx hx=>(by cases hx),by simpa using h⟩;by_cases h12:e.op=12
 ·unfold Ao at hB;simp only[h12,jx,kO]at hB;intro k hk;have:0<Sh.len e.kids:=by rw[AN];have:=List.length_pos_of_mem hk;omega
  simp only[this,jx,kO,jd,jh]at hB;exact absurd hB.symm ht
 by_cases h13:e.op=13
 ·unfold Ao at hB;simp only[h13,Int.reduceEq,jx,kA,jk,kO,kH]at hB;by_cases hl:e.kids.length=2
  ·obtain⟨a,b,hk⟩ :∃a b,e.kids=[a,b]:=by
    match hk:e.kids,hl with
    | [a,b],_=>exact⟨a,b,rfl⟩
   have hma:a∈e.kids:=by rw[hk];simp
   have hmb:b∈e.kids:=by rw[hk];simp
   obtain⟨a1,a2,a3⟩:=H v a (V.CZ.kids a hma) (DG hma) (V.I1 hma) V.H7;have g0:Sh.get e.kids 0=some a:=by rw[hk];rfl
   have g1:Sh.get e.kids 1=some b:=by rw[hk];rfl
   rw[g0,g1]at hB;simp only[jd,AN,hl]at hB;rw[a2]at hB;simp only[jd]at hB;by_cases hn:e.num=0
   ·by_cases h0:T v a<0
    ·simp[hn,h0]at hB;exact absurd hB.symm ht
    ·have hty:DJ p.decls (T v a)=true:=a3.resolve_left (by omega);obtain⟨b1,b2,b3⟩:=H (v++[T v a]) b (V.CZ.kids b hmb) (DG hmb) (V.more hmb (by simp)) (V.Ws (by simp[hty]));rw[EM v [T v a] 8 (by simp;omega) (by simp;omega)]at hB;simp only[jd,b2]at hB;simp[hn,h0]at hB;intro k hkm;rw[hk]at hkm;simp only[js,kN,kx]at hkm;rcases hkm with rfl|rfl
     ·exact nil _ (by omega)
     ·exact⟨[T v a],by simp,by simp[hty],by rw[hB];exact ht⟩
   ·simp[hn]at hB;exact absurd hB.symm ht
  ·have:¬ ((e.kids.length:Int)=2):=by omega
   simp[AN,this]at hB;exact absurd hB.symm ht
 by_cases h7:e.op=7
 ·unfold Ao at hB;simp only[h7,Int.reduceEq,jx,kA,jk,kO,kH]at hB;by_cases hl:e.kids.length=3
  ·obtain⟨a,b,c,hk⟩ :∃a b c,e.kids=[a,b,c]:=by
    match hk:e.kids,hl with
    | [a,b,c],_=>exact⟨a,b,c,rfl⟩
   have hma:a∈e.kids:=by rw[hk];simp
   have hmb:b∈e.kids:=by rw[hk];simp
   have hmc:c∈e.kids:=by rw[hk];simp
   obtain⟨a1,a2,a3⟩:=H v a (V.CZ.kids a hma) (DG hma) (V.I1 hma) V.H7;have g0:Sh.get e.kids 0=some a:=by rw[hk];rfl
   have g3:Sh.sl e.kids 1 3=some [b,c]:=by rw[hk];rfl
   have o:=J8 (ks:=[b,c]) (ms:=[[],[]]) H V hN (by intro k hk;simp only[js,kN,kx]at hk;rcases hk with rfl|rfl<;>assumption) (by simp) rfl (by simp);have mk2:Sh.mk ([]:List Int) 2 24=some [[],[]]:=PS [] 2 24 (by omega) (by omega);rw[g0]at hB;simp only[jd,AN,hl]at hB;rw[a2,show ((3:Nat):Int)=3 from rfl,g3,mk2]at hB;simp only[jd]at hB;rw[o]at hB;by_cases hn:e.num=0
   ·by_cases h0:T v a=0
    ·simp[hn,h0]at hB;have hal:=TK (l:=[T v b,T v c]) (by rw[hB];exact ht);intro k hkm;rw[hk]at hkm;simp only[js,kN,kx]at hkm;rcases hkm with rfl|rfl|rfl
     ·exact nil _ (by omega)
     ·exact nil _ (hal _ (by simp))
     ·exact nil _ (hal _ (by simp))
    ·simp[hn,h0]at hB;exact absurd hB.symm ht
   ·simp[hn]at hB;exact absurd hB.symm ht
  ·have:¬ ((e.kids.length:Int)=3):=by omega
   simp[AN,this]at hB;exact absurd hB.symm ht
 by_cases h8:e.op=8
 ·have hkl:=V.LB;have hD:=S.Ms;have hn:=S.nc;have hCl:=J0 S.Qa e.num;unfold Ao at hB;simp only[h8,Int.reduceEq,jx,kA,jk,kO,kH]at hB;rw[show (Ev p).decls=p.decls from rfl,HD (by omega) (by omega) hN]at hB;simp only[jd]at hB;generalize hCe:Bs p.decls e.num=C at hCl hB;have hCm:∀c∈C,Bv N p.decls c=some (FZ p.decls c)/\EJ N p.decls c=some (FZ p.decls c)/\(FZ p.decls c).length<=3/\∀x∈FZ p.decls c,DJ p.decls x=true:=λc hc=>Mz S (hCe▸hc) hN;rw[AN C,AN e.kids,BK (n:=1+(C.length:Int)) (by omega) (by omega)]at hB;by_cases h0:C.length=0
  ·simp[h0]at hB;exact absurd hB.symm ht
  ·have h0':¬ ((C.length:Int)=0):=by omega
   have hne:¬ C=[]:=λq=>h0 (by rw[q];rfl);by_cases h1:e.kids.length=1+C.length
   ·have h1':((e.kids.length:Int)=1+(C.length:Int)):=by omega
    obtain⟨a,r,hks⟩ :∃a r,e.kids=a::r:=by
     cases hq:e.kids with
     | nil=>rw[hq]at h1;simp at h1;omega
     | cons a r=>exact⟨a,r,rfl⟩
    have hrl:r.length=C.length:=by rw[hks]at h1;simp at h1;omega
    have hma:a∈e.kids:=by rw[hks];simp
    have hmr:∀k∈r,k∈e.kids:=λk hk=>by rw[hks];simp[hk]
    obtain⟨a1,a2,a3⟩:=H v a (V.CZ.kids a hma) (DG hma) (V.I1 hma) V.H7;have g0:Sh.get e.kids 0=some a:=by rw[hks];rfl
    have g3:Sh.sl e.kids 1 (e.kids.length:Int)=some r:=by
     unfold Sh.sl;rw[jm ⟨by omega,by omega,by omega⟩,hks];simp
    have mkC:Sh.mk ([]:List Int) (C.length:Int) 24=some (List.replicate C.length []):=PS [] C.length 24 (by omega) (by omega);have o:=J8 (ks:=r) (ms:=C.map (FZ p.decls)) H V hN hmr (by omega) (by simp[hrl]) (by
     intro m hm;obtain⟨c,hc,rfl⟩:=kC.1 hm;exact (hCm c hc).2.2)
    have FL:=N7 (p:=p) S hN hCl λc hc=>(hCm c hc).2.1;rw[g0,g3,mkC]at hB;simp only[jd]at hB;rw[a2,FL]at hB;simp only[jd]at hB;rw[o]at hB;by_cases hta:T v a=e.num
    ·simp[hne,h1',hta]at hB;have hal:=TK (by rw[hB];exact ht);intro k hkm;rw[hks]at hkm;rcases js.1 hkm with rfl|hkm
     ·refine nil _ λhq=>?_;have hneg:e.num=-1:=by rw[<- hta];exact hq
      rw[hneg]at hCe;exact h0 (by rw[<- hCe];simp[Bs])
     ·obtain⟨i,hi⟩:=jz.1 hkm;have hil:=(jg.1 hi).1;obtain⟨c,hc,hcm⟩:=CF (l:=C) (i:=i) (by omega);refine⟨FZ p.decls c,(hCm c hcm).2.2.1,(hCm c hcm).2.2.2,hal _ (jz.2 ⟨i,?_⟩)⟩;rw[lO,ji,hc,hi];rfl
    ·simp[hne,h1',hta]at hB;exact absurd hB.symm ht
   ·have h1':¬ ((e.kids.length:Int)=1+(C.length:Int)):=by omega
    simp[hne,h1']at hB;exact absurd hB.symm ht
 rw[FN H V hN h12 h13 h7 h8]at hB;by_cases h:(e.kids.map (T v)).any (λt=>decide (t<0))=true
 ·rw[jm h]at hB;simp at hB;exact absurd hB.symm ht
 ·intro k hk;refine nil k λhq=>h ?_;exact mG.2 ⟨T v k,lD hk,by rw[hq];rfl⟩
end
end RC
namespace RC
open Go
def TT (p:AP)(N:Nat)(T:List Int->AE->Int):Prop:=∀(v:List Int) (e:AE),An e->en e<31->v.length+3*en e<=1000->(∀x∈v,DJ p.decls x=true)->
  ∀n1 n2,31<=n1->31<=n2->Cx N n1 p v e=some (T v e)/\Bq N n2 v (Ev p) e=some (T v e)/\(T v e=-1∨DJ p.decls (T v e)=true)
end RC
namespace RC
open Go
def jS (o n:Int):List AE->AE
 | c::d::k=>if o=11/\c.op=10 then .mk 9 c.num (c.kids++[d]) else .mk o n (c::d::k)
 | k=>.mk o n k
mutual
def kn:AE->AE|.mk o n k=>jS o n (ij k)
def ij:List AE->List AE|[]=>[]|e::l=>kn e::ij l
end
def K2 (e:AE):Prop:=e.op=11->2<=e.kids.length
theorem XW {N:Nat}(hN:2000000<=N):∀(n:Nat) (k:List AE),CK k<n->CK k<=1000->DI N n k=some k:=by
 intro n
 induction n with
 | zero=>intro k h;omega
 | succ n ih=>
  intro k hk hs;have hlen:=Hk k;rw[DI];unfold HV;have key:∀(M i:Nat),i<=k.length->k.length-i<M->CU k (DI N n) M i (k.take i)=some k:=by
   intro M i hi hM;refine Bo k.length (λM i=>CU k (DI N n) M i (k.take i)=some k) ?_ ?_ hi hM
   ·intro m;rw[CU,jn (by simp[AN]),lM]
   ·intro m i hi ih2;obtain⟨e,he,hem⟩:=CF hi;have h1:=Hy hem;have h2:=Fw e;rw[CU,jm (by simp[AN];omega),BH he];simp only[jd,JI];rw[ih e.kids (by omega) (by omega)];simp only[jd];rw[<- HR,EM _ _ 40 (by simp;omega) (by simp;omega),BK (by omega) (by omega),show ((i:Int)+1)=((i+1:Nat):Int) by omega];simp only[jd];rw[<- D3 he];exact ih2
  have:=key N 0 (kE _) (by omega);rw[lF,show ((0:Nat):Int)=0 from rfl]at this;rw[this];rfl
theorem Wf {N:Nat}(hN:2000000<=N){k:List AE}(hs:CK k<=1000):HF N k=some k:=by
 unfold HF;exact XW hN N k (by omega) hs
theorem Wo {N:Nat}(hN:2000000<=N){e:AE}(hs:CK e.kids<=1000):Hm N e=some e:=by
 unfold Hm;rw[Wf hN hs];simp only[jd];rw[<- HR]
end RC
namespace RC
open Go
end RC
namespace RC
open Go
end RC
namespace RC
open Go
theorem Yt {N:Nat}(hN:2000000<=N):∀(n:Nat) (e:AE),en e<=n->en e<=1000->An e->Dz N n e 0 0=some e:=by
 intro n
 induction n with
 | zero=>intro e h;have:=G6 e;omega
 | succ n ih=>
  intro e hn hs hI;have hlen:=Hk e.kids;have he:=Fw e;obtain⟨n1,n2⟩:=hI.num;rw[Dz];unfold IL;have key:∀(M i:Nat),i<=e.kids.length->e.kids.length-i<M->Cn e 0 0 (Dz N n) M i (e.kids.take i)=some e.kids:=by
   intro M i hi hM;refine Bo e.kids.length (λM i=>Cn e 0 0 (Dz N n) M i (e.kids.take i)=some e.kids) ?_ ?_ hi hM
   ·intro m;rw[Cn,jn (by simp[AN]),lM]
   ·intro m i hi ih2;obtain⟨c,hc,hcm⟩:=CF hi;have h1:=Hy hcm;rw[Cn,jm (by simp[AN];omega),BH hc];simp only[jd];rw[ih c (by omega) (by omega) (hI.kids c hcm)];simp only[jd];rw[EM _ _ 40 (by simp;omega) (by simp;omega),BK (by omega) (by omega),show ((i:Int)+1)=((i+1:Nat):Int) by omega];simp only[jd];rw[<- D3 hc];exact ih2
  have:=key N 0 (kE _) (by omega);rw[lF,show ((0:Nat):Int)=0 from rfl]at this;rw[this,Int.add_zero,BK (by omega) (by omega)];have hn:((
   Option.bind (
    if (decide (e.op=12))=true then
     some (decide (0<=e.num))
    else
     some false
   ) λt25=>
   if t25=true then
    some e.num
   else
    some e.num
  ).bind λf3=>(some e.kids).bind λl11=>some (AE.mk e.op f3 l11))=some (AE.mk e.op e.num e.kids):=by
   by_cases h:e.op=12
   ·rw[jm (by simpa using h)];simp
   ·rw[jn (by simpa using h)];simp
  rw[hn,<- HR]
theorem Wb {N:Nat}(hN:2000000<=N){e:AE}(hs:en e<=1000)(hI:An e):IU N e=some e:=by
 unfold IU Gp;rw[Yt hN N e (by omega) hs hI];rfl
end RC
namespace RC
open Go
theorem S9 {N:Nat}(hN:2000000<=N){p:AP}(hd:p.decls.length<=1048576)(hz :∀d∈p.decls,dz d<=1048576)(hf:p.funcs.length<=1048576)(hb :∀f∈p.funcs,f.params.length<=1048576/\en f.body<=1000/\An f.body):Gy N p=some p:=by
 unfold Gy;rw[VW hd hz hN];simp only[jd];have key:∀(M i:Nat),i<=p.funcs.length->p.funcs.length-i<M->DQ N p M i (p.funcs.take i)=some p.funcs:=by
  intro M i hi hM;refine Bo p.funcs.length (λM i=>DQ N p M i (p.funcs.take i)=some p.funcs) ?_ ?_ hi hM
  ·intro m;rw[DQ,jn (by simp[AN]),lM]
  ·intro m i hi ih;obtain⟨f,hf1,hfm⟩:=CF hi;obtain⟨b1,b2,b3⟩:=hb f hfm;rw[DQ,jm (by simp[AN];omega),BH hf1];simp only[jd];have hcl:CP f.params=some f.params:=by
    unfold CP;rw[EM _ _ _ (by simp;omega) (by simp;omega)];rfl
   rw[hcl,Wb hN b2 b3];simp only[jd];rw[EM _ _ 72 (by simp;omega) (by simp;omega),BK (by omega) (by omega),show ((i:Int)+1)=((i+1:Nat):Int) by omega];simp only[jd];have e:Ac.mk f.params f.result f.body=f:=by cases f;rfl
   rw[e,<- D3 hf1];exact ih
 have:=key N 0 (kE _) (by omega);rw[lF,show ((0:Nat):Int)=0 from rfl]at this;rw[this];cases p;rfl
end RC
namespace RC
open Go
end RC
namespace RC
open Go
end RC
namespace RC
open Go
end RC
namespace RC
open Go
section
variable {p : AP} {R1 : AP -> List Int -> AE -> Option Int} {R2 : List Int -> BO -> AE -> Option Int} {T : List Int -> AE -> Int} {e : AE} {v : List Int} {N : Nat}
end
theorem eM {p:AP}(S:EE p){N:Nat}(hN:2000000<=N)(hv:Bm N p=some true):Ek p.decls p.funcs/\∃T,TT p N T/\∀f∈p.funcs,en f.body<=30/\IB p f.body f.params/\DJ p.decls f.result=true/\T f.params f.body=f.result:=by
 obtain⟨b,h1,_,h3⟩:=J1 S hN;rw[hv]at h1;cases h1;obtain⟨SO,hen⟩:=h3 rfl;obtain⟨T,hT⟩:=Pv SO hN 31;have hl:=S.Kz;refine⟨SO,T,hT,λf hf=>?_⟩;obtain⟨q1,q2,q3⟩:=SO.Ov f hf;have he:=hen f hf;have V:IB p f.body f.params:=⟨by omega,q2,by omega,(S.fin hf).body⟩
 have L1:=FE (l:=p.funcs) (CI N p) (λ_ f=>IJ p T f) (λn=>by rw[CI,jn (by simp[AN])]) (λn i f hi=>by
  have hil:=(jg.1 hi).1;have hf:=je hi;obtain⟨q1,q2,q3⟩:=SO.Ov f hf;have he:=hen f hf;have ty:KC N p f.params f.body=some (T f.params f.body):=(hT f.params f.body (S.fin hf).body (by omega) (by omega) q2 N N (by omega) (by omega)).1;rw[CI,jm (by simp[AN];omega),BH hi];simp only[jd];rw[Gv (S.fz hf).2 hN,BK (by omega) (by omega),show ((i:Int)+1)=((i+1:Nat):Int) by omega];simp only[jd];unfold IJ;rw[jm he,jn (by simp),ty];by_cases hr:T f.params f.body=f.result<;>simp[he,hr]) (by omega:p.funcs.length<N)
 rw[F6]at L1;have hs:p.funcs.all (IJ p T)=true:=by
  unfold Bm at hv;rw[OX S hN]at hv;simp only[jd]at hv;cases hsg:MP p with
  | false=>rw[hsg]at hv;simp at hv
  | true=>
   rw[hsg]at hv;simp only[lL,jk,kH]at hv;rw[L1,FC]at hv;cases hb:p.funcs.all (IJ p T) with
   | true=>rfl
   | false=>rw[hb]at hv;simp at hv
 have hb:=jq.1 hs f hf;unfold IJ at hb;simp only[kF,jw]at hb;exact⟨he,V,q3,hb.2⟩
end RC
namespace RC
open Go
end RC
namespace RC
open Go
end RC
namespace RC
open Go
section
variable {p : AP} {R1 : AP -> List Int -> AE -> Option Int} {R2 : List Int -> BO -> AE -> Option Int} {T : List Int -> AE -> Int} {e : AE} {v : List Int} {N : Nat}
theorem Vi (H:KX p (Ev p) R1 R2 T (en e))(V:IB p e v)(h:e.op=13){a b:AE}(hk:e.kids=[a,b])(hn:e.num=0)(ha:T v a≠-1):
  Ao N R2 v (Ev p) e=some (T (v++[T v a]) b)/\DJ p.decls (T v a)=true:=by
 have hv:v.length<=1000:=by have:=V.len;omega
 have hma:a∈e.kids:=by rw[hk];simp
 have hmb:b∈e.kids:=by rw[hk];simp
 obtain⟨a1,a2,a3⟩:=H v a (V.CZ.kids a hma) (DG hma) (V.I1 hma) V.H7;have hty:DJ p.decls (T v a)=true:=a3.resolve_left ha;have h0:¬ T v a<0:=by have:=(Ju hty).1;omega
 have g0:Sh.get e.kids 0=some a:=by rw[hk];rfl
 have g1:Sh.get e.kids 1=some b:=by rw[hk];rfl
 obtain⟨b1,b2,b3⟩:=H (v++[T v a]) b (V.CZ.kids b hmb) (DG hmb) (V.more hmb (by simp)) (V.Ws (by simp[hty]));refine⟨?_,hty⟩;unfold Ao;simp only[h,Int.reduceEq,jx,kA,jk,kO,kH];rw[g0,g1];have hl:((e.kids.length:Int)=2):=by rw[hk];rfl
 simp only[jd,AN,hl,hn,jx,lL,jk,kH];rw[a2];simp only[jd,h0,kA,jk,kH];rw[EM v [T v a] 8 (by simp;omega) (by simp;omega)];simp only[jd,b2]
theorem Uh (H:KX p (Ev p) R1 R2 T (en e))(V:IB p e v)(h:e.op=13){t:Int}(hB:Ao N R2 v (Ev p) e=some t)(ht:t≠-1):
  ∃a b,e.kids=[a,b]/\e.num=0/\T v a≠-1/\DJ p.decls (T v a)=true/\t=T (v++[T v a]) b:=by
 have hB0:=hB;unfold Ao at hB;simp only[h,Int.reduceEq,jx,kA,jk,kO,kH]at hB;by_cases hl:e.kids.length=2
 ·obtain⟨a,b,hk⟩ :∃a b,e.kids=[a,b]:=by
   match hk:e.kids,hl with
   | [a,b],_=>exact⟨a,b,rfl⟩
  have hma:a∈e.kids:=by rw[hk];simp
  obtain⟨a1,a2,a3⟩:=H v a (V.CZ.kids a hma) (DG hma) (V.I1 hma) V.H7;by_cases hn:e.num=0
  ·by_cases ha:T v a=-1
   ·exfalso;have g0:Sh.get e.kids 0=some a:=by rw[hk];rfl
    rw[g0]at hB;simp only[jd,AN,hl]at hB;rw[a2]at hB;simp[hn,ha]at hB;exact ht hB.symm
   ·obtain⟨q1,q2⟩:=Vi (N:=N) H V h hk hn ha;rw[hB0]at q1;exact⟨a,b,hk,hn,ha,q2,by simpa using q1⟩
  ·simp[hn]at hB;exact absurd hB.symm ht
 ·have:¬ ((e.kids.length:Int)=2):=by omega
  simp[AN,this]at hB;exact absurd hB.symm ht
theorem bP (H:KX p (Ev p) R1 R2 T (en e))(V:IB p e v)(hN:2000000<=N)(h:e.op=7){a b c:AE}(hk:e.kids=[a,b,c])(hn:e.num=0)(ha:T v a=0):
  Ao N R2 v (Ev p) e=some (LJ [T v b,T v c]):=by
 have hma:a∈e.kids:=by rw[hk];simp
 have hmb:b∈e.kids:=by rw[hk];simp
 have hmc:c∈e.kids:=by rw[hk];simp
 obtain⟨a1,a2,a3⟩:=H v a (V.CZ.kids a hma) (DG hma) (V.I1 hma) V.H7;have hl:((e.kids.length:Int)=3):=by rw[hk];rfl
 have g0:Sh.get e.kids 0=some a:=by rw[hk];rfl
 have g3:Sh.sl e.kids 1 3=some [b,c]:=by rw[hk];rfl
 have o:=J8 (ks:=[b,c]) (ms:=[[],[]]) H V hN (by intro k hk;simp only[js,kN,kx]at hk;rcases hk with rfl|rfl<;>assumption) (by simp) rfl (by simp);have mk2:Sh.mk ([]:List Int) 2 24=some [[],[]]:=PS [] 2 24 (by omega) (by omega);unfold Ao;simp only[h,Int.reduceEq,jx,kA,jk,kO,kH];rw[g0];simp only[jd,AN,hl];rw[a2,g3,mk2];simp only[jd];rw[o];simp[hn,ha]
theorem Ua (H:KX p (Ev p) R1 R2 T (en e))(V:IB p e v)(hN:2000000<=N)(h:e.op=7){t:Int}(hB:Ao N R2 v (Ev p) e=some t)(ht:t≠-1):
  ∃a b c,e.kids=[a,b,c]/\e.num=0/\T v a=0/\t=T v b/\t=T v c:=by
 have hB0:=hB;unfold Ao at hB;simp only[h,Int.reduceEq,jx,kA,jk,kO,kH]at hB;by_cases hl:e.kids.length=3
 ·obtain⟨a,b,c,hk⟩ :∃a b c,e.kids=[a,b,c]:=by
   match hk:e.kids,hl with
   | [a,b,c],_=>exact⟨a,b,c,rfl⟩
  have hma:a∈e.kids:=by rw[hk];simp
  obtain⟨a1,a2,a3⟩:=H v a (V.CZ.kids a hma) (DG hma) (V.I1 hma) V.H7;by_cases hn:e.num=0
  ·by_cases ha:T v a=0
   ·have q:=bP H V hN h hk hn ha;rw[hB0]at q;have q:t=LJ [T v b,T v c]:=by simpa using q
    have hal:=TK (l:=[T v b,T v c]) (by rw[<- q];exact ht);rw[S4]at q;by_cases hcb:T v c=T v b
    ·rw[jm hcb]at q;exact⟨a,b,c,hk,hn,ha,q,by rw[hcb];exact q⟩
    ·rw[jn hcb]at q;exact absurd q ht
   ·exfalso;have g0:Sh.get e.kids 0=some a:=by rw[hk];rfl
    rw[g0]at hB;simp only[jd,AN,hl]at hB;rw[a2]at hB;simp[hn,ha]at hB;exact ht hB.symm
  ·simp[hn]at hB;exact absurd hB.symm ht
 ·have:¬ ((e.kids.length:Int)=3):=by omega
  simp[AN,this]at hB;exact absurd hB.symm ht
def Yv (D:List AM)(T:List Int->AE->Int)(v C:List Int)(r:List AE):List Int:=List.zipWith (λm k=>T (v++m) k) (C.map (FZ D)) r
theorem VY (H:KX p (Ev p) R1 R2 T (en e))(V:IB p e v)(S:Ek p.decls p.funcs)(hN:2000000<=N)(h8:e.op=8){a:AE}{r:List AE}(hks:e.kids=a::r)(h0:Bs p.decls e.num≠[])(hrl:r.length=(Bs p.decls e.num).length)(hta:T v a=e.num):
  Ao N R2 v (Ev p) e=some (LJ (Yv p.decls T v (Bs p.decls e.num) r)):=by
 have hkl:=V.LB;have hD:=S.Ms;have hn:=S.nc;have hCl:=J0 S.Qa e.num;unfold Ao;simp only[h8,Int.reduceEq,jx,kA,jk,kO,kH];rw[show (Ev p).decls=p.decls from rfl,HD (by omega) (by omega) hN];simp only[jd];generalize hCe:Bs p.decls e.num=C at *;have hCm:∀c∈C,Bv N p.decls c=some (FZ p.decls c)/\EJ N p.decls c=some (FZ p.decls c)/\(FZ p.decls c).length<=3/\∀x∈FZ p.decls c,DJ p.decls x=true:=λc hc=>Mz S (hCe▸hc) hN;have h1:e.kids.length=1+C.length:=by rw[hks];simp;omega
 have h1':((e.kids.length:Int)=1+(C.length:Int)):=by omega
 have hma:a∈e.kids:=by rw[hks];simp
 have hmr:∀k∈r,k∈e.kids:=λk hk=>by rw[hks];simp[hk]
 obtain⟨a1,a2,a3⟩:=H v a (V.CZ.kids a hma) (DG hma) (V.I1 hma) V.H7;have g0:Sh.get e.kids 0=some a:=by rw[hks];rfl
 have g3:Sh.sl e.kids 1 (e.kids.length:Int)=some r:=by
  unfold Sh.sl;rw[jm ⟨by omega,by omega,by omega⟩,hks];simp
 have mkC:Sh.mk ([]:List Int) (C.length:Int) 24=some (List.replicate C.length []):=PS [] C.length 24 (by omega) (by omega);have o:=J8 (ks:=r) (ms:=C.map (FZ p.decls)) H V hN hmr (by omega) (by simp[hrl]) (by
  intro m hm;obtain⟨c,hc,rfl⟩:=kC.1 hm;exact (hCm c hc).2.2)
 have FL:=N7 (p:=p) S hN hCl λc hc=>(hCm c hc).2.1;rw[AN C,AN e.kids,BK (n:=1+(C.length:Int)) (by omega) (by omega),g0,g3,mkC];simp only[jd];rw[a2,FL];simp only[jd];rw[o];simp[h0,h1',hta,Yv]
theorem Jy (H:KX p (Ev p) R1 R2 T (en e))(V:IB p e v)(S:Ek p.decls p.funcs)(hN:2000000<=N)(h8:e.op=8){t:Int}(hB:Ao N R2 v (Ev p) e=some t)(ht:t≠-1):
  ∃a r,e.kids=a::r/\Bs p.decls e.num≠[]/\r.length=(Bs p.decls e.num).length/\T v a=e.num/\t=LJ (Yv p.decls T v (Bs p.decls e.num) r):=by
 have hB0:=hB;have hkl:=V.LB;have hD:=S.Ms;have hn:=S.nc;have hCl:=J0 S.Qa e.num;unfold Ao at hB;simp only[h8,Int.reduceEq,jx,kA,jk,kO,kH]at hB;rw[show (Ev p).decls=p.decls from rfl,HD (by omega) (by omega) hN]at hB;simp only[jd]at hB;have mv:=λa r=>VY (a:=a) (r:=r) H V S hN h8;rw[AN (Bs p.decls e.num),AN e.kids,BK (n:=1+((Bs p.decls e.num).length:Int)) (by omega) (by omega)]at hB;by_cases h0:(Bs p.decls e.num)=[]
 ·simp[h0]at hB;exact absurd hB.symm ht
 ·have h0':¬ (((Bs p.decls e.num).length:Int)=0):=by
   intro q;exact h0 (ka (by omega))
  by_cases h1:e.kids.length=1+(Bs p.decls e.num).length
  ·have h1':((e.kids.length:Int)=1+((Bs p.decls e.num).length:Int)):=by omega
   obtain⟨a,r,hks⟩ :∃a r,e.kids=a::r:=by
    cases hq:e.kids with
    | nil=>rw[hq]at h1;simp at h1;omega
    | cons a r=>exact⟨a,r,rfl⟩
   have hrl:r.length=(Bs p.decls e.num).length:=by rw[hks]at h1;simp at h1;omega
   have hma:a∈e.kids:=by rw[hks];simp
   obtain⟨a1,a2,a3⟩:=H v a (V.CZ.kids a hma) (DG hma) (V.I1 hma) V.H7;by_cases hta:T v a=e.num
   ·have q:=mv a r hks h0 hrl hta;rw[hB0]at q;exact⟨a,r,hks,h0,hrl,hta,by simpa using q⟩
   ·exfalso;have g0:Sh.get e.kids 0=some a:=by rw[hks];rfl
    rw[g0]at hB;simp only[jd]at hB;rw[a2]at hB;simp[h0,h1',hta]at hB;exact ht hB.symm
  ·have h1':¬ ((e.kids.length:Int)=1+((Bs p.decls e.num).length:Int)):=by omega
   simp[h0,h1']at hB;exact absurd hB.symm ht
theorem SX {l:List Int}{t:Int}(h:t=LJ l)(ht:t≠-1):∀x∈l,x=t:=by
 cases l with
 | nil=>intro x hx;cases hx
 | cons a r=>
  simp only[LJ]at h;by_cases hr:r.all (λx=>decide (x=a))=true
  ·rw[jm hr]at h;intro x hx;rcases js.1 hx with rfl|hx
   ·exact h.symm
   ·have:=jq.1 hr x hx;simp only[jw]at this;rw[this,h]
  ·rw[jn hr]at h;exact absurd h ht
def He (D:List AM)(o nu:Int)(i:Nat):Nat:=if o=13/\i=1 then 1 else if o=8/\0<i then (FZ D (((Bs D nu)[i-1]?).getD 0)).length else 0
theorem Rg {e':AE}{v':List Int}(H:KX p (Ev p) R1 R2 T (en e))(H':KX p (Ev p) R1 R2 T (en e'))(V:IB p e v)(V':IB p e' v')(S:Ek p.decls p.funcs)(hN:2000000<=N){t:Int}(hB:Ao N R2 v (Ev p) e=some t)(ht:t≠-1)
  (ho:e'.op=e.op) (hn:e'.num=e.num) (h12:e.op≠12) (hl:e'.kids.length=e.kids.length)
  (hf :∀(i:Nat) k k',e.kids[i]?=some k->e'.kids[i]?=some k'->∀m:List Int,m.length=He p.decls e.op e.num i->m.length<=3->(∀x∈m,DJ p.decls x=true)->T (v++m) k≠-1->T (v'++m) k'=T (v++m) k) :
  Ao N R2 v' (Ev p) e'=some t:=by
 have hf0:∀(i:Nat) k k',e.kids[i]?=some k->e'.kids[i]?=some k'->He p.decls e.op e.num i=0->T v k≠-1->T v' k'=T v k:=λi k k' hk hk' hx h=>by
  have:=hf i k k' hk hk' [] (by rw[hx];rfl) (by simp) (λx hx=>(by cases hx)) (by simpa using h);simpa using this
 by_cases h13:e.op=13
 ·obtain⟨a,b,q1,q2,q3,q4,q5⟩:=Uh H V h13 hB ht;obtain⟨a',b',hk'⟩ :∃a' b',e'.kids=[a',b']:=by
   match hq:e'.kids,hl with
   | [a',b'],_=>exact⟨a',b',rfl⟩
   | [],hl=>rw[q1]at hl;simp at hl
   | [_],hl=>rw[q1]at hl;simp at hl
   | _::_::_::_,hl=>rw[q1]at hl;simp at hl
  have e1:=hf0 0 a a' (by rw[q1];rfl) (by rw[hk'];rfl) (by simp[He,h13]) q3;have e2:=hf 1 b b' (by rw[q1];rfl) (by rw[hk'];rfl) [T v a] (by simp[He,h13]) (by simp) (by simp[q4]) (by rw[<- q5];exact ht);have:=(Vi (N:=N) H' V' (by rw[ho];exact h13) hk' (by rw[hn];exact q2) (by rw[e1];exact q3)).1;rw[this,e1,e2,<- q5]
 by_cases h7:e.op=7
 ·obtain⟨a,b,c,q1,q2,q3,q4,q5⟩:=Ua H V hN h7 hB ht;obtain⟨a',b',c',hk'⟩ :∃a' b' c',e'.kids=[a',b',c']:=by
   match hq:e'.kids,hl with
   | [a',b',c'],_=>exact⟨a',b',c',rfl⟩
   | [],hl=>rw[q1]at hl;simp at hl
   | [_],hl=>rw[q1]at hl;simp at hl
   | [_,_],hl=>rw[q1]at hl;simp at hl
   | _::_::_::_::_,hl=>rw[q1]at hl;simp at hl
  have hx:∀i,He p.decls e.op e.num i=0:=λi=>by simp[He,h7]
  have e1:=hf0 0 a a' (by rw[q1];rfl) (by rw[hk'];rfl) (hx _) (by rw[q3];omega);have e2:=hf0 1 b b' (by rw[q1];rfl) (by rw[hk'];rfl) (hx _) (by rw[<- q4];exact ht);have e3:=hf0 2 c c' (by rw[q1];rfl) (by rw[hk'];rfl) (hx _) (by rw[<- q5];exact ht);have:=bP H' V' hN (by rw[ho];exact h7) hk' (by rw[hn];exact q2) (by rw[e1];exact q3);rw[this,e2,e3,<- q4,<- q5,S4,jm rfl]
 by_cases h8:e.op=8
 ·obtain⟨a,r,q1,q2,q3,q4,q5⟩:=Jy H V S hN h8 hB ht;have hnum:e.num≠-1:=λq=>q2 (by rw[q];simp[Bs]);obtain⟨a',r',hk'⟩ :∃a' r',e'.kids=a'::r':=by
   match hq:e'.kids,hl with
   | a'::r',_=>exact⟨a',r',rfl⟩
   | [],hl=>rw[q1]at hl;simp at hl
  have hrl:r'.length=r.length:=by rw[hk',q1]at hl;simpa using hl
  have e1:=hf0 0 a a' (by rw[q1];rfl) (by rw[hk'];rfl) (by simp[He,h8]) (by rw[q4];exact hnum);have:=VY H' V' S hN (by rw[ho];exact h8) hk' (by rw[hn];exact q2) (by rw[hn,hrl];exact q3) (by rw[hn,e1];exact q4);rw[this,hn,q5];have al:=SX q5 ht;congr 2;unfold Yv at al⊢;apply lk;intro i;rw[lO,lO,ji];cases hc:(Bs p.decls e.num)[i]? with
  | none=>rfl
  | some c=>
   cases hr:r[i]? with
   | none=>
    have:r'[i]?=none:=by rw[mE]at hr⊢;omega
    rw[this];rfl
   | some k=>
    have hil:=(jg.1 hr).1;have hr':r'[i]?=some r'[i]:=jl (by omega);have hcm:=je hc;have F:=Mz S hcm hN;have:=al (T (v++FZ p.decls c) k) (jz.2 ⟨i,by rw[lO,ji,hc,hr];rfl⟩);have g:=hf (i+1) k r'[i] (by rw[q1];exact hr) (by rw[hk'];exact hr') (FZ p.decls c) (by simp[He,h8,hc]) F.2.2.1 F.2.2.2 (by rw[this];exact ht);rw[hr'];show some (T (v'++FZ p.decls c) r'[i])=some (T (v++FZ p.decls c) k);rw[g]
 have hb:=hB;rw[FN H V hN h12 h13 h7 h8]at hb;rw[FN H' V' hN (by rw[ho];exact h12) (by rw[ho];exact h13) (by rw[ho];exact h7) (by rw[ho];exact h8),ho,hn];have:e'.kids.map (T v')=e.kids.map (T v):=by
  apply lk;intro i;rw[ji,ji];cases hk:e.kids[i]? with
  | none=>
   have:e'.kids[i]?=none:=by rw[mE]at hk⊢;omega
   rw[this];rfl
  | some k=>
   have hil:=(jg.1 hk).1;have hk':e'.kids[i]?=some e'.kids[i]:=jl (by omega);rw[hk'];have:=hf0 i k _ hk hk' (by simp[He,h13,h8]) λq=>by
    rw[jm (mG.2 ⟨T v k,lD (je hk),by rw[q];rfl⟩)]at hb;simp at hb;exact ht hb.symm
   show some (T v' e'.kids[i])=some (T v k);rw[this]
 rw[this];exact hb
end
end RC
namespace RC
open Go
structure VX (p:AP) (e:AE) (v:List Int):Prop where
 len:v.length+3*en e<=900
 H7 :∀x∈v,DJ p.decls x=true
 CZ:An e
theorem VX.Ng {p:AP}{e:AE}{v:List Int}(V:VX p e v):IB p e v:=⟨by have:=V.len;omega,V.H7,by have:=V.len;omega,V.CZ⟩
def TX (p:AP)(N:Nat)(T:List Int->AE->Int):Prop:=∀(v:List Int) (e:AE),An e->en e<340->v.length+3*en e<=1000->(∀x∈v,DJ p.decls x=true)->
  ∀n1 n2,340<=n1->340<=n2->Cx N n1 p v e=some (T v e)/\Bq N n2 v (Ev p) e=some (T v e)/\(T v e=-1∨DJ p.decls (T v e)=true)
section
variable {p : AP} {N : Nat} {T : List Int -> AE -> Int} {e : AE} {v : List Int}
theorem TX.tok (hT:TX p N T){m:Nat}(hm:m<=340):KX p (Ev p) (Cx N 340) (Bq N 340) T m:=λv e a b c d=>hT v e a (by omega) c d 340 340 (jv _) (jv _)
theorem TX.bi (hT:TX p N T)(V:VX p e v):Ao N (Bq N 340) v (Ev p) e=some (T v e):=by
 have h:=V.len;have:=(hT v e V.CZ (by omega) (by omega) V.H7 341 341 (by omega) (by omega)).2.1;rwa [Bq]at this
theorem TX.bs (hT:TX p N T)(V:VX p e v):Bp N (Cx N 340) p v e=some (T v e):=by
 have h:=V.len;have:=(hT v e V.CZ (by omega) (by omega) V.H7 341 341 (by omega) (by omega)).1;rwa [Cx]at this
theorem TX.ty (hT:TX p N T)(V:VX p e v)(h:T v e≠-1):DJ p.decls (T v e)=true:=by
 have h1:=V.len;exact ((hT v e V.CZ (by omega) (by omega) V.H7 341 341 (by omega) (by omega)).2.2).resolve_left h
theorem TX.H (hT:TX p N T)(V:VX p e v):KX p (Ev p) (Cx N 340) (Bq N 340) T (en e):=hT.tok (by have:=V.len;omega)
theorem VX.I1 (V:VX p e v){k:AE}(hk:k∈e.kids){m:List Int}(hm:m.length<=3)(ht :∀x∈m,DJ p.decls x=true):VX p k (v++m):=by
 have h:=V.len;have hke:=DG hk;refine⟨by rw[kD];omega,λx hx=>?_,V.CZ.kids k hk⟩;rcases kJ.1 hx with hx|hx
 ·exact V.H7 x hx
 ·exact ht x hx
theorem VX.gB (V:VX p e v){k:AE}(hk:k∈e.kids):VX p k v:=by
 have:=V.I1 hk (m:=[]) (by simp) (λx hx=>by cases hx);simpa using this
theorem TX.var (hT:TX p N T)(V:VX p e v)(h:e.op=12):T v e=if e.kids=[]/\0<=e.num/\e.num<(v.length:Int) then (v[e.num.toNat]?).getD (-1) else -1:=by
 have q:=hT.bi V;unfold Ao at q;simp only[h,jx,kO]at q;by_cases hk:e.kids=[]
 ·rw[hk]at q⊢;by_cases h0:e.num<0
  ·have:¬ (0<=e.num):=by omega
   simp[AN,h0]at q;simp[this,<- q]
  ·by_cases h1:(v.length:Int)<=e.num
   ·have:¬ (e.num<(v.length:Int)):=by omega
    simp[AN,h0,h1]at q;simp[this,<- q]
   ·obtain⟨x,hx1,hx2⟩:=PK (l:=v) (j:=e.num) (by omega) (by omega);have a1:0<=e.num:=by omega
    have a2:e.num<(v.length:Int):=by omega
    simp only[AN,lE,h0,h1,kA,jk,kH,jd]at q;rw[hx1]at q;rw[jm ⟨rfl,a1,a2⟩,hx2];simpa using q.symm
 ·have:0<Sh.len e.kids:=by rw[AN];have:=nE.2 hk;omega
  simp only[this,jx,kO,jd,jh]at q;simp[hk,<- q]
end
mutual
def sh (n k:Int):AE->AE|.mk o nu ks=>.mk o (if o=12/\n<=nu then nu+k else nu) (shl n k ks)
def shl (n k:Int):List AE->List AE|[]=>[]|e::l=>sh n k e::shl n k l
end
theorem bG {n k:Int}:∀l,shl n k l=l.map (sh n k)
 | []=>by simp[shl]
 | e::l=>by simp[shl,bG l]
theorem Sf {n k:Int}(e:AE):sh n k e=.mk e.op (if e.op=12/\n<=e.num then e.num+k else e.num) (e.kids.map (sh n k)):=by cases e;simp only[sh,bG];rfl
theorem PL {n k:Int}(e:AE):(sh n k e).op=e.op:=by rw[Sf];rfl
theorem Pz {n k:Int}(e:AE):(sh n k e).num=if e.op=12/\n<=e.num then e.num+k else e.num:=by rw[Sf];rfl
theorem L5 {n k:Int}(e:AE):(sh n k e).kids=e.kids.map (sh n k):=by rw[Sf];rfl
mutual
theorem ZZ {n k:Int}:∀e,en (sh n k e)=en e
 | .mk o nu ks=>by simp only[sh,en,Yg ks]
theorem Yg {n k:Int}:∀l,CK (shl n k l)=CK l
 | []=>rfl
 | e::l=>by simp only[shl,CK,ZZ e,Yg l]
end
section
variable {p : AP} {N : Nat} {T : List Int -> AE -> Int}
theorem dw (S:Ek p.decls p.funcs)(hN:2000000<=N)(hT:TX p N T)(v d:List Int)(hd :∀x∈d,DJ p.decls x=true):∀(c:Nat) (e:AE) (w:List Int),en e<=c->VX p e (v++w)->v.length+d.length+w.length+3*en e<=900->T (v++w) e≠-1->
  T (v++d++w) (sh v.length d.length e)=T (v++w) e/\An (sh v.length d.length e):=by
 intro c
 induction c with
 | zero=>intro e w h;have:=G6 e;omega
 | succ c ih=>
  intro e w hc V hl ht;have K:∀k∈e.kids,An (sh v.length d.length k):=λk hk=>by
   obtain⟨m,m1,m2,m3⟩:=eH (hT.H V) V.Ng S hN (hT.bi V) ht k hk;have hke:=DG hk;have:=ih k (w++m) (by omega) (by rw[<- lG];exact V.I1 hk m1 m2) (by simp;omega) (by rw[<- lG];exact m3);exact this.2
  have hI:=V.CZ;have Vt:∀x∈v++d++w,DJ p.decls x=true:=λx hx=>by
   rcases kJ.1 hx with hx|hx
   ·rcases kJ.1 hx with hx|hx
    ·exact V.H7 x (by simp[hx])
    ·exact hd x hx
   ·exact V.H7 x (by simp[hx])
  have CZ:An (sh v.length d.length e):=by
   have hop:=hI.op;have hnum:=hI.num;have hkl:=hI.LB;refine .mk (by rw[PL];exact hop) ?_ (by rw[L5];simpa using hkl) (λk hk=>?_)
   ·rw[Pz];by_cases h12:e.op=12
    ·have q:=hT.var V h12;by_cases hr:e.kids=[]/\0<=e.num/\e.num<((v++w).length:Int)
     ·have hlv:=V.len;split
      ·have h1:=hr.2.2;have h2:=hr.2.1;unfold Gu at *;omega
      ·exact hnum
     ·rw[jn hr]at q;exact absurd q ht
    ·rw[jn (λh=>h12 h.1)];exact hnum
   ·rw[L5]at hk;obtain⟨k0,hk0,rfl⟩:=kC.1 hk;exact K k0 hk0
  have V':VX p (sh v.length d.length e) (v++d++w):=⟨by rw[ZZ];simp;omega,Vt,CZ⟩
  refine⟨?_,CZ⟩;by_cases h12:e.op=12
  ·have q:=hT.var V h12;have q':=hT.var V' (by rw[PL];exact h12);by_cases hr:e.kids=[]/\0<=e.num/\e.num<((v++w).length:Int)
   ·obtain⟨r1,r2,r3⟩:=hr;rw[jm ⟨r1,r2,r3⟩]at q;rw[q,q'];rw[L5,Pz,r1,lV];simp only[h12,true_and];simp only[kD]at r3;by_cases hv:(v.length:Int)<=e.num
    ·rw[jm hv,jm ⟨by omega,by simp only[kD];omega⟩];have e1:(e.num+(d.length:Int)).toNat=e.num.toNat+d.length:=by omega
     rw[e1,jt (by simp;omega),jt (by omega)];congr 2;simp;omega
    ·rw[jn hv,jm ⟨by omega,by simp only[kD];omega⟩];rw[lG,jr (by omega),jr (by omega)]
   ·rw[jn hr]at q;exact absurd q ht
  ·have hB:=Rg (e':=sh v.length d.length e) (v':=v++d++w) (hT.H V) (hT.H V') V.Ng V'.Ng S hN (hT.bi V) ht (PL e) (by rw[Pz,jn (λh=>h12 h.1)]) h12 (by rw[L5];simp) (λi k k' hk hk' m _ hm3 hmt hkt=>by
    rw[L5,ji,hk]at hk';obtain rfl:sh v.length d.length k=k':=by simpa using hk'
    have hkm:=je hk;have hke:=DG hkm;rw[lG v w m]at hkt⊢;rw[lG (v++d) w m];exact (ih k (w++m) (by omega) (by rw[<- lG];exact V.I1 hkm hm3 hmt) (by simp;omega) hkt).1)
   have:=hT.bi V';rw[hB]at this;exact (lT this).symm
def lt (n:Nat):Nat->List AE->AE->AE
 | _,[],b=>b
 | k,x::r,b=>.mk 13 0 [sh n k x,lt n (k+1) r b]
theorem aY {n:Nat}:∀(xs:List AE) (k:Nat) (b:AE),en (lt n k xs b)=xs.length+CK xs+en b
 | [],k,b=>by simp[lt,CK]
 | x::r,k,b=>by
  simp only[lt,en,CK,ZZ,aY r,kQ];omega
theorem dB (S:Ek p.decls p.funcs)(hN:2000000<=N)(hT:TX p N T)(v:List Int)(hv :∀x∈v,DJ p.decls x=true):∀(xs:List AE) (d:List Int) (b:AE),(∀x∈d,DJ p.decls x=true)->v.length+d.length+3*(xs.length+CK xs+en b)<=900->(∀x∈xs,An x/\T v x≠-1)->An b->
  T (v++d) (lt v.length d.length xs b)=T (v++d++xs.map (T v)) b/\An (lt v.length d.length xs b)
 | [],d,b,_,_,_,hb=>by simp[lt,hb]
 | x::r,d,b,hd,hl,hx,hb=>by
  obtain⟨x1,x2⟩:=hx x (by simp);simp only[kQ,CK]at hl;have hep:=G6 x;have Vx:VX p x (v++[]):=⟨by simp;omega,by simpa using hv,x1⟩
  have s:=dw S hN hT v d hd (en x) x [] (jv _) Vx (by simp;omega) (by simpa using x2);rw[ky,ky]at s;have htx:DJ p.decls (T v x)=true:=by
   have:=hT.ty Vx (by simpa using x2);simpa using this
  have hd' :∀y∈d++[T v x],DJ p.decls y=true:=λy hy=>by
   rcases kJ.1 hy with hy|hy
   ·exact hd y hy
   ·simp only[jy]at hy;rw[hy];exact htx
  have r1:=dB S hN hT v hv r (d++[T v x]) b hd' (by simp;omega) (λy hy=>hx y (by simp[hy])) hb;rw[kD,List.length_singleton]at r1;have CZ:An (lt v.length d.length (x::r) b):=by
   refine .mk (show Gu 13 by unfold Gu;omega) (show Gu 0 by unfold Gu;omega) (by simp[lt,AE.kids]) (λk hk=>?_);simp only[lt,AE.kids,js,kN,kx]at hk;rcases hk with rfl|rfl
   ·exact s.2
   ·exact r1.2
  have hen:=aY (n:=v.length) (x::r) d.length b;simp only[kQ,CK]at hen;have V:VX p (lt v.length d.length (x::r) b) (v++d):=⟨by rw[hen,kD];omega,λy hy=>by
   rcases kJ.1 hy with hy|hy
   ·exact hv y hy
   ·exact hd y hy,CZ⟩
  refine⟨?_,CZ⟩;have q:=(Vi (N:=N) (hT.H V) V.Ng rfl (a:=sh v.length d.length x) (b:=lt v.length (d.length+1) r b) rfl rfl (by rw[s.1];exact x2)).1;rw[hT.bi V]at q;rw[lT q,s.1];have:=r1.1;rw[<- lG]at this;rw[this];simp
end
end RC
namespace RC
open Go
def WN (x:Int):Int:=if x < -999 then -999 else if 999<x then 999 else x
def V5 (o a b:Int):Int:=if o=1 then WN (a+b) else if o=2 then WN (a-b) else if o=3 then WN (a*b) else if a<b then 1 else 0
def ci (D:List AM)(t c:Int):Nat:=(c-(nc (D.take (t-1).toNat):Int)).toNat
def Hc (D:List AM)(n:Nat)(o nu:Int)(l:List AE):AE:=
 if o=1∨o=2∨o=3∨o=4 then
  match l with
  | a::b::_=>if a.op=0/\b.op=0 then .mk 0 (V5 o a.num b.num) [] else .mk o nu l
  | _=>.mk o nu l
 else if o=7 then
  match l with
  | a::b::c::_=>if a.op=0 then (if a.num=0 then c else b) else .mk o nu l
  | _=>.mk o nu l
 else if o=8 then
  match l with
  | a::r=>if a.op=6 then (match r[ci D nu a.num]? with|some b=>lt n 0 a.kids b|none=>.mk o nu l) else .mk o nu l
  | _=>.mk o nu l
 else .mk o nu l
mutual
def fd (D:List AM)(n:Nat):AE->AE
 | .mk o nu k=>Hc D n o nu (KZ D n o nu 0 k)
def KZ (D:List AM)(n:Nat)(o nu:Int):Nat->List AE->List AE
 | _,[]=>[]
 | i,e::l=>fd D (n+He D o nu i) e::KZ D n o nu (i+1) l
end
theorem Xn {D:List AM}{n:Nat}(e:AE):fd D n e=Hc D n e.op e.num (KZ D n e.op e.num 0 e.kids):=by cases e;rw[fd];rfl
theorem Rb {D:List AM}{n:Nat}{o nu:Int}:∀(l:List AE) (i:Nat),(KZ D n o nu i l).length=l.length
 | [],_=>rfl
 | e::l,i=>by simp[KZ,Rb l]
theorem Nd {D:List AM}{n:Nat}{o nu:Int}:∀(l:List AE) (j i:Nat),(KZ D n o nu j l)[i]?=(l[i]?).map (fd D (n+He D o nu (j+i)))
 | [],j,i=>by simp[KZ]
 | e::l,j,0=>by simp[KZ]
 | e::l,j,i+1=>by
  simp only[KZ,kT];rw[Nd l (j+1) i,show j+1+i=j+(i+1) by omega]
theorem fG (x:Int):-999<=WN x/\WN x<=999:=by unfold WN;split<;>(try split)<;>omega
theorem fK (o a b:Int):-999<=V5 o a b/\V5 o a b<=999:=by
 unfold V5
 repeat' split
 all_goals first|exact fG _|omega
theorem YX:∀(D:List AM) (k c t:Nat) (x:Db),Gb D k c=some (t,x)->∃d i,D[t-1-k]?=some d/\d.cons[i]?=some x/\c=nc (D.take (t-1-k))+i/\k<t
 | [],k,c,t,x,h=>by simp[Gb]at h
 | d::r,k,c,t,x,h=>by
  unfold Gb at h;cases hx:d.cons[c]? with
  | some y=>
   rw[hx]at h;simp only[jh,nA]at h;obtain⟨rfl,rfl⟩:=h;refine⟨d,c,by simp,hx,?_,by omega⟩;rw[show k+1-1-k=0 by omega];simp[nc]
  | none=>
   rw[hx]at h;have hc:d.cons.length<=c:=by simpa using hx
   obtain⟨d',i,h1,h2,h3,h4⟩:=YX r (k+1) (c-d.cons.length) t x h;have e:t-1-k=(t-1-(k+1))+1:=by omega
   refine⟨d',i,by rw[e];simpa using h1,h2,?_,by omega⟩;rw[e,List.take_succ_cons];simp only[nc,kI,mM]at h3⊢;omega
theorem TQ {D:List AM}{c t:Nat}{x:Db}(h:Gb D 0 c=some (t,x)):(Bs D (t:Int))[ci D (t:Int) (c:Int)]?=some (c:Int)/\nc (D.take (t-1))+ci D (t:Int) (c:Int)=c:=by
 obtain⟨d,i,h1,h2,h3,h4⟩:=YX D 0 c t x h;rw[nH]at h1 h3;have hil:=(jg.1 h2).1;have htl:=(jg.1 h1).1;have e:((t:Int)-1).toNat=t-1:=by omega
 have eci:ci D (t:Int) (c:Int)=i:=by unfold ci;rw[e];omega
 refine⟨?_,by rw[eci];omega⟩;rw[eci];unfold Bs;rw[jm ⟨by omega,by omega⟩,e,h1,ji];simp only[mC];rw[lN hil];show some ((nc (D.take (t-1)):Int)+(i:Int))=_;congr 1;omega
theorem XV {D:List AM}{t:Int}{i j:Nat}{c:Int}(h1:(Bs D t)[i]?=some c)(h2:(Bs D t)[j]?=some c):i=j:=by
 unfold Bs at h1 h2;split at h1
 ·rename_i h;rw[jm h]at h2;rw[ji,jo]at h1 h2;obtain⟨a,ha,h1⟩:=h1;obtain⟨b,hb,h2⟩:=h2;have ha1:=(jg.1 ha).1;have hb1:=(jg.1 hb).1;rw[nQ]at ha1 hb1;rw[lN ha1]at ha;rw[lN hb1]at hb;cases ha;cases hb;omega
 ·simp at h1
section
variable {p : AP} {N : Nat} {T : List Int -> AE -> Int} {e : AE} {v : List Int}
theorem Ur (S:Ek p.decls p.funcs)(hN:2000000<=N)(hT:TX p N T)(V:VX p e v)(h:e.op=6)(ht:T v e≠-1):
  ∃(c t:Nat) (x:Db),e.num=(c:Int)/\Gb p.decls 0 c=some (t,x)/\T v e=(t:Int)/\e.kids.map (T v)=x.fields/\FZ p.decls (c:Int)=x.fields/\c<nc p.decls:=by
 have hD:=S.Ms;have hn:=S.nc;have q:=hT.bs V;unfold Bp at q;simp only[h,Int.reduceEq,jx,kA,jk,kO,kH,jd]at q;by_cases hr:0<=e.num/\e.num<(nc p.decls:Int)
 ·obtain⟨c,hc⟩:=kZ hr.1;have hc2:c<nc p.decls:=by omega
  obtain⟨t,x,e1,e2⟩:=Kk (D:=p.decls) (by omega) (by omega) hc2 hN;obtain⟨t',x',e1',e3⟩:=G3 (D:=p.decls) (by omega) (by omega) hc2 hN;rw[e1]at e1';cases e1';obtain⟨g1,g2,d,g3,g4⟩:=Kn e1;rw[hc,e2,e3]at q;simp only[jd]at q;rw[Ps (hT.H V) V.Ng hN,jm (by simp;omega)]at q;by_cases b:e.kids.map (T v)=x.fields
  ·simp[b,Sh.cont]at q;exact⟨c,t,x,hc,e1,q.symm,b,by simp[FZ,e1],hc2⟩
  ·simp[b,Sh.cont]at q;exact absurd q.symm ht
 ·rw[Mu (by omega) (by omega) (by omega) hN]at q;simp[Sh.cont]at q;exact absurd q.symm ht
theorem eu (hN:2000000<=N)(hT:TX p N T){z:Int}(h:-999<=z/\z<=999)(hv:v.length<=894)(hvt :∀x∈v,DJ p.decls x=true):T v (.mk 0 z [])=0/\An (.mk 0 z []):=by
 have CZ:An (.mk 0 z []):=.mk (show Gu 0 by unfold Gu;omega) (show Gu z by unfold Gu;omega) (by simp[AE.kids]) (λk hk=>by simp[AE.kids]at hk);have V:VX p (.mk 0 z []) v:=⟨by simp[en,CK];omega,hvt,CZ⟩
 have q:=hT.bs V;unfold Bp at q;simp only[AE.op,AE.kids,AE.num,Int.reduceEq,jx,kO,AN,lE,jd]at q;rw[Es]at q;simp[h.1,h.2,Sh.cont]at q;exact⟨q.symm,CZ⟩
theorem Uj (hN:2000000<=N)(hT:TX p N T)(V:VX p e v)(h:e.op=1∨e.op=2∨e.op=3∨e.op=4)(ht:T v e≠-1):T v e=0/\∃a b,e.kids=[a,b]:=by
 have q:=hT.bs V;have h0:¬ e.op=0:=by omega
 have h12:¬ e.op=12:=by omega
 have hor:(if decide (e.op=1)=true then some true else if decide (e.op=2)=true then some true else if decide (e.op=3)=true then some true else some (decide (e.op=4)))=some true:=by
  rcases h with h|h|h|h<;>simp[h]
 unfold Bp at q;simp only[h0,h12,kA,jk,kH]at q;rw[hor]at q;simp only[jd,kO]at q;by_cases hn:e.num=0
 ·simp only[hn,jx,kO]at q;have aq:=PV (hT.H V) V.Ng hN 2;rw[show ((2:Nat):Int)=2 from rfl]at aq;rw[aq]at q;by_cases hk:e.kids.map (T v)=List.replicate 2 0
  ·simp[hk,Sh.cont]at q;refine⟨q.symm,?_⟩;have:=kf List.length hk
   match hq:e.kids,this with
   | [a,b],_=>exact⟨a,b,rfl⟩
   | [],h=>simp at h
   | [_],h=>simp at h
   | _::_::_::_,h=>simp at h
  ·have hk':¬ e.kids.map (T v)=[0,0]:=hk;simp[hk',Sh.cont]at q;exact absurd q.symm ht
 ·simp[hn,Sh.cont]at q;exact absurd q.symm ht
end
end RC
namespace RC
open Go
theorem fq {D:List AM}{n:Nat}{o nu:Int}{l:List AE}(h3:o=8->∀a∈l,a.op=6->a.kids.length<=3):en (Hc D n o nu l)<=CK l+2:=by
 unfold Hc;split
 ·split
  ·split
   ·simp[en,CK]
   ·rw[en];omega
  ·rw[en];omega
 ·split
  ·split
   ·rename_i a b c r;split
    ·simp only[CK];have:=G6 a;split<;>omega
    ·rw[en];omega
   ·rw[en];omega
  ·split
   ·rename_i h8;split
    ·rename_i a r;split
     ·rename_i ha;split
      ·rename_i b hb;rw[aY];have:=h3 h8 a (by simp) ha;have hbm:=Hy (je hb);have:=Fw a;simp only[CK];omega
      ·rw[en];omega
     ·rw[en];omega
    ·rw[en];omega
   ·rw[en];omega
section
variable {p : AP} {N : Nat} {T : List Int -> AE -> Int}
structure VF (p:AP) (e:AE) (v:List Int):Prop where
 len:v.length+6*en e<=900
 H7 :∀x∈v,DJ p.decls x=true
 CZ:An e
theorem VF.x {e:AE}{v:List Int}(V:VF p e v):VX p e v:=⟨by have:=V.len;omega,V.H7,V.CZ⟩
theorem VF.I1 {e:AE}{v:List Int}(V:VF p e v){k:AE}(hk:k∈e.kids){m:List Int}(hm:m.length<=3)(ht :∀x∈m,DJ p.decls x=true):VF p k (v++m):=by
 have h:=V.len;have hke:=DG hk;exact⟨by rw[kD];omega,(V.x.I1 hk hm ht).H7,V.CZ.kids k hk⟩
theorem PX (S:Ek p.decls p.funcs)(hN:2000000<=N)(hT:TX p N T){e:AE}{v:List Int}(V:VX p e v)(ht:T v e≠-1){i:Nat}{k:AE}(hk:e.kids[i]?=some k):
  ∃m:List Int,m.length=He p.decls e.op e.num i/\m.length<=3/\(∀x∈m,DJ p.decls x=true)/\T (v++m) k≠-1:=by
 have hB:=hT.bi V;have nil:He p.decls e.op e.num i=0->T v k≠-1->∃m:List Int,m.length=He p.decls e.op e.num i/\m.length<=3/\(∀x∈m,DJ p.decls x=true)/\T (v++m) k≠-1:=λhx h=>⟨[],by rw[hx];rfl,by simp,λx hx=>(by cases hx),by simpa using h⟩;by_cases h12:e.op=12
 ·have q:=hT.var V h12;by_cases hr:e.kids=[]/\0<=e.num/\e.num<(v.length:Int)
  ·rw[hr.1]at hk;simp at hk
  ·rw[jn hr]at q;exact absurd q ht
 by_cases h13:e.op=13
 ·obtain⟨a,b,q1,q2,q3,q4,q5⟩:=Uh (hT.H V) V.Ng h13 hB ht;rw[q1]at hk
  match i,hk with
  | 0,hk=>simp at hk;subst hk;exact nil (by simp[He,h13]) q3
  | 1,hk=>simp at hk;subst hk;exact⟨[T v a],by simp[He,h13],by simp,by simp[q4],by rw[<- q5];exact ht⟩
 by_cases h7:e.op=7
 ·obtain⟨a,b,c,q1,q2,q3,q4,q5⟩:=Ua (hT.H V) V.Ng hN h7 hB ht;have hx:He p.decls e.op e.num i=0:=by simp[He,h7]
  rw[q1]at hk
  match i,hk with
  | 0,hk=>simp at hk;subst hk;exact nil hx (by rw[q3];omega)
  | 1,hk=>simp at hk;subst hk;exact nil hx (by rw[<- q4];exact ht)
  | 2,hk=>simp at hk;subst hk;exact nil hx (by rw[<- q5];exact ht)
 by_cases h8:e.op=8
 ·obtain⟨a,r,q1,q2,q3,q4,q5⟩:=Jy (hT.H V) V.Ng S hN h8 hB ht;have hnum:e.num≠-1:=λq=>q2 (by rw[q];simp[Bs]);rw[q1]at hk
  match i,hk with
  | 0,hk=>simp at hk;subst hk;exact nil (by simp[He,h8]) (by rw[q4];exact hnum)
  | i+1,hk=>
   simp only[kT]at hk;have hil:=(jg.1 hk).1;have hc:(Bs p.decls e.num)[i]?=some (Bs p.decls e.num)[i]:=jl (by omega);have F:=Mz S (je hc) hN;have:=SX q5 ht (T (v++FZ p.decls (Bs p.decls e.num)[i]) k) (jz.2 ⟨i,by unfold Yv;rw[lO,ji,hc,hk];rfl⟩);exact⟨_,by simp[He,h8,hc],F.2.2.1,F.2.2.2,by rw[this];exact ht⟩
 rw[FN (hT.H V) V.Ng hN h12 h13 h7 h8]at hB;by_cases h:(e.kids.map (T v)).any (λt=>decide (t<0))=true
 ·rw[jm h]at hB;simp at hB;exact absurd hB.symm ht
 ·exact nil (by simp[He,h13,h8]) λhq=>h (mG.2 ⟨T v k,lD (je hk),by rw[hq];rfl⟩)
theorem fP {e:AE}(h:An e){l:List AE}(hl:l.length=e.kids.length)(hk :∀k∈l,An k):An (.mk e.op e.num l):=
 .mk (show Gu e.op from h.op) (show Gu e.num from h.num) (by show l.length<=_;rw[hl];exact h.LB) hk
theorem fR (S:Ek p.decls p.funcs)(hN:2000000<=N)(hT:TX p N T){v:List Int}{o nu:Int}{l:List AE}(V:VX p (.mk o nu l) v)(hl:v.length+3*(CK l+2)<=900)(ht:T v (.mk o nu l)≠-1):
  T v (Hc p.decls v.length o nu l)=T v (.mk o nu l)/\An (Hc p.decls v.length o nu l):=by
 have same:T v (.mk o nu l)=T v (.mk o nu l)/\An (.mk o nu l):=⟨rfl,V.CZ⟩
 have hlv:=V.len;unfold Hc;by_cases ha:o=1∨o=2∨o=3∨o=4
 ·rw[jm ha];split
  ·split
   ·obtain⟨h1,h2⟩:=eu (v:=v) hN hT (fK o _ _) (by omega) V.H7;exact⟨by rw[h1,(Uj hN hT V ha ht).1],h2⟩
   ·exact same
  ·exact same
 rw[jn ha];by_cases h7:o=7
 ·rw[jm h7];obtain⟨a,b,c,q1,q2,q3,q4,q5⟩:=Ua (hT.H V) V.Ng hN h7 (hT.bi V) ht;have q1:l=[a,b,c]:=q1;subst q1;dsimp only;split
  ·split
   ·exact⟨q5.symm,V.CZ.kids c (by simp[AE.kids])⟩
   ·exact⟨q4.symm,V.CZ.kids b (by simp[AE.kids])⟩
  ·exact same
 rw[jn h7];by_cases h8:o=8
 ·rw[jm h8];obtain⟨a,r,q1,q2,q3,q4,q5⟩:=Jy (hT.H V) V.Ng S hN h8 (hT.bi V) ht;have q1:l=a::r:=q1;subst q1;dsimp only;by_cases h6:a.op=6
  ·rw[jm h6];have hnum:nu≠-1:=λq=>q2 (by show Bs p.decls nu=[];rw[q];simp[Bs]);have q4:T v a=nu:=q4;have Va:VX p a v:=V.gB (by simp[AE.kids]);obtain⟨c,t,x,c1,c2,c3,c4,c5,c6⟩:=Ur S hN hT Va h6 (by rw[q4];exact hnum);obtain⟨d1,d2⟩:=TQ c2;rw[<- c3,q4,<- c1]at d1;have q3:r.length=(Bs p.decls nu).length:=q3;have hil:=(jg.1 d1).1;have hb:r[ci p.decls nu a.num]?=some r[ci p.decls nu a.num]:=jl (by omega);rw[hb];dsimp only;have F:=Mz S (je d1) hN;have tb:=SX q5 ht (T (v++FZ p.decls a.num) r[ci p.decls nu a.num]) (jz.2 ⟨ci p.decls nu a.num,by
    show (List.zipWith _ ((Bs p.decls nu).map (FZ p.decls)) r)[_]?=_;rw[lO,ji,d1,hb];rfl⟩)
   have hbm:=Hy (je hb);have hae:=Fw a;have hfl:a.kids.length=(FZ p.decls a.num).length:=by
    rw[c1,c5,<- c4,kB]
   have hf3:=F.2.2.1;simp only[CK]at hl;have L:=dB S hN hT v V.H7 a.kids [] r[ci p.decls nu a.num] (by simp) (by simp;omega) (λy hy=>⟨Va.CZ.kids y hy,λhq=>by
    have hy2:T v y∈a.kids.map (T v):=lD hy;rw[c4,<- c5,<- c1]at hy2;have:=Ju (F.2.2.2 _ hy2);rw[hq]at this;omega⟩) (V.CZ.kids _ (by simp[AE.kids,je hb]))
   simp only[ky,lE]at L;rw[c4,<- c5,<- c1]at L;exact⟨by rw[L.1,tb],L.2⟩
  ·rw[jn h6];exact same
 ·rw[jn h8];exact same
theorem aI (S:Ek p.decls p.funcs)(hN:2000000<=N)(hT:TX p N T):∀(c:Nat) (e:AE) (v:List Int),en e<=c->VF p e v->T v e≠-1->
  (T v (fd p.decls v.length e)=T v e/\An (fd p.decls v.length e)/\en (fd p.decls v.length e)<=2*en e)/\
  (T v (.mk e.op e.num (KZ p.decls v.length e.op e.num 0 e.kids))=T v e/\VX p (.mk e.op e.num (KZ p.decls v.length e.op e.num 0 e.kids)) v/\CK (KZ p.decls v.length e.op e.num 0 e.kids)<=2*CK e.kids):=by
 intro c
 induction c with
 | zero=>intro e _ h;have:=G6 e;omega
 | succ c ih=>
  intro e v hc V ht;have hlv:=V.len;have K:∀(i:Nat) k,e.kids[i]?=some k->An (fd p.decls (v.length+He p.decls e.op e.num i) k)/\en (fd p.decls (v.length+He p.decls e.op e.num i) k)<=2*en k:=λi k hk=>by
   obtain⟨m,m1,m2,m3,m4⟩:=PX S hN hT V.x ht hk;have hke:=DG (je hk);have:=(ih k (v++m) (by omega) (V.I1 (je hk) m2 m3) m4).1;rw[kD,m1]at this;exact⟨this.2.1,this.2.2⟩
  have hsz:∀(l:List AE) (j:Nat),(∀i k,l[i]?=some k->en (fd p.decls (v.length+He p.decls e.op e.num (j+i)) k)<=2*en k)->CK (KZ p.decls v.length e.op e.num j l)<=2*CK l:=by
   intro l
   induction l with
   | nil=>intro j _;simp[KZ,CK]
   | cons a l ihl=>
    intro j h;have h0:=h 0 a rfl;have h1:=ihl (j+1) (λi k hk=>by have:=h (i+1) k hk;rwa [show j+1+i=j+(i+1) by omega]);simp only[KZ,CK];rw[mA]at h0;omega
  have sz:=hsz e.kids 0 (λi k hk=>by rw[kt];exact (K i k hk).2);have he:=Fw e;have hkk:∀k∈KZ p.decls v.length e.op e.num 0 e.kids,An k:=λk hk=>by
   obtain⟨i,hi⟩:=jz.1 hk;rw[Nd,kt,jo]at hi;obtain⟨k0,hk0,rfl⟩:=hi;exact (K i k0 hk0).1
  have CZ:An (.mk e.op e.num (KZ p.decls v.length e.op e.num 0 e.kids)):=fP V.CZ (Rb _ _) hkk;have V1:VX p (.mk e.op e.num (KZ p.decls v.length e.op e.num 0 e.kids)) v:=⟨by rw[en];omega,V.H7,CZ⟩
  have t1:T v (.mk e.op e.num (KZ p.decls v.length e.op e.num 0 e.kids))=T v e:=by
   by_cases h12:e.op=12
   ·have q:=hT.var V.x h12;have q':=hT.var V1 h12;by_cases hr:e.kids=[]/\0<=e.num/\e.num<(v.length:Int)
    ·have hf:KZ p.decls v.length e.op e.num 0 e.kids=[]:=by rw[hr.1];rfl
     rw[q,q',jm hr];exact jm ⟨hf,hr.2⟩
    ·rw[jn hr]at q;exact absurd q ht
   ·have hB:=Rg (e':=.mk e.op e.num (KZ p.decls v.length e.op e.num 0 e.kids)) (v':=v) (hT.H V.x) (hT.H V1) V.x.Ng V1.Ng S hN (hT.bi V.x) ht rfl rfl h12 (Rb _ _) (λi k k' hk hk' m hm1 hm3 hmt hkt=>by
     have hk':(KZ p.decls v.length e.op e.num 0 e.kids)[i]?=some k':=hk';rw[Nd,kt,hk]at hk';obtain rfl:fd p.decls (v.length+He p.decls e.op e.num i) k=k':=by simpa using hk'
     have hkm:=je hk;have hke:=DG hkm;have:=(ih k (v++m) (by omega) (V.I1 hkm hm3 hmt) hkt).1.1;rwa [kD,hm1]at this)
    have:=hT.bi V1;rw[hB]at this;exact (lT this).symm
  have t2:=fR S hN hT V1 (by omega) (by rw[t1];exact ht);rw[Xn];refine⟨⟨by rw[t2.1,t1],t2.2,?_⟩,t1,V1,sz⟩;have:=fq (D:=p.decls) (n:=v.length) (o:=e.op) (nu:=e.num) (l:=KZ p.decls v.length e.op e.num 0 e.kids) (λh8 a ha h6=>by
   obtain⟨a0,r,q1,q2,q3,q4,q5⟩:=Jy (hT.H V1) V1.Ng S hN h8 (hT.bi V1) (by rw[t1];exact ht);obtain⟨i,hi⟩:=jz.1 ha;obtain⟨m,m1,m2,m3,m4⟩:=PX S hN hT V1 (by rw[t1];exact ht) hi;have Vk:=V1.I1 ha m2 m3;obtain⟨c,t,x,c1,c2,c3,c4,c5,c6⟩:=Ur S hN hT Vk h6 m4;obtain⟨g1,g2,d,g3,g4⟩:=Kn c2;have:=(S.LQ d g3 x g4).1;have h:=kf List.length c4;rw[kB]at h;omega)
  omega
end
end RC
namespace RC
open Go
section
variable {p : AP} {N : Nat} {T : List Int -> AE -> Int}
theorem Yx (hT:TX p N T){e:AE}{v:List Int}(V:VX p e v)(h:e.op=0)(ht:T v e≠-1):-999<=e.num/\e.num<=999:=by
 have q:=hT.bs V;unfold Bp at q;simp only[h,Int.reduceEq,jx,kA,jk,kO,kH]at q;by_cases hk:Sh.len e.kids=0
 ·simp only[hk,jx,kO]at q;rw[Es]at q;by_cases h1:-999<=e.num
  ·by_cases h2:e.num<=999
   ·exact⟨h1,h2⟩
   ·simp[h1,h2,Sh.cont]at q;exact absurd q.symm ht
  ·simp[h1,Sh.cont]at q;exact absurd q.symm ht
 ·simp[hk,Sh.cont]at q;exact absurd q.symm ht
end
theorem XS (x:Int):I8 x=some (WN x):=by
 unfold I8 WN;congr 1;split<;>split<;>(try split)<;>(try split)<;>omega
theorem WJ {o a b:Int}(ho:o=1∨o=2∨o=3∨o=4)(ha:-999<=a/\a<=999)(hb:-999<=b/\b<=999):MY o a b=some (V5 o a b):=by
 have hm:-998001<=a*b/\a*b<=998001:=by
  have h1:(a*b).natAbs<=998001:=by
   rw[Int.natAbs_mul];exact mB (nN (by omega:a.natAbs<=999) (by omega:b.natAbs<=999)) (by decide)
  omega
 unfold MY V5;rcases ho with rfl|rfl|rfl|rfl
 ·simp only[jx,kO];rw[BK (by omega) (by omega),XS];rfl
 ·simp only[Int.reduceEq,jx,kA,jk,kH,kO];rw[BK (by omega) (by omega),XS];rfl
 ·simp only[Int.reduceEq,jx,kA,jk,kH,kO];rw[BK (by omega) (by omega),XS];rfl
 ·simp only[Int.reduceEq,jx,kA,jk,kH,kO,jd];by_cases h:a<b<;>simp[h]
theorem WE {o a b:Int}(ho:o=1∨o=2∨o=3∨o=4)(ha:-999<=a/\a<=999)(hb:-999<=b/\b<=999):MJ o a b=some (V5 o a b):=by
 have hm:-998001<=a*b/\a*b<=998001:=by
  have h1:(a*b).natAbs<=998001:=by
   rw[Int.natAbs_mul];exact mB (nN (by omega:a.natAbs<=999) (by omega:b.natAbs<=999)) (by decide)
  omega
 have a1:¬ a < -999:=by omega
 have a2:¬ 999<a:=by omega
 have b1:¬ b < -999:=by omega
 have b2:¬ 999<b:=by omega
 have cl:∀n:Int,(if 999<(if (-999) > n then (-999) else n) then 999 else (if (-999) > n then (-999) else n))=WN n:=λn=>by
  unfold WN;split<;>split<;>(try split)<;>(try split)<;>omega
 unfold MJ V5;simp only[a1,a2,b1,b2,kA,jk,kH,jd];rcases ho with rfl|rfl|rfl|rfl
 ·simp only[jx,kO,jd];rw[BK (by omega) (by omega),cl]
 ·simp only[Int.reduceEq,jx,kA,jk,kH,kO,jd];rw[BK (by omega) (by omega),cl]
 ·simp only[Int.reduceEq,jx,kA,jk,kH,kO,jd];rw[BK (by omega) (by omega),cl]
 ·simp only[Int.reduceEq,jx,kA,jk,kH,kO];by_cases h:a<b
  ·simp[h]
  ·simp[h]
theorem TJ {N:Nat}(hN:2000000<=N){a b:Int}:∀(n:Nat) (e:AE),en e<=n->en e<=1000->An (sh a b e)->Gs N n e a b=some (sh a b e):=by
 intro n
 induction n with
 | zero=>intro e h;have:=G6 e;omega
 | succ n ih=>
  intro e hn hs hI;have hlen:=Hk e.kids;have he:=Fw e;have hIn:=hI.num;rw[Pz]at hIn;have hIk:=hI.kids;rw[L5]at hIk;rw[Gs];unfold Kx KM;have key:∀(M i:Nat),i<=e.kids.length->e.kids.length-i<M->Eb e.kids a b (Gs N n) M i ((e.kids.map (sh a b)).take i)=some (e.kids.map (sh a b)):=by
   intro M i hi hM;refine Bo e.kids.length (λM i=>Eb e.kids a b (Gs N n) M i ((e.kids.map (sh a b)).take i)=some (e.kids.map (sh a b))) ?_ ?_ hi hM
   ·intro m;rw[Eb,jn (by simp[AN]),kY (by simp)]
   ·intro m i hi ih2;obtain⟨c,hc,hcm⟩:=CF hi;have h1:=Hy hcm;rw[Eb,jm (by simp[AN];omega),BH hc];simp only[jd];rw[ih c (by omega) (by omega) (hIk _ (lD hcm))];simp only[jd];rw[EM _ _ 40 (by simp;omega) (by simp;omega),BK (by omega) (by omega),show ((i:Int)+1)=((i+1:Nat):Int) by omega];simp only[jd];have hm:(e.kids.map (sh a b))[i]?=some (sh a b c):=by rw[ji,hc];rfl
    rw[<- D3 hm];exact ih2
  have:=key N 0 (kE _) (by omega);rw[lF,show ((0:Nat):Int)=0 from rfl]at this;rw[this,Sf];by_cases h:e.op=12
  ·by_cases h2:a<=e.num
   ·have hc:(if e.op=12/\a<=e.num then e.num+b else e.num)=e.num+b:=jm ⟨h,h2⟩;rw[hc]at hIn⊢;simp only[h,h2,jx,kO,jd];rw[BK (by unfold Gu at hIn;omega) (by unfold Gu at hIn;omega)]
   ·have hc:(if e.op=12/\a<=e.num then e.num+b else e.num)=e.num:=jn λq=>h2 q.2;rw[hc];simp[h,h2]
  ·have hc:(if e.op=12/\a<=e.num then e.num+b else e.num)=e.num:=jn λq=>h q.1;rw[hc];simp[h]
theorem VU {N:Nat}(hN:2000000<=N){a b:Int}{e:AE}(hs:en e<=1000)(hI:An (sh a b e)):NC N e a b=some (sh a b e):=by
 unfold NC;exact TJ hN N e (by omega) hs hI
theorem Q6 {N:Nat}(hN:2000000<=N){a b:Int}:∀(n:Nat) (e:AE),en e<=n->en e<=1000->An (sh a b e)->Dz N n e a b=some (sh a b e):=by
 intro n
 induction n with
 | zero=>intro e h;have:=G6 e;omega
 | succ n ih=>
  intro e hn hs hI;have hlen:=Hk e.kids;have he:=Fw e;have hIn:=hI.num;rw[Pz]at hIn;have hIk:=hI.kids;rw[L5]at hIk;rw[Dz];unfold IL;have key:∀(M i:Nat),i<=e.kids.length->e.kids.length-i<M->Cn e a b (Dz N n) M i ((e.kids.map (sh a b)).take i)=some (e.kids.map (sh a b)):=by
   intro M i hi hM;refine Bo e.kids.length (λM i=>Cn e a b (Dz N n) M i ((e.kids.map (sh a b)).take i)=some (e.kids.map (sh a b))) ?_ ?_ hi hM
   ·intro m;rw[Cn,jn (by simp[AN]),kY (by simp)]
   ·intro m i hi ih2;obtain⟨c,hc,hcm⟩:=CF hi;have h1:=Hy hcm;rw[Cn,jm (by simp[AN];omega),BH hc];simp only[jd];rw[ih c (by omega) (by omega) (hIk _ (lD hcm))];simp only[jd];rw[EM _ _ 40 (by simp;omega) (by simp;omega),BK (by omega) (by omega),show ((i:Int)+1)=((i+1:Nat):Int) by omega];simp only[jd];have hm:(e.kids.map (sh a b))[i]?=some (sh a b c):=by rw[ji,hc];rfl
    rw[<- D3 hm];exact ih2
  have:=key N 0 (kE _) (by omega);rw[lF,show ((0:Nat):Int)=0 from rfl]at this;rw[this,Sf];by_cases h:e.op=12
  ·by_cases h2:a<=e.num
   ·have hc:(if e.op=12/\a<=e.num then e.num+b else e.num)=e.num+b:=jm ⟨h,h2⟩;rw[hc]at hIn⊢;simp only[h,h2,jx,kO,jd];rw[BK (by unfold Gu at hIn;omega) (by unfold Gu at hIn;omega)]
   ·have hc:(if e.op=12/\a<=e.num then e.num+b else e.num)=e.num:=jn λq=>h2 q.2;rw[hc];simp[h,h2]
  ·have hc:(if e.op=12/\a<=e.num then e.num+b else e.num)=e.num:=jn λq=>h q.1;rw[hc];simp[h]
theorem TG {N:Nat}(hN:2000000<=N){a b:Int}{e:AE}(hs:en e<=1000)(hI:An (sh a b e)):Gp N e a b=some (sh a b e):=by
 unfold Gp;exact Q6 hN N e (by omega) hs hI
theorem aw {n:Nat}:∀(xs ys:List AE) (k:Nat) (b:AE),lt n k (xs++ys) b=lt n k xs (lt n (k+xs.length) ys b)
 | [],ys,k,b=>by simp[lt]
 | x::xs,ys,k,b=>by
  simp only[nX,lt,aw xs,kQ];rw[show k+1+xs.length=k+(xs.length+1) by omega]
theorem YR {n:Nat}{l:List AE}{i:Nat}{x:AE}(h:l[i]?=some x)(b:AE):lt n 0 (l.take i) (.mk 13 0 [sh n i x,b])=lt n 0 (l.take (i+1)) b:=by
 have hil:=(jg.1 h).1;rw[D3 h,aw,lu,ma (by omega),kt];rfl
theorem MA {N:Nat}(hN:2000000<=N){n:Nat}{l:List AE}(hl :∀(i:Nat) x,l[i]?=some x->en x<=1000/\An (sh n i x)):∀(i:Nat) (b:AE),i<=l.length->Fv N l (n:Int) i b=some (lt n 0 (l.take i) b)
 | 0,b,_=>by rw[Fv,lF];rfl
 | i+1,b,hi=>by
  obtain⟨x,hx,_⟩:=CF (l:=l) (i:=i) (by omega);obtain⟨h1,h2⟩:=hl i x hx;rw[Fv,BH hx];simp only[jd];rw[TG hN h1 h2];simp only[jd];rw[MA hN hl i _ (by omega),YR hx]
theorem T6 {N:Nat}(hN:2000000<=N){n:Nat}{l:List AE}{b:AE}(hll:l.length<=1000)(hl :∀(i:Nat) x,l[i]?=some x->en x<=1000/\An (sh n i x)):KQ N b.kids l b.op b.num (n:Int)=some (lt n 0 l b):=by
 unfold KQ;rw[jm (by omega),<- HR,MA hN hl l.length b (jv _),lM]
theorem Nt {N:Nat}(hN:2000000<=N){n:Nat}{l:List AE}(hll:l.length<=1000)(hl :∀(i:Nat) x,l[i]?=some x->en x<=1000/\An (sh n i x)):∀(i:Nat) (b:AE) (M:Nat),i<=l.length->i<M->Gn N l (n:Int) M ((i:Int)-1) b.op b.num b.kids=some ((lt n 0 (l.take i) b).op,(lt n 0 (l.take i) b).num,(lt n 0 (l.take i) b).kids)
 | 0,b,M,_,hM=>by
  obtain⟨M,rfl⟩ :∃m,M=m+1:=⟨M-1,by omega⟩
  rw[Gn,jn (by simp),lF];rfl
 | i+1,b,M,hi,hM=>by
  obtain⟨M,rfl⟩ :∃m,M=m+1:=⟨M-1,by omega⟩
  obtain⟨x,hx,_⟩:=CF (l:=l) (i:=i) (by omega);obtain⟨h1,h2⟩:=hl i x hx;have e:((i+1:Nat):Int)-1=(i:Int):=by omega
  rw[Gn,e,jm (by simp),BH hx];simp only[jd];rw[VU hN h1 h2];simp only[jd];rw[<- HR,BK (by omega) (by omega)];have:=Nt hN hll hl i (.mk 13 0 [sh n i x,b]) M (by omega) (by omega);rw[YR hx]at this;exact this
theorem WH {N:Nat}(hN:2000000<=N){n:Nat}{l:List AE}{b:AE}(hll:l.length<=1000)(hl :∀(i:Nat) x,l[i]?=some x->en x<=1000/\An (sh n i x)):MF N l b (n:Int)=some (lt n 0 l b):=by
 unfold MF;rw[AN,BK (by omega) (by omega),Nt hN hll hl l.length b N (jv _) (by omega),lM];simp only[jd];rw[<- HR]
theorem cd {l:List Int}{x:Int}(hl:l.length<=1000){N:Nat}(hN:2000000<=N){i:Nat}(hi:l[i]?=some x)(hn :∀j,l[j]?=some x->i=j):Fy N l x=some (i:Int):=by
 have hil:=(jg.1 hi).1;have key:∀(d j M:Nat),j+d=i->d<M->DA l x M (j:Int)=some (.inl (i:Int)):=by
  intro d
  induction d with
  | zero=>
   intro j M hj hM;obtain⟨M,rfl⟩ :∃m,M=m+1:=⟨M-1,by omega⟩
   have:j=i:=by omega
   subst this;rw[DA,jm (by simp[AN];omega),BH hi];simp only[jd];rw[jm (by simp)]
  | succ d ih=>
   intro j M hj hM;obtain⟨M,rfl⟩ :∃m,M=m+1:=⟨M-1,by omega⟩
   obtain⟨y,hy,_⟩:=CF (l:=l) (i:=j) (by omega);have hne:¬ x=y:=λq=>by
    have:=hn j (by rw[hy,q]);omega
   rw[DA,jm (by simp[AN];omega),BH hy];simp only[jd];rw[jn (by simpa using hne),BK (by omega) (by omega),show ((j:Int)+1)=((j+1:Nat):Int) by omega];exact ih (j+1) M (by omega) (by omega)
 have:=key i 0 N (by omega) (by omega);unfold Fy;rw[show ((0:Nat):Int)=0 from rfl]at this;rw[this];rfl
end RC
