import Derived.Test.YtihdgoiebmfapaaGreatGHADefsToFTDefs
set_option linter.all false
namespace RC
open Go
theorem BK {n:Int}(h1:-9223372036854775808<=n)(h2:n<=9223372036854775807):Sh.w n=n:=Abs.wrap_i64 h1 h2
theorem AN {α:Type}(l:List α):Sh.len l=(l.length:Int):=rfl
theorem Nv {α:Type}(l:List α)(i:Nat):Sh.get l (i:Int)=l[i]?:=by
 unfold Sh.get;rw[jm (me i)];simp
theorem BH {α:Type}{l:List α}{i:Nat}{x:α}(h:l[i]?=some x):Sh.get l (i:Int)=some x:=by rw[Nv,h]
theorem PA {α:Type}{l:List α}{j:Int}(h0:0<=j)(h1:j<l.length):∃x,Sh.get l j=some x/\l[j.toNat]?=some x:=by
 have h:l[j.toNat]?=some (l[j.toNat]'(by omega)):=jl (by omega);exact⟨_,by unfold Sh.get;rw[jm h0,h],h⟩
theorem Wx {α:Type}{l:List α}{j:Int}(h0:0<=j):Sh.get l j=l[j.toNat]?:=by unfold Sh.get;rw[jm h0]
theorem PH {α:Type}(l:List α)(i:Nat)(x:α):Sh.put l (i:Int) x=l.set i x:=by simp[Sh.put]
theorem Pf {α:Type}(x:α)(n b:Nat)(h:n*b<=281474976710656)(h2:n<=9223372036854775807):Sh.mk x (n:Int) b=some (List.replicate n x):=by
 unfold Sh.mk;rw[jm ⟨by omega,by rw[<- ng];omega,by omega⟩];simp
theorem EM {α:Type}(l m:List α)(b:Nat)(h:(l.length+m.length)*b<=140737488355328)(h2:l.length+m.length<=9223372036854775807):Sh.app l m b=some (l++m):=by
 unfold Sh.app;rw[jm ⟨h,h2⟩]
theorem dA {α:Type}{l:List α}{j:Nat}(h:j<=l.length):Sh.hi l (j:Int)=some (l.take j):=by
 unfold Sh.hi;rw[jm ⟨by omega,by omega⟩];simp
theorem Bo (len:Nat)(P:Nat->Nat->Prop)(h0 :∀n,P (n+1) len)(hs :∀n i,i<len->P n (i+1)->P (n+1) i):∀{N i:Nat},i<=len->len-i<N->P N i:=by
 intro N i hi hN;obtain⟨k,hk⟩ :∃k,len-i=k:=⟨_,rfl⟩
 induction k generalizing N i with
 | zero=>
  obtain⟨n,rfl⟩ :∃n,N=n+1:=⟨N-1,by omega⟩
  have:i=len:=by omega
  subst this;exact h0 n
 | succ k ih=>
  obtain⟨n,rfl⟩ :∃n,N=n+1:=⟨N-1,by omega⟩
  exact hs n i (by omega) (ih (by omega) (by omega) (by omega))
theorem CF {α:Type}{l:List α}{i:Nat}(h:i<l.length):∃x,l[i]?=some x/\x∈l:=⟨l[i],jl h,mH h⟩
theorem D4 {α:Type}{l:List α}{j:Nat}{x:α}(h:l[j]?=some x):l.take (j+1)=l.take j++[x]:=by rw[List.take_add_one,h];rfl
theorem drop_cons {α:Type}{l:List α}{j:Nat}{x:α}(h:l[j]?=some x):l.drop j=x::l.drop (j+1):=by
 obtain⟨hj,rfl⟩:=jg.1 h;exact List.drop_eq_getElem_cons hj
def dk (h:List Cell):Nat:=(h.map λc=>c.fields.length).sum
def Gh (h:List Cell):Nat:=h.length+dk h
structure Hp (h:List Cell):Prop where
 size:Gh h<=1048576
 cells :∀c∈h,X8 c
theorem cd {h:List Cell}{c:Cell}(hc:c∈h):c.fields.length<=dk h:=by
 induction h with
 | nil=>cases hc
 | cons d h ih=>
  simp only[dk,kI,mM]at ih⊢;rcases js.1 hc with rfl|hc
  ·omega
  ·have:=ih hc;omega
theorem Hp.len {h:List Cell}(H:Hp h):h.length<=1048576:=by have:=H.size;unfold Gh at this;omega
theorem Hp.LN {h:List Cell}(H:Hp h){c:Cell}(hc:c∈h):c.fields.length<=1048576:=by have:=H.size;have:=cd hc;unfold Gh at *;omega
end RC
namespace RC
open Go
def Fq {α:Type}(f:Nat->α->Bool):Nat->List α->Bool
 | _,[]=>true
 | k,x::r=>f k x&&Fq f (k+1) r
theorem Rv {α:Type}{f g:Nat->α->Bool}:∀(l:List α) (k:Nat),(∀(i:Nat) x,l[i]?=some x->f (k+i) x=g (k+i) x)->Fq f k l=Fq g k l
 | [],_,_=>rfl
 | x::r,k,h=>by
  have h0:=h 0 x rfl;rw[mA]at h0;have h1:=Rv r (k+1) λi y hy=>(show k+(i+1)=k+1+i by omega)▸h (i+1) y hy;rw[Fq,Fq,h0,h1]
theorem F7 {α:Type}{p:α->Bool}:∀(l:List α) (k:Nat),Fq (λ_ x=>p x) k l=l.all p
 | [],_=>rfl
 | x::r,k=>by rw[Fq,F7 r (k+1),lx]
theorem FC {α:Type}{l:List α}(L:Nat->Int->Option (Bool ⊕ Unit))(f:Nat->α->Bool)(h0 :∀n,L (n+1) (l.length:Int)=some (.inr ()))
  (hs :∀n (i:Nat) x,l[i]?=some x->L (n+1) (i:Int)=if f i x=true then L n ((i+1:Nat):Int) else some (.inl false)) {N:Nat} (hN:l.length<N) :
  L N 0=some (if Fq f 0 l=true then .inr () else .inl false):=by
 have key:∀{N i:Nat},i<=l.length->l.length-i<N->L N (i:Int)=some (if Fq f i (l.drop i)=true then .inr () else .inl false):=by
  intro N i hi hN;refine Bo l.length (λN i=>L N (i:Int)=some (if Fq f i (l.drop i)=true then .inr () else .inl false)) ?_ ?_ hi hN
  ·intro n;rw[h0 n];simp[Fq]
  ·intro n i hi ih;obtain⟨x,hx,_⟩:=CF hi;rw[hs n i x hx,ih,drop_cons hx,Fq];cases h:f i x<;>simp
 have:=key (kE _) (by omega:l.length-0<N);simpa using this
theorem FD {β:Type}{b:Bool}{g:Bool->β}{K:Unit->Option β}:Sh.cont (some (if b=true then Sum.inr () else Sum.inl false)) g K=if b=true then K () else some (g false):=by
 cases b<;>rfl
theorem Yu {α:Type}{l:List α}{j:Nat}(h:j<=l.length)(h2:l.length<=9223372036854775807):Sh.sl l 0 (j:Int)=some (l.take j):=by
 unfold Sh.sl;rw[jm ⟨by omega,by omega,by omega⟩];simp
end RC
namespace RC
open Go
end RC
namespace RC
open Go
def iL (h:List Cell)(w:Int):Bool:=decide (1000<=w)&&(match h[(w-1000).toNat]? with|some c=>decide (0<c.count)|none=>false)
theorem Ep (a b c:Int):DX a b c=some (decide (b<=a)&&decide (a<=c)):=by
 unfold DX;by_cases h:b<=a<;>simp[h]
end RC
namespace RC
open Go
def DJ (D:List AM)(t:Int):Bool:=decide (0<=t)&&decide (t<=(D.length:Int))
theorem Mt {D:List AM}{x:Int}:DX x 0 (Sh.len D)=some (DJ D x):=by rw[Ep];rfl
theorem Mu {D:List AM}{l:List Int}(hl:l.length<=1048576){N:Nat}(hN:l.length<N):Hk N D l=some (l.all (DJ D)):=by
 unfold Hk;rw[FC (l:=l) (E7 D l) (λ_ x=>DJ D x) (λn=>by rw[E7,jn (by simp[AN])]) (λn i x hx=>?_) hN,FD,F7]
 ·cases l.all (DJ D)<;>rfl
 ·have hi:=(jg.1 hx).1;rw[E7,jm (by simp[AN];omega),BH hx];simp only[jd];rw[Mt,BK (by omega) (by omega),show ((i:Int)+1)=((i+1:Nat):Int) by omega];simp only[jd];cases DJ D x<;>rfl
theorem Jq {D:List AM}{t:Int}:HS D t=some (DJ D t):=by
 unfold HS DJ;by_cases h:0<=t<;>by_cases h2:t<=(D.length:Int)<;>simp[h,h2,AN]
theorem KW {D:List AM}{l:List Int}(hl:l.length<=1048576){N:Nat}(hN:l.length<N):G1 N D l=some (l.all (DJ D)):=by
 unfold G1;rw[FC (l:=l) (E8 D l) (λ_ x=>DJ D x) (λn=>by rw[E8,jn (by simp[AN])]) (λn i x hx=>?_) hN,FD,F7]
 ·cases l.all (DJ D)<;>rfl
 ·have hi:=(jg.1 hx).1;rw[E8,jm (by simp[AN];omega),BH hx];simp only[jd];rw[Jq,BK (by omega) (by omega),show ((i:Int)+1)=((i+1:Nat):Int) by omega];simp only[jd];cases DJ D x<;>rfl
def QT (D:List AM)(c:Db):Bool:=decide (c.fields.length<=3)&&c.fields.all (DJ D)
def Ha (a b:AM):Bool:=decide (a.cons.length=0)&&(decide (a.from_=b.from_)&&decide (a.to=b.to))
def Le (D:List AM)(i:Nat)(d:AM):Bool:=
 if 0<d.cons.length then (decide (d.cons.length<=3)&&(decide (d.from_=0)&&decide (d.to=0)))&&d.cons.all (QT D)
 else (D.take i).all (λe=>!Ha e d)&&(DJ D d.from_&&DJ D d.to)
def Sv (D:List AM)(i:Nat)(d:AM):Bool:=
 ((DJ D d.from_&&(DJ D d.to&&(decide (d.cons.length<=3)&&(!(decide (0<d.cons.length)&&(!decide (d.from_=0) || !decide (d.to=0)))))))&&d.cons.all (QT D))&&(D.take i).all (λe=>!(decide (d.cons.length=0)&&Ha e d))
theorem Zp (D:List AM)(i:Nat)(d:AM):Sv D i d=Le D i d:=by
 unfold Sv Le;by_cases h:0<d.cons.length
 ·have h0:¬ d.cons.length=0:=by omega
  have ha:(D.take i).all (λe=>!(decide (d.cons.length=0)&&Ha e d))=true:=by simp[h0]
  rw[jm h,ha];by_cases h1:d.from_=0<;>by_cases h2:d.to=0<;>simp[h,h1,h2,DJ]
 ·have h0:d.cons.length=0:=by omega
  have hc:d.cons=[]:=ka h0;rw[jn h];simp only[hc,h0,lE,List.all_nil,jx,mz,Bool.and_true];cases DJ D d.from_<;>cases DJ D d.to<;>simp
structure P3 (D:List AM):Prop where
 len:D.length<=1048576
 cons :∀d∈D,d.cons.length<=1048576
 LD :∀d∈D,∀c∈d.cons,c.fields.length<=1048576
theorem RB {D:List AM}(hD:P3 D){i:Nat}{d:AM}(hd:D[i]?=some d){N:Nat}(hN:2000000<=N):IZ N D i=some (Le D i d):=by
 have hm:=je hd;have hi:=(jg.1 hd).1;have hlen:=hD.len;have hc:=hD.cons d hm;unfold IZ Le;rw[BH hd];simp only[jd];by_cases h:0<d.cons.length
 ·rw[jm (by simp[AN];omega),jm h];rw[FC (l:=d.cons) (En N d D) (λ_ c=>QT D c) (λn=>by rw[En,jn (by simp[AN])]) (λn j c hj=>?_) (by omega),FD,F7]
  ·simp only[AN];by_cases h3:d.cons.length<=3
   ·have e3:¬ (3:Int)<(d.cons.length:Int):=by omega
    generalize d.cons.all (QT D)=z;cases z<;>by_cases h1:d.from_=0<;>by_cases h2:d.to=0<;>simp[h1,h2,h3,e3]
   ·have e3:(3:Int)<(d.cons.length:Int):=by omega
    simp[h3,e3]
  ·have zC:=(jg.1 hj).1;have hf:=hD.LD d hm c (je hj);rw[En,jm (by simp[AN];omega),BH hj];simp only[jd];rw[Mu hf (by omega),BK (by omega) (by omega),show ((j:Int)+1)=((j+1:Nat):Int) by omega];unfold QT;by_cases h3:c.fields.length<=3
   ·have e3:¬ (3:Int)<(c.fields.length:Int):=by omega
    simp only[AN];cases c.fields.all (DJ D)<;>simp[h3,e3]
   ·have e3:(3:Int)<(c.fields.length:Int):=by omega
    simp[h3,e3,AN]
 ·have h0:d.cons.length=0:=by omega
  have e0:¬ decide ((0:Int)<Sh.len d.cons)=true:=by rw[AN,h0];simp
  rw[jn e0,jn h];have pG:(D.take i).length=i:=by simp;omega
  rw[FC (l:=D.take i) (Eo d D i) (λ_ e=>!Ha e d) (λn=>by rw[Eo,jn (by simp;omega)]) (λn j e hj=>?_) (by omega),FD,F7]
  ·rw[Mt,Mt];simp only[jd];cases (D.take i).all (λe=>!Ha e d)<;>cases DJ D d.from_<;>simp
  ·have zC:=(jg.1 hj).1;have hje:D[j]?=some e:=by rw[kL]at hj;split at hj<;>first|exact hj|cases hj
   rw[Eo,jm (by simp;omega),BH hje];simp only[jd];rw[BK (by omega) (by omega),show ((j:Int)+1)=((j+1:Nat):Int) by omega];unfold Ha;simp only[AN];by_cases a0:e.cons.length=0<;>by_cases a1:e.from_=d.from_<;>by_cases a2:e.to=d.to<;>simp[a0,a1,a2]
def Mj (D:List AM):Bool:=decide (D.length<=4)&&Fq (Le D) 0 D
theorem QI {D:List AM}(hD:P3 D){N:Nat}(hN:2000000<=N):H0 N D=some (Mj D):=by
 have hlen:=hD.len;unfold H0 Mj;rw[FC (l:=D) (EU N D) (Le D) (λn=>by rw[EU,jn (by simp[AN])]) (λn i d hd=>?_) (by omega),FD]
 ·simp only[AN];by_cases h:D.length<=4
  ·have e4:¬ (4:Int)<(D.length:Int):=by omega
   cases Fq (Le D) 0 D<;>simp[h,e4]
  ·have e4:(4:Int)<(D.length:Int):=by omega
   simp[h,e4]
 ·have hi:=(jg.1 hd).1;rw[EU,jm (by simp[AN];omega),RB hD hd hN];simp only[jd];rw[BK (by omega) (by omega),show ((i:Int)+1)=((i+1:Nat):Int) by omega];cases Le D i d<;>rfl
theorem QM {D:List AM}(hD:P3 D){N:Nat}(hN:2000000<=N):Hj N D=some (Mj D):=by
 have hlen:=hD.len;unfold Hj Mj;rw[<- Rv (f:=Sv D) D 0 (λi d _=>Zp D _ d)];rw[FC (l:=D) (ET N D) (Sv D) (λn=>by rw[ET,jn (by simp[AN])]) (λn i d hd=>?_) (by omega),FD]
 ·simp only[AN];by_cases h:D.length<=4
  ·have e4:¬ (4:Int)<(D.length:Int):=by omega
   cases Fq (Sv D) 0 D<;>simp[h,e4]
  ·have e4:(4:Int)<(D.length:Int):=by omega
   simp[h,e4]
 ·have hi:=(jg.1 hd).1;have hm:=je hd;have hc:=hD.cons d hm;have l2:Dq N d D N 0=some (if d.cons.all (QT D)=true then .inr () else .inl false):=by
   rw[FC (l:=d.cons) (Dq N d D) (λ_ c=>QT D c) (λn=>by rw[Dq,jn (by simp[AN])]) (λn j c hj=>?_) (by omega),F7];have zC:=(jg.1 hj).1;have hf:=hD.LD d hm c (je hj);rw[Dq,jm (by simp[AN];omega),BH hj];simp only[jd];rw[KW hf (by omega),BK (by omega) (by omega),show ((j:Int)+1)=((j+1:Nat):Int) by omega];unfold QT;by_cases h3:c.fields.length<=3
   ·have e3:¬ (3:Int)<(c.fields.length:Int):=by omega
    simp only[AN];cases c.fields.all (DJ D)<;>simp[h3,e3]
   ·have e3:(3:Int)<(c.fields.length:Int):=by omega
    simp[h3,e3,AN]
  have pG:(D.take i).length=i:=by simp;omega
  have l3:Dt d (D.take i) N 0=some (if (D.take i).all (λe=>!(decide (d.cons.length=0)&&Ha e d))=true then .inr () else .inl false):=by
   rw[FC (l:=D.take i) (Dt d (D.take i)) (λ_ e=>!(decide (d.cons.length=0)&&Ha e d)) (λn=>by rw[Dt,jn (by simp[AN])]) (λn j e hj=>?_) (by omega),F7];have zC:=(jg.1 hj).1;rw[Dt,jm (by simp only[AN];simp;omega),BH hj];simp only[jd];rw[BK (by omega) (by omega),show ((j:Int)+1)=((j+1:Nat):Int) by omega];unfold Ha;simp only[AN];by_cases b0:d.cons.length=0<;>by_cases a0:e.cons.length=0<;>by_cases a1:e.from_=d.from_<;>by_cases a2:e.to=d.to<;>simp[a0,a1,a2,b0]
  rw[ET,jm (by simp[AN];omega),BH hd];simp only[jd];rw[Jq,Jq,l2,Yu (by omega) (by omega),BK (by omega) (by omega),show ((i:Int)+1)=((i+1:Nat):Int) by omega];simp only[jd];rw[l3,FD,FD];unfold Sv;simp only[AN];generalize d.cons.all (QT D)=z1;generalize (D.take i).all (λe=>!(decide (d.cons.length=0)&&Ha e d))=z2;by_cases h3:d.cons.length<=3
  ·have e3:¬ (3:Int)<(d.cons.length:Int):=by omega
   by_cases h0:0<d.cons.length
   ·have e0:(0:Int)<(d.cons.length:Int):=by omega
    cases DJ D d.from_<;>cases DJ D d.to<;>cases z1<;>cases z2<;>by_cases h1:d.from_=0<;>by_cases h2:d.to=0<;>simp[h1,h2,h3,e3,h0]
   ·have e0:¬ (0:Int)<(d.cons.length:Int):=by omega
    cases DJ D d.from_<;>cases DJ D d.to<;>cases z1<;>cases z2<;>simp[h3,e3,h0]
  ·have e3:(3:Int)<(d.cons.length:Int):=by omega
   cases DJ D d.from_<;>cases DJ D d.to<;>simp[h3,e3]
end RC
namespace RC
open Go
def LS (ps ls:List Int)(i:Nat)(v:Int):Bool:=
 (decide (0<=v)&&decide (v<(ps.length:Int)))&&(!decide (ps[v.toNat]?=some 0)&&!(decide (0<i)&&decide (v<=(ls[i-1]?).getD 0)))
theorem bZ {ls:List Int}{i:Nat}(h0:0<i)(hi:i<ls.length):∃x,ls[i-1]?=some x/\Sh.get ls (((i:Nat):Int)-1)=some x:=by
 obtain⟨x,hx,_⟩:=CF (l:=ls) (i:=i-1) (by omega);exact⟨x,hx,by rw[show ((i:Int)-1)=((i-1:Nat):Int) by omega,BH hx]⟩
theorem We {c:Bt}(hp:c.params.length<=1048576)(hl:c.Fv.length<=1048576){N:Nat}(hN:2000000<=N):EA c N 0=some (if Fq (LS c.params c.Fv) 0 c.Fv=true then .inr () else .inl false):=by
 refine FC (l:=c.Fv) (EA c) (LS c.params c.Fv) (λn=>by rw[EA,jn (by simp[AN])]) (λn i v hv=>?_) (by omega);have hi:=(jg.1 hv).1;rw[EA,jm (by simp[AN];omega),BH hv];simp only[jd];rw[AN,BK (n:=(i:Int)+1) (by omega) (by omega),BK (n:=(i:Int)-1) (by omega) (by omega),show ((i:Int)+1)=((i+1:Nat):Int) by omega];unfold LS;by_cases h0:0<=v
 ·have sY:¬ v<0:=by omega
  by_cases h1:v<(c.params.length:Int)
  ·have rC:¬ (c.params.length:Int)<=v:=by omega
   obtain⟨d,e1,e2⟩:=PA h0 h1;rw[e1,e2];by_cases hi0:0<i
   ·obtain⟨x,g1,g2⟩:=bZ hi0 hi;rw[g1,g2];by_cases hc:d=0<;>by_cases hx:v<=x<;>simp[h0,sY,h1,rC,hc,hi0,hx]
   ·by_cases hc:d=0<;>simp[h0,sY,h1,rC,hc,hi0]
  ·have rC:(c.params.length:Int)<=v:=by omega
   simp[h0,sY,h1,rC]
 ·have sY:v<0:=by omega
  simp[h0,sY]
def Ng (D:List AM)(ps:List Int)(r:Int):Bool:=decide (ps.length<=3)&&(ps.all (DJ D)&&DJ D r)
theorem TE {p:AP}(hf:p.funcs.length<=1048576)(hp :∀f∈p.funcs,f.params.length<=1048576){N:Nat}(hN:2000000<=N):EG N p N 0=some (if (p.funcs.all λf=>Ng p.decls f.params f.result)=true then .inr () else .inl false):=by
 rw[<- F7 _ 0];refine FC (l:=p.funcs) (EG N p) (λ_ f=>Ng p.decls f.params f.result) (λn=>by rw[EG,jn (by simp[AN])]) (λn i f hi=>?_) (by omega);have rD:=(jg.1 hi).1;have xK:=hp f (je hi);rw[EG,jm (by simp[AN];omega),BH hi];simp only[jd];rw[Mu xK (by omega),Mt,BK (by omega) (by omega),show ((i:Int)+1)=((i+1:Nat):Int) by omega];unfold Ng;simp only[AN];by_cases h3:f.params.length<=3
 ·have e3:¬ (3:Int)<(f.params.length:Int):=by omega
  generalize f.params.all (DJ p.decls)=z;cases z<;>cases DJ p.decls f.result<;>simp[h3,e3]
 ·have e3:(3:Int)<(f.params.length:Int):=by omega
  simp[h3,e3]
theorem Sg {D:List AM}{l:List Bt}(hf:l.length<=1048576)(hp :∀f∈l,f.params.length<=1048576/\f.Fv.length<=1048576){N:Nat}(hN:2000000<=N):EF N D l N 0=some (if (l.all λf=>Ng D f.params f.result&&Fq (LS f.params f.Fv) 0 f.Fv)=true then .inr () else .inl false):=by
 rw[<- F7 _ 0];refine FC (l:=l) (EF N D l) (λ_ f=>Ng D f.params f.result&&Fq (LS f.params f.Fv) 0 f.Fv) (λn=>by rw[EF,jn (by simp[AN])]) (λn i f hi=>?_) (by omega);have rD:=(jg.1 hi).1;have xK:=hp f (je hi);rw[EF,jm (by simp[AN];omega),BH hi];simp only[jd];rw[KW xK.1 (by omega),Jq,We xK.1 xK.2 hN,FD,BK (by omega) (by omega),show ((i:Int)+1)=((i+1:Nat):Int) by omega];unfold Ng;simp only[AN];generalize Fq (LS f.params f.Fv) 0 f.Fv=y;by_cases h3:f.params.length<=3
 ·have e3:¬ (3:Int)<(f.params.length:Int):=by omega
  generalize f.params.all (DJ D)=z;cases z<;>cases DJ D f.result<;>cases y<;>simp[h3,e3]
 ·have e3:(3:Int)<(f.params.length:Int):=by omega
  simp[h3,e3]
end RC
namespace RC
open Go
def Xl (D:List (List Int×Int)):Bool:=match D with|[]=>false|(ps,r)::_=>decide (ps.length=0)&&decide (r=0)
def OH (D:List AM)(l:List (List Int×Int)):Bool:=Mj D&&((decide (1<=l.length)&&decide (l.length<=4))&&(l.all (λs=>Ng D s.1 s.2)&&Xl l))
theorem Q7 {p:AP}(hD:P3 p.decls)(hf:p.funcs.length<=1048576)(hp :∀f∈p.funcs,f.params.length<=1048576){N:Nat}(hN:2000000<=N):HA N p=some (OH p.decls (p.funcs.map λf=>(f.params,f.result))):=by
 unfold HA OH;rw[QI hD hN,TE hf hp hN,FD,Ep];simp only[jd,kB,List.all_map,nP];cases Mj p.decls with
 | false=>simp
 | true=>
  cases hl:p.funcs with
  | nil=>simp[AN]
  | cons f r=>
   have e0:Sh.get (f::r) 0=some f:=rfl;rw[e0];generalize (f::r).all (λf=>Ng p.decls f.params f.result)=z;simp only[kI,Xl];have q1:decide ((1:Int)<=Sh.len (f::r))=true:=decide_eq_true (by rw[AN,kQ];omega);have q2:decide (1<=(f::r).length)=true:=by simp
   have q3:decide (Sh.len (f::r)<=4)=decide ((f::r).length<=4):=mU.2 (by rw[AN];omega);have q4:decide (Sh.len f.params=0)=decide (f.params.length=0):=mU.2 (by rw[AN];omega);simp only[q1,q2,q3,q4,jd];cases decide ((f::r).length<=4)<;>cases z<;>by_cases a1:f.params.length=0<;>by_cases a2:f.result=0<;>simp[a1,a2]
theorem Q1 {D:List AM}{l:List Bt}(hD:P3 D)(hf:l.length<=1048576)(hp :∀f∈l,f.params.length<=1048576/\f.Fv.length<=1048576){N:Nat}(hN:2000000<=N):
  IT N D l=some (OH D (l.map λf=>(f.params,f.result))&&l.all (λf=>Fq (LS f.params f.Fv) 0 f.Fv)):=by
 unfold IT OH;rw[QM hD hN,Sg hf hp hN,FD];have re:(l.all λf=>Ng D f.params f.result&&Fq (LS f.params f.Fv) 0 f.Fv)=((l.all λf=>Ng D f.params f.result)&&(l.all λf=>Fq (LS f.params f.Fv) 0 f.Fv)):=by
  clear hf hp
  induction l with
  | nil=>rfl
  | cons f r ih=>
   simp only[lx,ih];cases Ng D f.params f.result<;>cases Fq (LS f.params f.Fv) 0 f.Fv<;>simp
 rw[re];simp only[jd,kB,List.all_map,nP];cases Mj D with
 | false=>simp
 | true=>
  cases hl:l with
  | nil=>simp[AN]
  | cons f r=>
   have e0:Sh.get (f::r) 0=some f:=rfl;rw[e0];generalize (f::r).all (λf=>Ng D f.params f.result)=z;generalize (f::r).all (λf=>Fq (LS f.params f.Fv) 0 f.Fv)=y;simp only[kI,Xl];have q1:decide (Sh.len (f::r)<1)=false:=decide_eq_false (by rw[AN,kQ];omega);have q2:decide (1<=(f::r).length)=true:=by simp
   have q3:decide ((4:Int)<Sh.len (f::r))=!decide ((f::r).length<=4):=by rw[<- decide_not];exact mU.2 (by rw[AN];omega)
   have q4:decide ((0:Int)<Sh.len f.params)=!decide (f.params.length=0):=by rw[<- decide_not];exact mU.2 (by rw[AN];omega)
   simp only[q1,q2,q3,q4,jd];cases decide ((f::r).length<=4)<;>cases z<;>cases y<;>by_cases a1:f.params.length=0<;>by_cases a2:f.result=0<;>simp[a1,a2]
end RC
namespace RC
open Go
def nc (D:List AM):Nat:=(D.map (·.cons.length)).sum
theorem LB {D:List AM}{i:Nat}{d:AM}(h:D[i]?=some d):nc (D.take (i+1))=nc (D.take i)+d.cons.length:=by
 rw[D4 h];simp[nc]
theorem Rm {D:List AM}{i:Nat}{d:AM}(h:D[i]?=some d):nc (D.drop i)=d.cons.length+nc (D.drop (i+1)):=by
 rw[drop_cons h];simp[nc]
theorem Gt (D:List AM)(i:Nat):nc D=nc (D.take i)+nc (D.drop i):=by
 unfold nc;rw[<- List.sum_append_nat,<- lJ,List.take_append_drop]
theorem HJ {D:List AM}(hD:D.length<=1048576)(hn:nc D<=1048576){i:Nat}(hi:i<=D.length){N:Nat}(hN:2000000<=N):GU N D i=some (nc (D.take i):Int):=by
 unfold GU;have key:∀{N j:Nat},j<=i->i-j<N->EW D i N (nc (D.take j)) j=some (nc (D.take i):Int):=by
  intro N j hj hN;refine Bo i (λN j=>EW D i N (nc (D.take j)) j=some (nc (D.take i):Int)) ?_ ?_ hj hN
  ·intro n;rw[EW,jn (by simp)]
  ·intro n j hj ih;obtain⟨d,hd,_⟩:=CF (l:=D) (i:=j) (by omega);have hs:=Gt D (j+1);have ht:=LB hd;rw[EW,jm (by simp;omega),BH hd];simp only[jd];rw[AN,BK (n:=(j:Int)+1) (by omega) (by omega),BK (by omega) (by omega),show ((nc (D.take j):Int)+(d.cons.length:Int))=((nc (D.take (j+1)):Nat):Int) by omega,show ((j:Int)+1)=((j+1:Nat):Int) by omega];exact ih
 have:=key (kE _) (by omega:i-0<N);rw[show (((nc (D.take 0):Nat):Int))=0 from rfl,show (((0:Nat):Int))=0 from rfl]at this;rw[this];rfl
theorem Rp {D:List AM}(hD:D.length<=1048576)(hn:nc D<=1048576){N:Nat}(hN:2000000<=N):JE N D=some (nc D:Int):=by
 unfold JE;have key:∀{N j:Nat},j<=D.length->D.length-j<N->Eg D N (nc (D.take j)) j=some (nc D:Int):=by
  intro N j hj hN;refine Bo D.length (λN j=>Eg D N (nc (D.take j)) j=some (nc D:Int)) ?_ ?_ hj hN
  ·intro n;rw[Eg,jn (by simp[AN]),lM]
  ·intro n j hj ih;obtain⟨d,hd,_⟩:=CF hj;have hs:=Gt D (j+1);have ht:=LB hd;rw[Eg,jm (by simp[AN];omega),BH hd];simp only[jd];rw[AN,BK (n:=(j:Int)+1) (by omega) (by omega),BK (by omega) (by omega),show ((nc (D.take j):Int)+(d.cons.length:Int))=((nc (D.take (j+1)):Nat):Int) by omega,show ((j:Int)+1)=((j+1:Nat):Int) by omega];exact ih
 have:=key (kE _) (by omega:D.length-0<N);rw[show (((nc (D.take 0):Nat):Int))=0 from rfl,show (((0:Nat):Int))=0 from rfl]at this;rw[this];rfl
def Gf:List AM->Nat->Nat->Option (Nat×Db)
 | [],_,_=>none
 | d::r,k,c=>match d.cons[c]? with
  | some x=>some (k+1,x)
  | none=>Gf r (k+1) (c-d.cons.length)
theorem Ow {D:List AM}(hD:D.length<=1048576)(hn:nc D<=1048576){c:Nat}(hc:c<nc D){N:Nat}(hN:2000000<=N):∃t x,Gf D 0 c=some (t,x)/\IA N D c=some ((t:Int),x):=by
 have key:∀(m j N c:Nat),D.length-j=m->j<=D.length->m<N->c<nc (D.drop j)->∃t x,Gf (D.drop j) j c=some (t,x)/\FG D N c j=some (.inl ((t:Int),x)):=by
  intro m
  induction m with
  | zero=>
   intro j N c h1 h2 _ h3;rw[lz (by omega)]at h3;simp[nc]at h3
  | succ m ih=>
   intro j N c h1 h2 h3 h4;obtain⟨N,rfl⟩ :∃n,N=n+1:=⟨N-1,by omega⟩
   obtain⟨d,hd,_⟩:=CF (l:=D) (i:=j) (by omega);have hs:=Gt D j;rw[Rm hd]at h4 hs;rw[drop_cons hd];unfold Gf;rw[FG,jm (by simp[AN];omega),BH hd];simp only[jd];rw[jm (by simp),AN,BK (n:=(j:Int)+1) (by omega) (by omega),BK (by omega) (by omega)];cases hx:d.cons[c]? with
   | some x=>
    have pG:=(jg.1 hx).1;refine⟨j+1,x,rfl,?_⟩;have e:((c:Int)<(d.cons.length:Int)):=by omega
    simp[e,BH hx]
   | none=>
    have hle:d.cons.length<=c:=by simpa using hx
    obtain⟨t,x,g1,g2⟩:=ih (j+1) N (c-d.cons.length) (by omega) (by omega) (by omega) (by omega);refine⟨t,x,g1,?_⟩;have e:¬ ((c:Int)<(d.cons.length:Int)):=by omega
    rw[<- g2,show ((c:Int)-(d.cons.length:Int))=((c-d.cons.length:Nat):Int) by omega,show ((j:Int)+1)=((j+1:Nat):Int) by omega];simp[e]
 obtain⟨t,x,g1,g2⟩:=key D.length 0 N c (by omega) (by omega) (by omega) (by simpa using hc);refine⟨t,x,by simpa using g1,?_⟩;unfold IA;rw[show (((0:Nat):Int))=0 from rfl]at g2;rw[g2];rfl
end RC
namespace RC
open Go
theorem Kg {D:List AM}(hD:D.length<=1048576)(hn:nc D<=1048576){c:Nat}(hc:c<nc D){N:Nat}(hN:2000000<=N):∃t x,Gf D 0 c=some (t,x)/\GJ N D c=some (t:Int):=by
 have key:∀(m j M c:Nat),D.length-j=m->j<=D.length->m<M->c<nc (D.drop j)->∃t x,Gf (D.drop j) j c=some (t,x)/\D3 N D ((nc (D.take j)+c:Nat):Int) M j=some (.inl (t:Int)):=by
  intro m
  induction m with
  | zero=>
   intro j M c h1 h2 _ h3;rw[lz (by omega)]at h3;simp[nc]at h3
  | succ m ih=>
   intro j M c h1 h2 h3 h4;obtain⟨M,rfl⟩ :∃n,M=n+1:=⟨M-1,by omega⟩
   obtain⟨d,hd,_⟩:=CF (l:=D) (i:=j) (by omega);have hs:=Gt D j;rw[Rm hd]at h4 hs;have ht:=LB hd;rw[drop_cons hd];unfold Gf;rw[D3,jm (by simp[AN];omega),HJ hD hn (by omega) hN,BH hd];simp only[jd];rw[AN,BK (n:=(j:Int)+1) (by omega) (by omega),BK (n:=(nc (D.take j):Int)+(d.cons.length:Int)) (by omega) (by omega),BK (by omega) (by omega),Ep];simp only[jd];cases hx:d.cons[c]? with
   | some x=>
    have pG:=(jg.1 hx).1;refine⟨j+1,x,rfl,?_⟩;rw[jm (by simp;omega)];rfl
   | none=>
    have hle:d.cons.length<=c:=by simpa using hx
    obtain⟨t,x,g1,g2⟩:=ih (j+1) M (c-d.cons.length) (by omega) (by omega) (by omega) (by omega);refine⟨t,x,g1,?_⟩;rw[jn (by simp;omega),<- g2,show nc (D.take j)+c=nc (D.take (j+1))+(c-d.cons.length) by omega];rfl
 obtain⟨t,x,g1,g2⟩:=key D.length 0 N c (by omega) (by omega) (by omega) (by simpa using hc);refine⟨t,x,by simpa using g1,?_⟩;unfold GJ;rw[show nc (D.take 0)+c=c by simp[nc],show (((0:Nat):Int))=0 from rfl]at g2;rw[g2];rfl
theorem Mk {D:List AM}(hD:D.length<=1048576)(hn:nc D<=1048576){c:Int}(hc:c<0∨(nc D:Int)<=c){N:Nat}(hN:2000000<=N):GJ N D c=some (-1):=by
 unfold GJ;have key:∀{M j:Nat},j<=D.length->D.length-j<M->D3 N D c M j=some (.inr ()):=by
  intro M j hj hM;refine Bo D.length (λM j=>D3 N D c M j=some (.inr ())) ?_ ?_ hj hM
  ·intro n;rw[D3,jn (by simp[AN])]
  ·intro n j hj ih;obtain⟨d,hd,_⟩:=CF hj;have hs:=Gt D (j+1);have ht:=LB hd;rw[D3,jm (by simp[AN];omega),HJ hD hn (by omega) hN,BH hd];simp only[jd];rw[AN,BK (n:=(j:Int)+1) (by omega) (by omega),BK (n:=(nc (D.take j):Int)+(d.cons.length:Int)) (by omega) (by omega),BK (by omega) (by omega),Ep];simp only[jd];rw[jn (by simp;omega)];exact ih
 have:=key (kE _) (by omega:D.length-0<N);rw[show (((0:Nat):Int))=0 from rfl]at this;rw[this];rfl
end RC
namespace RC
open Go
theorem aK {D:List AM}:∀(m j c t:Nat) (x:Db),D.length-j=m->j<=D.length->Gf (D.drop j) j c=some (t,x)->∃d,1<=t/\D[t-1]?=some d/\nc (D.take (t-1))<=nc (D.take j)+c/\d.cons[nc (D.take j)+c-nc (D.take (t-1))]?=some x:=by
 intro m
 induction m with
 | zero=>
  intro j c t x h1 h2 h;rw[lz (by omega)]at h;simp[Gf]at h
 | succ m ih=>
  intro j c t x h1 h2 h;obtain⟨d,hd,_⟩:=CF (l:=D) (i:=j) (by omega);have ht:=LB hd;rw[drop_cons hd]at h;unfold Gf at h;cases hx:d.cons[c]? with
  | some y=>
   rw[hx]at h;simp only[jh,nA]at h;obtain⟨rfl,rfl⟩:=h;exact⟨d,by omega,by simpa using hd,by simp,by simpa using hx⟩
  | none=>
   rw[hx]at h;have hle:d.cons.length<=c:=by simpa using hx
   obtain⟨e,g1,g2,g3,g4⟩:=ih (j+1) (c-d.cons.length) t x (by omega) (by omega) h;rw[show nc (D.take (j+1))+(c-d.cons.length)=nc (D.take j)+c by omega]at g3 g4;exact⟨e,g1,g2,g3,g4⟩
theorem G3 {D:List AM}(hD:D.length<=1048576)(hn:nc D<=1048576){c:Nat}(hc:c<nc D){N:Nat}(hN:2000000<=N):∃t x,Gf D 0 c=some (t,x)/\Bu N D c=some x.fields:=by
 obtain⟨t,x,e1,e2⟩:=Kg hD hn hc hN;obtain⟨d,g1,g2,g3,g4⟩:=aK (D:=D) D.length 0 c t x (by omega) (by omega) (by simpa using e1);have pG:=(jg.1 g2).1;have hs:=Gt D (t-1);rw[show nc (D.take 0)+c=c by simp[nc]]at g3 g4;refine⟨t,x,e1,?_⟩;unfold Bu;rw[e2];simp only[jd];rw[jn (by simp;omega),BK (n:=(t:Int)-1) (by omega) (by omega),show ((t:Int)-1)=((t-1:Nat):Int) by omega,BH g2,HJ hD hn (by omega) hN];simp only[jd];rw[BK (by omega) (by omega),show ((c:Int)-(nc (D.take (t-1)):Int))=((c-nc (D.take (t-1)):Nat):Int) by omega,BH g4];rfl
theorem RV {D:List AM}(hD:D.length<=1048576)(hn:nc D<=1048576){c:Nat}(hc:c<nc D){N:Nat}(hN:2000000<=N):∃t x,Gf D 0 c=some (t,x)/\EJ N D c=some x.fields:=by
 obtain⟨t,x,e1,e2⟩:=Ow hD hn hc hN;exact⟨t,x,e1,by unfold EJ;rw[e2];rfl⟩
end RC
namespace RC
open Go
def Bs (D:List AM)(t:Int):List Int:=
 if 1<=t/\t<=(D.length:Int) then (List.range ((D[(t-1).toNat]?).elim 0 (·.cons.length))).map λ(i:Nat)=>(nc (D.take (t-1).toNat):Int)+(i:Int) else []
theorem Tk {f:Nat->Int}{i:Nat}:(List.range (i+1)).map f=(List.range i).map f++[f i]:=by rw[List.range_succ,lJ];rfl
theorem LX {D:List AM}(hD:D.length<=1048576)(hn:nc D<=1048576){t:Int}{N:Nat}(hN:2000000<=N):GG N D t=some (Bs D t):=by
 unfold GG Bs;rw[Ep,AN];simp only[jd];by_cases h:1<=t/\t<=(D.length:Int)
 ·obtain⟨a,ha⟩ :∃a:Nat,t=(a:Int)+1:=⟨(t-1).toNat,by omega⟩
  subst ha;obtain⟨d,hd,_⟩:=CF (l:=D) (i:=a) (by omega);have hs:=Gt D (a+1);have ht:=LB hd;rw[jn (by simp;omega),jm h,show (((a:Int)+1)-1).toNat=a by omega,hd];simp only[mC];have key:∀{M i:Nat},i<=d.cons.length->d.cons.length-i<M->FP N D ((a:Int)+1) M i ((List.range i).map λ(i:Nat)=>(nc (D.take a):Int)+(i:Int))=some ((List.range d.cons.length).map λ(i:Nat)=>(nc (D.take a):Int)+(i:Int)):=by
   intro M i hi hM;refine Bo d.cons.length (λM i=>FP N D ((a:Int)+1) M i ((List.range i).map λ(i:Nat)=>(nc (D.take a):Int)+(i:Int))=some ((List.range d.cons.length).map λ(i:Nat)=>(nc (D.take a):Int)+(i:Int))) ?_ ?_ hi hM
   ·intro n;rw[FP,BK (by omega) (by omega),show ((a:Int)+1-1)=((a:Nat):Int) by omega,BH hd];simp only[jd];rw[jn (by simp[AN])]
   ·intro n i hi ih;rw[FP,BK (n:=(a:Int)+1-1) (by omega) (by omega),show ((a:Int)+1-1)=((a:Nat):Int) by omega,BH hd];simp only[jd];rw[jm (by simp[AN];omega),HJ hD hn (by omega) hN];simp only[jd];rw[EM _ _ _ (by simp;omega) (by simp;omega),BK (n:=(i:Int)+1) (by omega) (by omega),BK (by omega) (by omega),show ((i:Int)+1)=((i+1:Nat):Int) by omega];simp only[jd];rw[<- ih,Tk]
  have:=key (kE _) (by omega:d.cons.length-0<N);rw[show (((0:Nat):Int))=0 from rfl,List.range_zero,lV]at this;rw[this];rfl
 ·rw[jm (by simp;omega),jn h]
theorem HC {D:List AM}(hD:D.length<=1048576)(hn:nc D<=1048576){t:Int}{N:Nat}(hN:2000000<=N):HP N D t=some (Bs D t):=by
 unfold HP Bs;rw[AN];by_cases h:1<=t/\t<=(D.length:Int)
 ·obtain⟨a,ha⟩ :∃a:Nat,t=(a:Int)+1:=⟨(t-1).toNat,by omega⟩
  subst ha;obtain⟨d,hd,_⟩:=CF (l:=D) (i:=a) (by omega);have hs:=Gt D (a+1);have yA:=Gt D a;have ht:=LB hd;have e1:¬ ((a:Int)+1<1):=by omega
  have e2:¬ ((D.length:Int)<(a:Int)+1):=by omega
  rw[jm h,show (((a:Int)+1)-1).toNat=a by omega,hd,BK (by omega) (by omega),show ((a:Int)+1-1)=((a:Nat):Int) by omega,Yu (by omega) (by omega),BH hd];simp only[mC,e1,e2,kA,jk,kH,jd];rw[Rp (by simp;omega) (by omega) hN];simp only[jd];have key:∀{M i:Nat},i<=d.cons.length->d.cons.length-i<M->FT d (nc (D.take a):Int) M i ((List.range i).map λ(i:Nat)=>(nc (D.take a):Int)+(i:Int))=some ((List.range d.cons.length).map λ(i:Nat)=>(nc (D.take a):Int)+(i:Int)):=by
   intro M i hi hM;refine Bo d.cons.length (λM i=>FT d (nc (D.take a):Int) M i ((List.range i).map λ(i:Nat)=>(nc (D.take a):Int)+(i:Int))=some ((List.range d.cons.length).map λ(i:Nat)=>(nc (D.take a):Int)+(i:Int))) ?_ ?_ hi hM
   ·intro n;rw[FT,jn (by simp[AN])]
   ·intro n i hi ih;rw[FT,jm (by simp[AN];omega)];rw[EM _ _ _ (by simp;omega) (by simp;omega),BK (n:=(i:Int)+1) (by omega) (by omega),BK (by omega) (by omega),show ((i:Int)+1)=((i+1:Nat):Int) by omega];simp only[jd];rw[<- ih,Tk]
  have:=key (kE _) (by omega:d.cons.length-0<N);rw[show (((0:Nat):Int))=0 from rfl,List.range_zero,lV]at this;rw[this];rfl
 ·rw[jn h];by_cases e1:t<1
  ·simp[e1]
  ·have e2:(D.length:Int)<t:=by omega
   simp[e1,e2]
end RC
namespace RC
open Go
end RC
namespace RC
open Go
def gw (left:Int)(s:Nat):Int:=if left-s<0 then -1 else left-s
theorem Rt {left:Int}{s:Nat}(h:left-s<0):gw left s=-1:=jm h
theorem Us {left:Int}{s:Nat}(h:¬ left-s<0):gw left s=left-s:=jn h
def cz (c:Db):Nat:=c.fields.length
def dz (d:AM):Nat:=d.cons.length+(d.cons.map cz).sum
end RC
namespace RC
open Go
end RC
namespace RC
open Go
end RC
namespace RC
open Go
end RC
namespace RC
open Go
section
variable {im : ek} {p : dT} {at_ : Nat} {i : bR} {N : Nat}
end
end RC
namespace RC
open Go
theorem Kz {α:Type}(f:α->Nat){l:List α}{x:α}(h:x∈l):f x<=(l.map f).sum:=by
 induction l with
 | nil=>cases h
 | cons y r ih=>
  rw[kI,mM];rcases js.1 h with rfl|h
  ·omega
  ·have:=ih h;omega
end RC
namespace RC
open Go
end RC
namespace RC
open Go
end RC
namespace RC
open Go
mutual
def en:AE->Nat|.mk _ _ k=>1+CK k
def CK:List AE->Nat|[]=>0|e::l=>en e+CK l
end
theorem Fw (e:AE):en e=1+CK e.kids:=by cases e;simp[en,AE.kids]
theorem XE {k:List AE}{i:Nat}{e:AE}(h:k[i]?=some e):CK (k.drop i)=en e+CK (k.drop (i+1)):=by rw[drop_cons h];simp[CK]
theorem G6 (e:AE):1<=en e:=by rw[Fw];omega
theorem Ho {k:List AE}{e:AE}(h:e∈k):en e<=CK k:=by
 induction k with
 | nil=>cases h
 | cons c k ih=>
  simp only[CK];rcases js.1 h with rfl|h
  ·omega
  ·have:=ih h;omega
theorem H2 (k:List AE):k.length<=CK k:=by
 induction k with
 | nil=>simp
 | cons c k ih=>have:=G6 c;simp only[CK,kQ];omega
theorem DE {e k:AE}(h:k∈e.kids):en k<en e:=by have:=Ho h;rw[Fw e];omega
def Xq (f:Ac):Nat:=f.params.length+CK f.body.kids
def SW (p:AP):Nat:=(p.decls.length+(p.decls.map dz).sum)+(p.funcs.length+(p.funcs.map Xq).sum)
theorem UA {N:Nat}(hN:2000000<=N):∀(n:Nat) (e:AE) (left:Int),left<=1000->0<=left->left<n->CK e.kids<=1048576->E5 N n e left=some (gw left (en e)):=by
 intro n
 induction n with
 | zero=>intro e left _ _ h;omega
 | succ n ih=>
  intro e left h0 vb h1 hz;rw[E5];unfold Ir;have hp:=Fw e;have hle:=H2 e.kids;by_cases h2:left<1
  ·rw[jm (by simpa using h2),Rt (by omega)]
  ·rw[jn (by simpa using h2),BK (by omega) (by omega)];have key:∀{M i:Nat},i<=e.kids.length->e.kids.length-i<M->∀l:Int,0<=l->l<left->Dj e (E5 N n) M l i=some (if l-(CK (e.kids.drop i):Int)<0 then .inl (-1) else .inr (l-(CK (e.kids.drop i):Int))):=by
    intro M i hi hM;refine Bo e.kids.length (λM i=>∀l:Int,0<=l->l<left->Dj e (E5 N n) M l i=some (if l-(CK (e.kids.drop i):Int)<0 then .inl (-1) else .inr (l-(CK (e.kids.drop i):Int)))) ?_ ?_ hi hM
    ·intro m l l0 l1;rw[Dj,jn (by simp[AN])];simp[CK];omega
    ·intro m i hi sU l l0 l1;obtain⟨x,hx,sm⟩:=CF hi;have hz2:=Ho sm;have e1:=Fw x;rw[Dj,jm (by simp[AN];omega),BH hx];simp only[jd];rw[ih x l (by omega) l0 (by omega) (by omega),XE hx];simp only[jd];by_cases h3:l-(en x:Int)<0
     ·rw[Rt h3,jm (by simp),jm (by omega)]
     ·rw[Us h3,jn (by simpa using h3),BK (by omega) (by omega),show ((i:Int)+1)=((i+1:Nat):Int) by omega,sU (l-(en x:Int)) (by omega) (by omega)];rw[show l-(en x:Int)-(CK (e.kids.drop (i+1)):Int)=l-((en x+CK (e.kids.drop (i+1)):Nat):Int) by omega]
   have:=key (kE _) (by omega:e.kids.length-0<N) (left-1) (by omega) (by omega);rw[oQ,lj]at this;rw[this];by_cases h3:left-1-(CK e.kids:Int)<0
   ·rw[jm h3,Rt (by omega)];rfl
   ·rw[jn h3,Us (by omega)];simp only[Sh.Ni];congr 1;omega
theorem Gv {e:AE}(hz:CK e.kids<=1048576){N:Nat}(hN:2000000<=N):Gr N e=some (if en e<=30 then (en e:Int) else -1):=by
 unfold Gr Lc;rw[UA hN N e 30 (by omega) (by omega) (by omega) hz];simp only[jd];by_cases h:en e<=30
 ·rw[Us (by omega),jm h,jn (by simp;omega),BK (by omega) (by omega)];congr 1;omega
 ·rw[Rt (by omega),jn h];rfl
theorem Sk {N:Nat}(hN:2000000<=N):∀(n:Nat) (e:AE) (c:Nat),c<=30->31-c<n->CK e.kids<=1048576->Et N n c e=some (if c+en e<=30 then (true,((c+en e:Nat):Int)) else (false,31)):=by
 intro n
 induction n with
 | zero=>intro e c _ h;omega
 | succ n ih=>
  intro e c h0 h1 hz;rw[Et];unfold IB;have hp:=Fw e;have hle:=H2 e.kids;rw[BK (by omega) (by omega)];by_cases h2:c=30
  ·subst h2;rw[jm (by simp),jn (by omega)];rfl
  ·rw[jn (by simp;omega)];have key:∀{M i:Nat},i<=e.kids.length->e.kids.length-i<M->∀d:Nat,c<d->d<=30->DM e (Et N n) M i d=some (if d+CK (e.kids.drop i)<=30 then .inr ((d+CK (e.kids.drop i):Nat):Int) else .inl (false,31)):=by
    intro M i hi hM;refine Bo e.kids.length (λM i=>∀d:Nat,c<d->d<=30->DM e (Et N n) M i d=some (if d+CK (e.kids.drop i)<=30 then .inr ((d+CK (e.kids.drop i):Nat):Int) else .inl (false,31))) ?_ ?_ hi hM
    ·intro m d l0 l1;rw[DM,jn (by simp[AN])];simp[CK,l1]
    ·intro m i hi sU d l0 l1;obtain⟨x,hx,sm⟩:=CF hi;have hz2:=Ho sm;have e1:=Fw x;rw[DM,jm (by simp[AN];omega),BH hx];simp only[jd];rw[ih x d l1 (by omega) (by omega),XE hx];simp only[jd];by_cases h3:d+en x<=30
     ·rw[jm h3];simp only[lL,jk,kH];rw[BK (by omega) (by omega),show ((i:Int)+1)=((i+1:Nat):Int) by omega,sU (d+en x) (by omega) h3,lS]
     ·have h4:¬ (d+(en x+CK (List.drop (i+1) e.kids))<=30):=by omega
      rw[jn h3,jn h4];rfl
   have:=key (kE _) (by omega:e.kids.length-0<N) (c+1) (by omega) (by omega);rw[oQ,lj,show ((c+1:Nat):Int)=(c:Int)+1 by omega]at this;rw[this];by_cases h3:c+1+CK e.kids<=30
   ·rw[jm h3,jm (by omega)];simp only[Sh.Ni];rw[show c+1+CK e.kids=c+en e by omega]
   ·rw[jn h3,jn (by omega)];rfl
theorem Na {e:AE}(hz:CK e.kids<=1048576){N:Nat}(hN:2000000<=N):Ib N e=some (if en e<=30 then (en e:Int) else -1):=by
 unfold Ib Kn;have:=Sk hN N e 0 (by omega) (by omega) hz;rw[oQ,kt]at this;rw[this];simp only[jd];by_cases h:en e<=30
 ·rw[jm h,jm h];rfl
 ·rw[jn h,jn h];rfl
end RC
namespace RC
open Go
theorem Pd {α:Type}{g:Nat->α->Bool}:∀(l:List α) (k:Nat),Fq g k l=true↔∀(i:Nat) x,l[i]?=some x->g (k+i) x=true
 | [],_=>by simp[Fq]
 | x::r,k=>by
  rw[Fq,kF,Pd r (k+1)];constructor
  ·rintro⟨h1,h2⟩ i y hy;cases i with
   | zero=>simp only[kK,jh]at hy;subst hy;exact h1
   | succ i=>have:=h2 i y hy;rw[show k+(i+1)=k+1+i by omega];exact this
  ·intro h;exact⟨h 0 x rfl,λi y hy=>by have:=h (i+1) y hy;rw[show k+(i+1)=k+1+i by omega]at this;exact this⟩
theorem RS {a b:List Int}(h:a.length=b.length):Fq (λi x=>decide (b[i]?=some x)) 0 a=decide (a=b):=by
 rw[Bool.eq_iff_iff,Pd,mg];constructor
 ·intro g;refine lk λi=>?_;by_cases hi:i<a.length
  ·obtain⟨x,hx,_⟩:=CF hi;have:=g i x hx;rw[mg,kt]at this;rw[hx,this]
  ·rw[kq (by omega),kq (by omega)]
 ·rintro rfl i x hx;rw[mg,kt,hx]
theorem Nt {a b:List Int}(ha:a.length<=1048576){N:Nat}(hN:2000000<=N):DP N a b=some (decide (a=b)):=by
 unfold DP;by_cases h:a.length=b.length
 ·rw[jn (by simp[AN,h]),FC (l:=a) (DA a b) (λi x=>decide (b[i]?=some x)) (λn=>by rw[DA,jn (by simp[AN])]) (λn i x hx=>?_) (by omega),FD,RS h]
  ·cases decide (a=b)<;>rfl
  ·have hi:=(jg.1 hx).1;obtain⟨y,hy,_⟩:=CF (l:=b) (i:=i) (by omega);rw[DA,jm (by simp[AN];omega),BH hx];simp only[jd];rw[BH hy,hy,BK (by omega) (by omega),show ((i:Int)+1)=((i+1:Nat):Int) by omega];simp only[jd];by_cases e:x=y
   ·simp[e]
   ·have e':¬ y=x:=λq=>e q.symm;simp[e,e']
 ·have pN:¬ a=b:=λe=>h (by rw[e]);have h':¬ ((a.length:Int)=(b.length:Int)):=by omega
  simp[AN,h',pN]
structure Ek (D:List AM) (F:List Ac):Prop where
 NC:D.length<=4
 QU :∀d∈D,d.cons.length<=3
 LD :∀d∈D,∀c∈d.cons,c.fields.length<=3/\∀t∈c.fields,DJ D t=true
 dc :∀d∈D,DJ D d.from_=true/\DJ D d.to=true
 LN:F.length<=4
 O6 :∀f∈F,f.params.length<=3/\(∀t∈f.params,DJ D t=true)/\DJ D f.result=true
theorem eE {D:List AM}(h :∀d∈D,d.cons.length<=3):nc D<=3*D.length:=by
 induction D with
 | nil=>simp[nc]
 | cons d r ih=>
  have h1:=h d (by simp);have h2:=ih λe he=>h e (by simp[he]);simp only[nc,kI,mM,kQ]at h2⊢;omega
theorem Ek.nc {D:List AM}{F:List Ac}(S:Ek D F):nc D<=12:=by have:=eE S.QU;have:=S.NC;omega
theorem Ju {D:List AM}{t:Int}(h:DJ D t=true):0<=t/\t<=(D.length:Int):=by
 unfold DJ at h;simpa using h
theorem Ek.of {p:AP}(h:OH p.decls (p.funcs.map λf=>(f.params,f.result))=true):Ek p.decls p.funcs:=by
 unfold OH at h;simp only[kF,kB,List.all_map,jw]at h;obtain⟨h1,⟨_,h2⟩,h3,_⟩:=h;unfold Mj at h1;simp only[kF,jw]at h1;obtain⟨h4,h5⟩:=h1;rw[Pd]at h5;have hd:∀d∈p.decls,∃i,Le p.decls i d=true:=λd hd=>by
  obtain⟨i,hi⟩:=jz.1 hd;exact⟨_,h5 i d hi⟩
 refine⟨h4,λd hm=>?_,λd hm c hc=>?_,λd hm=>?_,h2,λf hf=>?_⟩
 ·obtain⟨i,hi⟩:=hd d hm;unfold Le at hi;split at hi
  ·simp only[kF,jw]at hi;exact hi.1.1
  ·omega
 ·obtain⟨i,hi⟩:=hd d hm;unfold Le at hi;split at hi
  ·simp only[kF,jw,jq]at hi;have:=hi.2 c hc;unfold QT at this;simp only[kF,jw,jq]at this;exact this
  ·have:=List.length_pos_of_mem hc;omega
 ·obtain⟨i,hi⟩:=hd d hm;unfold Le at hi;split at hi
  ·simp only[kF,jw]at hi;rw[hi.1.2.1,hi.1.2.2];have:DJ p.decls 0=true:=by unfold DJ;simp
   exact⟨this,this⟩
  ·simp only[kF]at hi;exact hi.2
 ·have:=jq.1 h3 f hf;simp only[Function.comp,Ng,kF,jw,jq]at this;exact this
def KD (p:AP)(sg:BO)(R1:AP->List Int->AE->Option Int)(R2:List Int->BO->AE->Option Int)(T:List Int->AE->Int)(m:Nat):Prop:=
 ∀(v:List Int) (e:AE),An e->en e<m->v.length+3*en e<=1000->(∀x∈v,DJ p.decls x=true)->R1 p v e=some (T v e)/\R2 v sg e=some (T v e)/\(T v e=-1∨DJ p.decls (T v e)=true)
section
variable {p : AP} {sg : BO} {R1 : AP -> List Int -> AE -> Option Int} {R2 : List Int -> BO -> AE -> Option Int} {T : List Int -> AE -> Int} {e : AE} {v : List Int} {N : Nat}
structure IG (p:AP) (e:AE) (v:List Int):Prop where
 len:v.length+3*en e<=1000
 H6 :∀x∈v,DJ p.decls x=true
 small:en e<=340
 CZ:An e
theorem IG.JL (V:IG p e v){k:AE}(hk:k∈e.kids):v.length+3*en k<=1000:=by have:=V.len;have:=DE hk;omega
theorem IG.more (V:IG p e v){k:AE}(hk:k∈e.kids){m:List Int}(hm:m.length<=3):(v++m).length+3*en k<=1000:=by have:=V.len;have:=DE hk;rw[kD];omega
theorem IG.Wv (V:IG p e v){m:List Int}(hm :∀x∈m,DJ p.decls x=true):∀x∈v++m,DJ p.decls x=true:=λx hx=>by
 rcases kJ.1 hx with h|h
 ·exact V.H6 x h
 ·exact hm x h
theorem IG.LH (V:IG p e v):e.kids.length<=340:=by have:=H2 e.kids;have:=V.small;have:=Fw e;omega
theorem O9 (H:KD p sg R1 R2 T (en e))(V:IG p e v)(hN:2000000<=N)(m:Nat):Ij N R1 p v e.kids m=some (decide (e.kids.map (T v)=List.replicate m 0)):=by
 unfold Ij;have hk:=V.LH;by_cases h:e.kids.length=m
 ·subst h;rw[jn (by simp[AN]),FC (l:=e.kids) (Fb p v e.kids e.kids.length R1) (λ_ x=>decide (T v x=0)) (λn=>by rw[Fb,jn (by simp)]) (λn i x hx=>?_) (by omega),FD,F7]
  ·have e1:e.kids.all (λx=>decide (T v x=0))=decide (e.kids.map (T v)=List.replicate e.kids.length 0):=by
    rw[Bool.eq_iff_iff,mg,jq,List.eq_replicate_iff];simp
   rw[e1];cases decide (e.kids.map (T v)=List.replicate e.kids.length 0)<;>rfl
  ·have hi:=(jg.1 hx).1;have hm:=je hx;rw[Fb,jm (by simp;omega),BH hx];simp only[jd];rw[(H v x (V.CZ.kids x hm) (DE hm) (V.JL hm) V.H6).1,BK (by omega) (by omega),show ((i:Int)+1)=((i+1:Nat):Int) by omega];simp only[jd];by_cases e1:T v x=0<;>simp[e1]
 ·have h1:¬ ((e.kids.length:Int)=(m:Int)):=by omega
  have h2:¬ e.kids.map (T v)=List.replicate m 0:=λq=>h (by have:=kf List.length q;simpa using this);simp[AN,h1,h2]
theorem Po (H:KD p sg R1 R2 T (en e))(V:IG p e v)(hN:2000000<=N)(l:List Int):I4 N R1 p v e.kids l=some (decide (e.kids.map (T v)=l)):=by
 unfold I4;have hk:=V.LH;by_cases h:e.kids.length=l.length
 ·rw[jn (by simp[AN,h]),FC (l:=l) (GR p v e.kids l R1) (λi x=>decide ((e.kids.map (T v))[i]?=some x)) (λn=>by rw[GR,jn (by simp[AN])]) (λn i x hx=>?_) (by omega),FD,RS (by simp[h])]
  ·by_cases q:l=e.kids.map (T v)
   ·simp[q]
   ·have q':¬ e.kids.map (T v)=l:=λz=>q z.symm;simp[q,q']
  ·have hi:=(jg.1 hx).1;obtain⟨y,hy,hm⟩:=CF (l:=e.kids) (i:=i) (by omega);rw[GR,jm (by simp[AN];omega),BH hy];simp only[jd];rw[(H v y (V.CZ.kids y hm) (DE hm) (V.JL hm) V.H6).1,BH hx,BK (by omega) (by omega),show ((i:Int)+1)=((i+1:Nat):Int) by omega];simp only[jd];rw[ji,hy,kb];by_cases e1:T v y=x<;>simp[e1]
 ·have h1:¬ ((e.kids.length:Int)=(l.length:Int)):=by omega
  have h2:¬ e.kids.map (T v)=l:=λq=>h (by have:=kf List.length q;simpa using this);simp[AN,h1,h2]
theorem XW (H:KD p sg R1 R2 T (en e))(V:IG p e v)(hN:2000000<=N):
  CG v sg e R2 N 0 (List.replicate e.kids.length 0)=some (if (e.kids.map (T v)).any (λt=>decide (t<0))=true then .inl (-1) else .inr (e.kids.map (T v))):=by
 have hk:=V.LH;have key:∀{N i:Nat},i<=e.kids.length->e.kids.length-i<N->∀m:List Int,m.length=e.kids.length->m.take i=(e.kids.map (T v)).take i->
   CG v sg e R2 N i m=some (if ((e.kids.map (T v)).drop i).any (λt=>decide (t<0))=true then .inl (-1) else .inr (e.kids.map (T v))):=by
  intro N i hi hN;refine Bo e.kids.length (λN i=>∀m:List Int,m.length=e.kids.length->m.take i=(e.kids.map (T v)).take i->
   CG v sg e R2 N i m=some (if ((e.kids.map (T v)).drop i).any (λt=>decide (t<0))=true then .inl (-1) else .inr (e.kids.map (T v)))) ?_ ?_ hi hN
  ·intro n m a b;rw[CG,jn (by simp[AN])];rw[kY (by omega),kY (by simp)]at b;rw[b,mn (by simp)];simp
  ·intro n i hi ih m a b;obtain⟨x,hx,sm⟩:=CF hi;obtain⟨y,hy,_⟩:=CF (l:=m) (i:=i) (by omega);have vp:(e.kids.map (T v))[i]?=some (T v x):=by rw[ji,hx];rfl
   have rD:(m.set i (T v x))[i]?=some (T v x):=by rw[ju (by omega)]
   rw[CG,jm (by simp[AN];omega),BH hx];simp only[jd];rw[(H v x (V.CZ.kids x sm) (DE sm) (V.JL sm) V.H6).2.1,BH hy];simp only[jd];rw[PH,BH rD,drop_cons vp];simp only[jd,List.any_cons];by_cases h:T v x<0
   ·simp[h]
   ·rw[jn (by simpa using h),BK (by omega) (by omega),show ((i:Int)+1)=((i+1:Nat):Int) by omega,ih (m.set i (T v x)) (by simp[a]) (by rw[D4 rD,D4 vp,<- b,nG (jv _)])];simp[h]
 have:=key (kE _) (by omega:e.kids.length-0<N) (List.replicate e.kids.length 0) (by simp) rfl;simpa using this
theorem I6 {a b:List Int}(ha:a.length<=1000)(hb:b.length<=1000):Ea a b=some (a++b):=by
 unfold Ea FJ;rw[EM [] a 8 (by simp;omega) (by simp;omega)];simp only[jd,lR];rw[EM a b 8 (by omega) (by omega)];rfl
theorem aN {a b:List Int}(ha:a.length<=1000)(hb:b.length<=1000)(hN:2000000<=N):Fi N [a,b]=some (a++b):=by
 obtain⟨n,rfl⟩ :∃n,N=n+3:=⟨N-3,by omega⟩
 unfold Fi;have e1:Cf [a,b] (n+3) 0 0=some ((a.length+b.length:Nat):Int):=by
  rw[Cf,jm (by simp[AN]),show Sh.get [a,b] 0=some a from rfl];simp only[jd];rw[AN,BK (n:=(0:Int)+1) (by omega) (by omega),BK (by omega) (by omega),jn (by rw[jw];omega)];rw[Cf,jm (by simp[AN]),show Sh.get [a,b] (0+1)=some b from rfl];simp only[jd];rw[AN,BK (n:=(0:Int)+1+1) (by omega) (by omega),BK (by omega) (by omega),jn (by rw[jw];omega)];rw[Cf,jn (by simp[AN])];congr 1;omega
 have e2:Ce [a,b] (n+3) 0 []=some (a++b):=by
  rw[Ce,jm (by simp[AN]),show Sh.get [a,b] 0=some a from rfl];simp only[jd];rw[EM [] a 8 (by simp;omega) (by simp;omega),BK (n:=(0:Int)+1) (by omega) (by omega)];simp only[jd,lR];rw[Ce,jm (by simp[AN]),show Sh.get [a,b] (0+1)=some b from rfl];simp only[jd];rw[EM a b 8 (by omega) (by omega),BK (n:=(0:Int)+1+1) (by omega) (by omega)];simp only[jd];rw[Ce,jn (by simp[AN])]
 have e3:GM ((a.length+b.length:Nat):Int)=some []:=by
  unfold GM;rw[jn (by simp;omega),BK (n:=(0:Int)-0) (by omega) (by omega),BK (by omega) (by omega)];by_cases h:0<a.length+b.length
  ·rw[jm (by simp;omega),show (((a.length+b.length:Nat):Int)-(0-0))=((a.length+b.length:Nat):Int) by omega,Pf _ _ _ (by omega) (by omega)];simp only[jd];have:=dA (l:=List.replicate (a.length+b.length) (0:Int)) (j:=0) (by omega);rw[oQ]at this;rw[this];rfl
  ·rw[jn (by simp;omega)];rfl
 rw[e1];simp only[jd];rw[e3];simp only[jd];rw[e2];rfl
def LJ:List Int->Int
 | []=>-1
 | t::r=>if r.all (λx=>decide (x=t))=true then t else -1
theorem J9 (H:KD p sg R1 R2 T (en e))(V:IG p e v)(hN:2000000<=N){ks:List AE}{ms:List (List Int)}(qq :∀k∈ks,k∈e.kids)(rn:ks.length<=340)(hl:ms.length=ks.length)(hm :∀m∈ms,m.length<=3/\∀x∈m,DJ p.decls x=true):
  EN N R2 sg v ks ms=some (LJ (List.zipWith (λm k=>T (v++m) k) ms ks)):=by
 unfold EN;have xj:v.length<=1000:=by have:=V.len;omega
 have step:∀(n i:Nat) (r:Int) k m,ks[i]?=some k->ms[i]?=some m->Bg N sg v ks ms R2 (n+1) r i=if T (v++m) k<0∨(0<i/\T (v++m) k≠r) then some (.inl (-1)) else Bg N sg v ks ms R2 n (T (v++m) k) ((i+1:Nat):Int):=by
  intro n i r k m hk wQ;have hi:=(jg.1 hk).1;have hmo:=hm m (je wQ);have tj:=qq k (je hk);rw[Bg,jm (by simp[AN];omega),BH hk];simp only[jd];rw[BH wQ];simp only[jd];rw[aN xj (by omega) hN];simp only[jd];rw[(H (v++m) k (V.CZ.kids k tj) (DE tj) (V.more tj hmo.1) (V.Wv hmo.2)).2.1];simp only[jd];rw[BK (by omega) (by omega),show ((i:Int)+1)=((i+1:Nat):Int) by omega];by_cases h1:T (v++m) k<0
  ·simp[h1]
  ·by_cases h2:0<i
   ·by_cases h3:T (v++m) k=r
    ·have rC:¬ r<0:=h3▸h1;simp[rC,h2,h3]
    ·simp[h1,h2,h3]
   ·simp[h1,h2]
 have rest:∀(d i n:Nat) (r:Int),ks.length-i=d->0<i->i<=ks.length->d<n->Bg N sg v ks ms R2 n r i=some (if ((List.zipWith (λm k=>T (v++m) k) ms ks).drop i).all (λx=>decide (x=r))=true then (if ((List.zipWith (λm k=>T (v++m) k) ms ks).drop i).any (λx=>decide (x<0))=true then .inl (-1) else .inr r) else .inl (-1)):=by
  intro d
  induction d with
  | zero=>
   intro i n r h1 h2 h3 h4;obtain⟨n,rfl⟩ :∃q,n=q+1:=⟨n-1,by omega⟩
   rw[Bg,jn (by simp[AN];omega),mn (by simp;omega)];rfl
  | succ d ih=>
   intro i n r h1 h2 h3 h4;obtain⟨n,rfl⟩ :∃q,n=q+1:=⟨n-1,by omega⟩
   obtain⟨k,hk,_⟩:=CF (l:=ks) (i:=i) (by omega);obtain⟨m,wQ,_⟩:=CF (l:=ms) (i:=i) (by omega);have hz:(List.zipWith (λm k=>T (v++m) k) ms ks)[i]?=some (T (v++m) k):=by rw[lO,hk,wQ]
   rw[step n i r k m hk wQ,drop_cons hz,lx,List.any_cons];by_cases h5:T (v++m) k=r
   ·by_cases h6:T (v++m) k<0
    ·rw[jm (.inl h6)];have h6':r<0:=h5▸h6;simp[h5,h6']
    ·rw[jn (by rintro (h|h);exact h6 h;exact h.2 h5),ih (i+1) n _ (by omega) (by omega) (by omega) (by omega)];have h6':¬ r<0:=h5▸h6;simp[h5,h6']
   ·rw[jm (.inr ⟨h2,h5⟩)];simp[h5]
 cases hks0:ks with
 | nil=>
  obtain⟨n,rfl⟩ :∃q,N=q+1:=⟨N-1,by omega⟩
  rw[Bg,jn (by simp[AN])];simp[LJ]
 | cons k r=>
  cases hms0:ms with
  | nil=>rw[hks0,hms0]at hl;simp at hl
  | cons m s=>
   rw[<- hks0,<- hms0];obtain⟨n,hn⟩ :∃q,N=q+1:=⟨N-1,by omega⟩
   have h0:=step n 0 (-1) k m (by rw[hks0];rfl) (by rw[hms0];rfl);rw[oQ]at h0;have tj:=qq k (by rw[hks0];simp);have hmo:=hm m (by rw[hms0];simp);have hT:=(H (v++m) k (V.CZ.kids k tj) (DE tj) (V.more tj hmo.1) (V.Wv hmo.2)).2.2;rw[show Bg N sg v ks ms R2 N (-1) 0=Bg N sg v ks ms R2 (n+1) (-1) 0 by rw[<- hn],h0];have hzc:List.zipWith (λm k=>T (v++m) k) ms ks=T (v++m) k::List.zipWith (λm k=>T (v++m) k) s r:=by rw[hks0,hms0];rfl
   rw[hzc];unfold LJ;by_cases h1:T (v++m) k<0
   ·rw[jm (.inl h1)];have:T (v++m) k=-1:=by
     rcases hT with h|h
     ·exact h
     ·have:=(Ju h).1;omega
    rw[this];simp
   ·rw[jn (by rintro (h|h);exact h1 h;omega),rest _ 1 n _ rfl (by omega) (by rw[hks0];simp) (by omega),hzc,List.drop_succ_cons,lj];by_cases h2:(List.zipWith (λm k=>T (v++m) k) s r).all (λx=>decide (x=T (v++m) k))=true
    ·have h3:¬ (List.zipWith (λm k=>T (v++m) k) s r).any (λx=>decide (x<0))=true:=λh=>by
      obtain⟨x,hx,vp⟩:=mG.1 h;have:=jq.1 h2 x hx;simp only[jw]at this vp;omega
     rw[jm h2,jn h3];dsimp only;rw[jm h2];rfl
    ·rw[jn h2];dsimp only;rw[jn h2];rfl
end
end RC
namespace RC
open Go
theorem aj {n:Int}(h1:n < -9223372036854775808)(h2:-18446744073709551616<=n):Sh.w n=n+18446744073709551616:=by
 unfold Sh.w;rw[IntKind.wrap_i64];omega
theorem T4 {D:List AM}(hD:D.length<=1048576)(hn:nc D<=1048576){c:Int}(hI:Gw c)(hc:c<0∨(nc D:Int)<=c){N:Nat}(hN:2000000<=N):IA N D c=some (-1,⟨[]⟩):=by
 have key:∀(m j N:Nat) (c:Int),D.length-j=m->j<=D.length->m<N->Gw c->(c<0∨(nc (D.drop j):Int)<=c)->FG D N c j=some (.inr ()):=by
  intro m
  induction m with
  | zero=>
   intro j N c h1 h2 h3 _ _;obtain⟨N,rfl⟩ :∃n,N=n+1:=⟨N-1,by omega⟩
   rw[FG,jn (by simp[AN];omega)]
  | succ m ih=>
   intro j N c h1 h2 h3 hI h4;obtain⟨N,rfl⟩ :∃n,N=n+1:=⟨N-1,by omega⟩
   obtain⟨d,hd,_⟩:=CF (l:=D) (i:=j) (by omega);have hs:=Gt D j;rw[Rm hd]at h4 hs;rw[FG,jm (by simp[AN];omega),BH hd];simp only[jd];have tp:=hI.1;have vt:=hI.2;have e1:¬ (0<=c/\c<(d.cons.length:Int)):=by omega
   have e2:(if decide (0<=c)=true then some (decide (c<Sh.len d.cons)) else some false)=some false:=by
    by_cases h0:0<=c
    ·have:¬ c<(d.cons.length:Int):=by omega
     simp[h0,AN,this]
    ·simp[h0]
   rw[BK (n:=(j:Int)+1) (by omega) (by omega),show ((j:Int)+1)=((j+1:Nat):Int) by omega,AN];rw[AN]at e2;by_cases h5:c-(d.cons.length:Int) < -9223372036854775808
   ·have:=ih (j+1) N (Sh.w (c-(d.cons.length:Int))) (by omega) (by omega) (by omega) (by rw[aj h5 (by omega)];unfold Gw;omega) (by rw[aj h5 (by omega)];omega);rw[e2];simp only[jd,jk,kH];exact this
   ·have:=ih (j+1) N (Sh.w (c-(d.cons.length:Int))) (by omega) (by omega) (by omega) (by rw[BK (by omega) (by omega)];unfold Gw;omega) (by rw[BK (by omega) (by omega)];omega);rw[e2];simp only[jd,jk,kH];exact this
 have:=key D.length 0 N c (by omega) (by omega) (by omega) hI (by simpa using hc);unfold IA;rw[show (((0:Nat):Int))=0 from rfl]at this;rw[this];rfl
theorem Ki:∀{D:List AM} {k c t:Nat} {x:Db},Gf D k c=some (t,x)->k<t/\t<=k+D.length/\∃d∈D,x∈d.cons
 | [],_,_,_,_,h=>by simp[Gf]at h
 | d::r,k,c,t,x,h=>by
  unfold Gf at h;cases hx:d.cons[c]? with
  | some y=>
   rw[hx]at h;simp only[jh,nA]at h;obtain⟨rfl,rfl⟩:=h;exact⟨by omega,by simp,d,by simp,je hx⟩
  | none=>
   rw[hx]at h;obtain⟨h1,h2,e,h3,h4⟩:=Ki h;exact⟨by omega,by simp;omega,e,by simp[h3],h4⟩
def TJ (a b:Int)(d:AM):Bool:=decide (d.cons.length=0)&&(decide (d.from_=a)&&decide (d.to=b))
def IL (a b:Int):List AM->Nat->Int
 | [],_=>-1
 | d::r,k=>if TJ a b d=true then (k:Int)+1 else IL a b r (k+1)
theorem ZO {a b:Int}:∀(l:List AM) (k:Nat),IL a b l k=-1∨((k:Int)<IL a b l k/\IL a b l k<=k+l.length)
 | [],_=>.inl rfl
 | d::r,k=>by
  unfold IL;by_cases h:TJ a b d=true
  ·rw[jm h];right;simp only[kQ];omega
  ·rw[jn h];rcases ZO r (k+1) with h1|h1
   ·exact .inl h1
   ·right;simp only[kQ];omega
theorem XC {a b:Int}{d:AM}:(if decide ((Sh.len d.cons)=0)=true then if decide (d.from_=a)=true then some (decide (d.to=b)) else some false else some false)=some (TJ a b d):=by
 unfold TJ;by_cases h1:d.cons.length=0<;>by_cases h2:d.from_=a<;>simp[AN,h1,h2]
theorem Ny {D:List AM}(hD:D.length<=1048576){a b:Int}{N:Nat}(hN:2000000<=N):Ii N D a b=some (IL a b D 0):=by
 unfold Ii;have key:∀{M i:Nat},i<=D.length->D.length-i<M->Sh.cont (Ew D a b M i) id (λ()=>some (-1))=some (IL a b (D.drop i) i):=by
  intro M i hi hM;refine Bo D.length (λM i=>Sh.cont (Ew D a b M i) id (λ()=>some (-1))=some (IL a b (D.drop i) i)) ?_ ?_ hi hM
  ·intro n;rw[Ew,jn (by simp[AN])];simp[IL,Sh.cont]
  ·intro n i hi ih;obtain⟨d,hd,_⟩:=CF hi;rw[Ew,jm (by simp[AN];omega),BH hd,drop_cons hd];simp only[jd];rw[XC,BK (by omega) (by omega),show ((i:Int)+1)=((i+1:Nat):Int) by omega];simp only[jd,IL];by_cases h:TJ a b d=true
   ·rw[jm h,jm h];simp[Sh.cont]
   ·rw[jn h,jn h,ih]
 have:=key (kE _) (by omega:D.length-0<N);simpa using this
theorem S5 {D:List AM}(hD:D.length<=1048576){a b:Int}{N:Nat}(hN:2000000<=N):Ji N D a b=some (IL a b D 0):=by
 unfold Ji;have key:∀{M i:Nat},i<=D.length->D.length-i<M->Sh.cont (Ex D a b M i) id (λ()=>some (-1))=some (IL a b (D.drop i) i):=by
  intro M i hi hM;refine Bo D.length (λM i=>Sh.cont (Ex D a b M i) id (λ()=>some (-1))=some (IL a b (D.drop i) i)) ?_ ?_ hi hM
  ·intro n;rw[Ex,jn (by simp[AN])];simp[IL,Sh.cont]
  ·intro n i hi ih;obtain⟨d,hd,_⟩:=CF hi;rw[Ex,jm (by simp[AN];omega),BH hd,drop_cons hd];simp only[jd];rw[XC,BK (by omega) (by omega),show ((i:Int)+1)=((i+1:Nat):Int) by omega];simp only[jd,IL];by_cases h:TJ a b d=true
   ·rw[jm h,jm h];simp[Sh.cont]
   ·rw[jn h,jn h,ih]
 have:=key (kE _) (by omega:D.length-0<N);simpa using this
def Ql (D:List AM)(t:Int):Option AM:=if 1<=t/\t<=(D.length:Int) then (D[(t-1).toNat]?).bind λd=>if d.cons.length=0 then some d else none else none
theorem SV {D:List AM}{t:Int}{d:AM}(h:Ql D t=some d):d∈D/\1<=t/\t<=(D.length:Int)/\D[(t-1).toNat]?=some d:=by
 unfold Ql at h;split at h
 ·rename_i h1;obtain⟨e,he,h2⟩:=kU.1 h;split at h2
  ·cases h2;exact⟨je he,h1.1,h1.2,he⟩
  ·cases h2
 ·cases h
theorem Su {D:List AM}(hD:D.length<=1048576){t:Int}:Jh D t=some ((Ql D t).elim (⟨0,0,[]⟩,false) λd=>(d,true)):=by
 unfold Jh Ql;by_cases h:1<=t/\t<=(D.length:Int)
 ·obtain⟨a,ha⟩ :∃a:Nat,t=(a:Int)+1:=⟨(t-1).toNat,by omega⟩
  subst ha;obtain⟨d,hd,_⟩:=CF (l:=D) (i:=a) (by omega);have e1:¬ ((a:Int)+1<1):=by omega
  have e2:¬ ((D.length:Int)<(a:Int)+1):=by omega
  rw[jm h,BK (by omega) (by omega),show ((a:Int)+1-1)=((a:Nat):Int) by omega,BH hd,lY,hd];by_cases h2:d.cons.length=0
  ·have ym:d.cons=[]:=ka h2;simp[e1,e2,AN,ym]
  ·have h3:0<d.cons.length:=by omega
   have ym:¬ d.cons=[]:=λq=>h2 (by rw[q];rfl);simp[e1,e2,AN,ym,h3]
 ·rw[jn h];by_cases h1:t<1
  ·simp[h1]
  ·have h2:(D.length:Int)<t:=by omega
   simp[h1,AN,h2]
theorem JQ {D:List AM}(hD:D.length<=1048576){t:Int}:Gl D t=some (Ql D t).isSome:=by
 unfold Gl Ql;rw[Ep];by_cases h:1<=t/\t<=(D.length:Int)
 ·obtain⟨a,ha⟩ :∃a:Nat,t=(a:Int)+1:=⟨(t-1).toNat,by omega⟩
  subst ha;obtain⟨d,hd,_⟩:=CF (l:=D) (i:=a) (by omega);have e1:((1:Int)<=(a:Int)+1):=by omega
  have e2:((a:Int)+1<=(D.length:Int)):=by omega
  rw[jm h,BK (by omega) (by omega),show ((a:Int)+1-1)=((a:Nat):Int) by omega,BH hd,lY,hd];by_cases h2:d.cons=[]<;>simp[e1,e2,AN,h2]
 ·rw[jn h];have:(decide (1<=t)&&decide (t<=Sh.len D))=false:=by
   rw[AN];by_cases h1:1<=t
   ·have h2:¬ t<=(D.length:Int):=λq=>h ⟨h1,q⟩;simp[h1,h2]
   ·simp[h1]
  simp[this]
section
variable {p : AP} {sg : BO} {R1 : AP -> List Int -> AE -> Option Int} {R2 : List Int -> BO -> AE -> Option Int} {T : List Int -> AE -> Int} {e : AE} {v : List Int} {N : Nat}
theorem FM (H:KD p sg R1 R2 T (en e))(V:IG p e v)(hN:2000000<=N)(h1:¬ e.op=12)(h2:¬ e.op=13)(h3:¬ e.op=7)(h4:¬ e.op=8):
  Ao N R2 v sg e=if (e.kids.map (T v)).any (λt=>decide (t<0))=true then some (-1) else (BI N sg e.op e.num (e.kids.map (T v))).bind λq=>if q.2=true then some q.1 else some (-1):=by
 unfold Ao;have hk:=V.LH;simp only[h1,h2,h3,h4,kA,jk,kH];rw[AN,Pf _ _ _ (by omega) (by omega)];simp only[jd];rw[XW H V hN];by_cases h:(e.kids.map (T v)).any (λt=>decide (t<0))=true
 ·rw[jm h,jm h];rfl
 ·rw[jn h,jn h];simp only[Sh.Ni];cases BI N sg e.op e.num (e.kids.map (T v)) with
  | none=>rfl
  | some q=>simp only[jd];cases q.2<;>rfl
theorem Kq (H:KD p sg R1 R2 T (en e))(V:IG p e v)(hN:2000000<=N)(h1:¬ e.op=12)(h2:¬ e.op=13)(h3:¬ e.op=7)(h4:¬ e.op=8){want:List Int}{c:Bool}{t:Int}(hw :∀x∈want,0<=x)
  (hs:BI N sg e.op e.num (e.kids.map (T v))=some (t,c&&decide (e.kids.map (T v)=want))) :
  Ao N R2 v sg e=some (if c=true/\e.kids.map (T v)=want then t else -1):=by
 rw[FM H V hN h1 h2 h3 h4,hs];by_cases h:e.kids.map (T v)=want
 ·have:¬ (e.kids.map (T v)).any (λt=>decide (t<0))=true:=λq=>by
   obtain⟨x,hx,vp⟩:=mG.1 q;have:=hw x (h▸hx);simp only[jw]at vp;omega
  rw[jn this];cases c<;>simp[h]
 ·have hn:¬ (c=true/\e.kids.map (T v)=want):=λq=>h q.2;rw[jn hn];simp[h]
end
end RC
namespace RC
open Go
def Ev (p:AP):BO:=⟨p.decls,p.funcs.map λf=>⟨f.params,[],f.result⟩⟩
section
variable {p : AP} {R1 : AP -> List Int -> AE -> Option Int} {R2 : List Int -> BO -> AE -> Option Int} {T : List Int -> AE -> Int} {e : AE} {v : List Int} {N : Nat}
def Kc (p:AP)(R1:AP->List Int->AE->Option Int)(R2:List Int->BO->AE->Option Int)(N:Nat)(v:List Int)(e:AE):Prop:=
 ∃t,Bp N R1 p v e=some t/\Ao N R2 v (Ev p) e=some t/\(t=-1∨DJ p.decls t=true)
theorem fK {D:List AM}:DJ D 0=true:=by unfold DJ;simp
theorem len_nil {α:Type}{l:List α}:decide ((Sh.len l)=0)=decide (l=[]):=by
 cases l with
 | nil=>rfl
 | cons x r=>exact mU.2 (by rw[AN,kQ];exact⟨λh=>by omega,λh=>nomatch h⟩)
theorem cK (H:KD p (Ev p) R1 R2 T (en e))(V:IG p e v)(hN:2000000<=N)(h:e.op=0):Kc p R1 R2 N v e:=by
 have h1:=Kq H V hN (by omega) (by omega) (by omega) (by omega) (want:=[]) (c:=decide (-999<=e.num)&&decide (e.num<=999)) (t:=0) (by simp) (by
  unfold BI;simp only[h,jx,kO,len_nil];by_cases a:-999<=e.num<;>by_cases b:e.num<=999<;>simp[a,b,Sh.cont])
 refine⟨_,?_,h1,?_⟩
 ·unfold Bp;simp only[h,jx,kO,len_nil,Ep];by_cases a:-999<=e.num<;>by_cases b:e.num<=999<;>by_cases c:e.kids=[]<;>simp[a,b,c,Sh.cont]
 ·split
  ·exact .inr fK
  ·exact .inl rfl
theorem Yy (H:KD p (Ev p) R1 R2 T (en e))(V:IG p e v)(hN:2000000<=N)(h:e.op=1∨e.op=2∨e.op=3∨e.op=4):Kc p R1 R2 N v e:=by
 have hk:=V.LH;have h1:=Kq H V hN (by omega) (by omega) (by omega) (by omega) (want:=[0,0]) (c:=decide (e.num=0)) (t:=0) (by simp) (by
  unfold BI;have e3:DP N (e.kids.map (T v)) [0,0]=some (decide (e.kids.map (T v)=[0,0])):=Nt (by simp;omega) hN;rcases h with h|h|h|h<;>simp only[h,Int.reduceEq,jx,kA,jk,kO,kH,jd,Sh.Ni]<;>rw[e3]<;>by_cases a:e.num=0<;>simp[a])
 refine⟨_,?_,h1,?_⟩
 ·unfold Bp;have e2:=O9 H V hN 2;rw[show ((2:Nat):Int)=2 from rfl,show List.replicate 2 (0:Int)=[0,0] from rfl]at e2;rcases h with h|h|h|h<;>simp only[h,Int.reduceEq,jx,kA,jk,kO,kH,jd]<;>rw[e2]<;>by_cases a:e.num=0<;>by_cases b:e.kids.map (T v)=[0,0]<;>simp[a,b,Sh.cont]
 ·split
  ·exact .inr fK
  ·exact .inl rfl
theorem YL (H:KD p (Ev p) R1 R2 T (en e))(V:IG p e v)(hN:2000000<=N)(h:e.op=5):Kc p R1 R2 N v e:=by
 have hk:=V.LH;have h1:=Kq H V hN (by omega) (by omega) (by omega) (by omega) (want:=[0]) (c:=decide (e.num=0)) (t:=0) (by simp) (by
  unfold BI;simp only[h,Int.reduceEq,jx,kA,jk,kO,kH,jd,Sh.Ni];rw[Nt (by simp;omega) hN];by_cases a:e.num=0<;>simp[a])
 refine⟨_,?_,h1,?_⟩
 ·unfold Bp;have e2:=O9 H V hN 1;rw[show ((1:Nat):Int)=1 from rfl,show List.replicate 1 (0:Int)=[0] from rfl]at e2;simp only[h,Int.reduceEq,jx,kA,jk,kO,kH,jd];rw[e2];by_cases a:e.num=0<;>by_cases b:e.kids.map (T v)=[0]<;>simp[a,b,Sh.cont]
 ·split
  ·exact .inr fK
  ·exact .inl rfl
theorem cb (H:KD p (Ev p) R1 R2 T (en e))(V:IG p e v)(S:Ek p.decls p.funcs)(hN:2000000<=N)(h:e.op=6):Kc p R1 R2 N v e:=by
 have hk:=V.LH;have hD:=S.NC;have hn:=S.nc;by_cases hr:0<=e.num/\e.num<(nc p.decls:Int)
 ·obtain⟨c,hc⟩:=kZ hr.1;have xk:c<nc p.decls:=by omega
  obtain⟨t,x,e1,e2⟩:=Kg (D:=p.decls) (by omega) (by omega) xk hN;obtain⟨t',x',vc,e3⟩:=G3 (D:=p.decls) (by omega) (by omega) xk hN;obtain⟨t'',x'',e1'',e4⟩:=Ow (D:=p.decls) (by omega) (by omega) xk hN;rw[e1]at vc e1'';cases vc;cases e1'';obtain⟨g1,g2,d,g3,g4⟩:=Ki e1;have hx:=S.LD d g3 x g4;have h1:=Kq H V hN (by omega) (by omega) (by omega) (by omega) (want:=x.fields) (c:=true) (t:=(t:Int)) (λy hy=>(Ju (hx.2 y hy)).1) (by
   unfold BI;simp only[h,Int.reduceEq,jx,kA,jk,kO,kH,jd];rw[hc,show (Ev p).decls=p.decls from rfl,e4];simp only[jd];rw[Nt (by simp;omega) hN,jm (by simp)];simp[Sh.cont])
  refine⟨_,?_,h1,?_⟩
  ·unfold Bp;simp only[h,Int.reduceEq,jx,kA,jk,kO,kH,jd];rw[hc,e2,e3];simp only[jd];rw[Po H V hN,jm (by simp;omega)];by_cases b:e.kids.map (T v)=x.fields<;>simp[b,Sh.cont]
  ·split
   ·right;unfold DJ;simp;omega
   ·exact .inl rfl
 ·refine⟨-1,?_,?_,.inl rfl⟩
  ·unfold Bp;simp only[h,Int.reduceEq,jx,kA,jk,kO,kH,jd];rw[Mk (by omega) (by omega) (by omega) hN];simp[Sh.cont]
  ·rw[FM H V hN (by omega) (by omega) (by omega) (by omega)];unfold BI;simp only[h,Int.reduceEq,jx,kA,jk,kO,kH,jd];rw[show (Ev p).decls=p.decls from rfl,T4 (by omega) (by omega) V.CZ.num (by omega) hN];simp[Sh.cont]
theorem ZT (H:KD p (Ev p) R1 R2 T (en e))(V:IG p e v)(hN:2000000<=N)(h:e.op<0∨13<e.op):Kc p R1 R2 N v e:=by
 refine⟨-1,?_,?_,.inl rfl⟩
 ·unfold Bp;simp only[show ¬ e.op=0 by omega,show ¬ e.op=12 by omega,show ¬ e.op=1 by omega,show ¬ e.op=2 by omega,show ¬ e.op=3 by omega,show ¬ e.op=4 by omega,show ¬ e.op=5 by omega,show ¬ e.op=6 by omega,show ¬ e.op=13 by omega,show ¬ e.op=7 by omega,show ¬ e.op=8 by omega,show ¬ e.op=9 by omega,show ¬ e.op=10 by omega,show ¬ e.op=11 by omega,kA,jk,kH,jd];simp[Sh.cont]
 ·rw[FM H V hN (by omega) (by omega) (by omega) (by omega)];unfold BI;simp only[show ¬ e.op=0 by omega,show ¬ e.op=12 by omega,show ¬ e.op=1 by omega,show ¬ e.op=2 by omega,show ¬ e.op=3 by omega,show ¬ e.op=4 by omega,show ¬ e.op=5 by omega,show ¬ e.op=6 by omega,show ¬ e.op=13 by omega,show ¬ e.op=7 by omega,show ¬ e.op=8 by omega,show ¬ e.op=9 by omega,show ¬ e.op=10 by omega,show ¬ e.op=11 by omega,kA,jk,kH,jd];simp[Sh.cont]
theorem cM (V:IG p e v)(h:e.op=12):Kc p R1 R2 N v e:=by
 have hv:v.length<=1000:=by have:=V.len;omega
 unfold Kc Bp Ao;simp only[h,Int.reduceEq,jx,kA,jk,kO,kH,jd,len_nil,Ep];rw[AN,BK (by omega) (by omega)];cases qq:e.kids with
 | cons a r=>exact⟨-1,by simp[Sh.cont],by simp[AN],.inl rfl⟩
 | nil=>
  by_cases h1:0<=e.num
  ·by_cases h2:e.num<(v.length:Int)
   ·obtain⟨x,g1,g2⟩:=PA h1 h2;have h3:e.num<=(v.length:Int)-1:=by omega
    have h4:¬ e.num<0:=by omega
    have h5:¬ (v.length:Int)<=e.num:=by omega
    refine⟨x,?_,?_,.inr (V.H6 x (je g2))⟩
    ·simp[h1,h3,g1,Sh.cont]
    ·simp[h4,h5,g1,AN]
   ·have h3:¬ e.num<=(v.length:Int)-1:=by omega
    have h4:¬ e.num<0:=by omega
    have h5:(v.length:Int)<=e.num:=by omega
    exact⟨-1,by simp[h1,h3,Sh.cont],by simp[h4,h5,AN],.inl rfl⟩
  ·have h4:e.num<0:=by omega
   exact⟨-1,by simp[h1,Sh.cont],by simp[h4,AN],.inl rfl⟩
end
end RC
namespace RC
open Go
section
variable {p : AP} {R1 : AP -> List Int -> AE -> Option Int} {R2 : List Int -> BO -> AE -> Option Int} {T : List Int -> AE -> Int} {e : AE} {v : List Int} {N : Nat}
theorem cT (H:KD p (Ev p) R1 R2 T (en e))(V:IG p e v)(h:e.op=13):Kc p R1 R2 N v e:=by
 have hv:v.length<=1000:=by have:=V.len;omega
 unfold Kc Bp Ao;simp only[h,Int.reduceEq,jx,kA,jk,kO,kH,jd];by_cases hl:e.kids.length=2
 ·obtain⟨a,b,hk⟩ :∃a b,e.kids=[a,b]:=by
   match hk:e.kids,hl with
   | [a,b],_=>exact⟨a,b,rfl⟩
  have pk:a∈e.kids:=by rw[hk];simp
  have rv:b∈e.kids:=by rw[hk];simp
  obtain⟨a1,a2,a3⟩:=H v a (V.CZ.kids a pk) (DE pk) (V.JL pk) V.H6;have g0:Sh.get e.kids 0=some a:=by rw[hk];rfl
  have g1:Sh.get e.kids 1=some b:=by rw[hk];rfl
  rw[g0,g1];simp only[jd,AN,hl];rw[a1,a2];simp only[jd];by_cases hn:e.num=0
  ·by_cases ht:0<=T v a
   ·have uz:¬ T v a<0:=by omega
    have tk:DJ p.decls (T v a)=true:=by
     rcases a3 with q|q
     ·omega
     ·exact q
    obtain⟨b1,b2,b3⟩:=H (v++[T v a]) b (V.CZ.kids b rv) (DE rv) (V.more rv (by simp)) (V.Wv (by simp[tk]));refine⟨T (v++[T v a]) b,?_,?_,b3⟩
    ·rw[I6 hv (by simp)];simp[hn,ht,b1,Sh.cont]
    ·rw[EM v [T v a] 8 (by simp;omega) (by simp;omega)];simp[hn,uz,b2]
   ·have uz:T v a<0:=by omega
    exact⟨-1,by simp[hn,ht,Sh.cont],by simp[hn,uz],.inl rfl⟩
  ·exact⟨-1,by simp[hn,Sh.cont],by simp[hn],.inl rfl⟩
 ·have sy:¬ ((e.kids.length:Int)=2):=by omega
  refine⟨-1,?_,?_,.inl rfl⟩
  ·by_cases hn:e.num=0<;>simp[hn,AN,sy,Sh.cont]
  ·simp[AN,sy]
theorem TI (x y:Int):LJ [x,y]=if y=x then x else -1:=by
 unfold LJ;by_cases h:y=x<;>simp[h]
theorem ec (H:KD p (Ev p) R1 R2 T (en e))(V:IG p e v)(hN:2000000<=N)(h:e.op=7):Kc p R1 R2 N v e:=by
 have hv:v.length<=1000:=by have:=V.len;omega
 unfold Kc Bp Ao;simp only[h,Int.reduceEq,jx,kA,jk,kO,kH,jd];by_cases hl:e.kids.length=3
 ·obtain⟨a,b,c,hk⟩ :∃a b c,e.kids=[a,b,c]:=by
   match hk:e.kids,hl with
   | [a,b,c],_=>exact⟨a,b,c,rfl⟩
  have pk:a∈e.kids:=by rw[hk];simp
  have rv:b∈e.kids:=by rw[hk];simp
  have hmc:c∈e.kids:=by rw[hk];simp
  obtain⟨a1,a2,a3⟩:=H v a (V.CZ.kids a pk) (DE pk) (V.JL pk) V.H6;obtain⟨b1,b2,b3⟩:=H v b (V.CZ.kids b rv) (DE rv) (V.JL rv) V.H6;obtain⟨c1,c2,c3⟩:=H v c (V.CZ.kids c hmc) (DE hmc) (V.JL hmc) V.H6;have g0:Sh.get e.kids 0=some a:=by rw[hk];rfl
  have g1:Sh.get e.kids 1=some b:=by rw[hk];rfl
  have g2:Sh.get e.kids 2=some c:=by rw[hk];rfl
  have g3:Sh.sl e.kids 1 3=some [b,c]:=by rw[hk];rfl
  have o:=J9 (ks:=[b,c]) (ms:=[[],[]]) H V hN (by intro k hk;simp only[js,kN,kx]at hk;rcases hk with rfl|rfl<;>assumption) (by simp) rfl (by simp);have mk2:Sh.mk ([]:List Int) 2 24=some [[],[]]:=Pf [] 2 24 (by omega) (by omega);rw[g0,g1,g2];simp only[jd,AN,hl];rw[a1,a2,b1,c1,show ((3:Nat):Int)=3 from rfl,g3,mk2];simp only[jd];rw[o];simp only[jd,List.zipWith,ky,TI];by_cases hn:e.num=0
  ·by_cases ht:T v a=0
   ·by_cases hq:T v c=T v b
    ·exact⟨T v b,by simp[hn,ht,hq,Sh.cont],by simp[hn,ht,hq],b3⟩
    ·exact⟨-1,by simp[hn,ht,hq,Sh.cont],by simp[hn,ht,hq],.inl rfl⟩
   ·exact⟨-1,by simp[hn,ht,Sh.cont],by simp[hn,ht],.inl rfl⟩
  ·exact⟨-1,by simp[hn,Sh.cont],by simp[hn],.inl rfl⟩
 ·have sy:¬ ((e.kids.length:Int)=3):=by omega
  refine⟨-1,?_,?_,.inl rfl⟩
  ·by_cases hn:e.num=0<;>simp[hn,AN,sy,Sh.cont]
  ·simp[AN,sy]
theorem bD {n:Int}:(∃f,0<=n/\n<(p.funcs.length:Int)/\p.funcs[n.toNat]?=some f/\f∈p.funcs/\Sh.get p.funcs n=some f/\Sh.get (Ev p).funcs n=some ⟨f.params,[],f.result⟩)∨(n<0∨(p.funcs.length:Int)<=n):=by
 by_cases h:0<=n/\n<(p.funcs.length:Int)
 ·obtain⟨f,h1,h2⟩:=PA h.1 h.2;refine .inl ⟨f,h.1,h.2,h2,je h2,h1,?_⟩;rw[Wx h.1];show ((p.funcs.map λf=>(⟨f.params,[],f.result⟩:Bt)))[n.toNat]?=_;rw[ji,h2];rfl
 ·exact .inr (by omega)
theorem Mw:(Ev p).funcs.length=p.funcs.length:=by show (p.funcs.map _).length=_;simp
theorem ah (H:KD p (Ev p) R1 R2 T (en e))(V:IG p e v)(S:Ek p.decls p.funcs)(hN:2000000<=N)(h:e.op=9):Kc p R1 R2 N v e:=by
 have hk:=V.LH;have hF:=S.LN;rcases bD (p:=p) (n:=e.num) with ⟨f,f0,f1,f2,f3,f4,f5⟩|hr
 ·obtain⟨q1,q2,q3⟩:=S.O6 f f3;have f0':¬ e.num<0:=by omega
  have f1':¬ (p.funcs.length:Int)<=e.num:=by omega
  have wJ:e.num<=(p.funcs.length:Int)-1:=by omega
  have h1:=Kq H V hN (by omega) (by omega) (by omega) (by omega) (want:=f.params) (c:=true) (t:=f.result) (λy hy=>(Ju (q2 y hy)).1) (by
   unfold BI;simp only[h,Int.reduceEq,jx,kA,jk,kO,kH,jd,AN,Mw,f0',f1'];rw[f5];simp only[jd];rw[Nt (by simp;omega) hN];simp[Sh.cont])
  refine⟨_,?_,h1,?_⟩
  ·unfold Bp GS;simp only[h,Int.reduceEq,jx,kA,jk,kO,kH,jd];rw[Ep,AN p.funcs,BK (n:=(p.funcs.length:Int)-1) (by omega) (by omega),f4];simp only[h,Int.reduceEq,jx,kA,jk,kO,kH,jd,f0,wJ,nT,lL];rw[Po H V hN];by_cases b:e.kids.map (T v)=f.params<;>simp[b,Sh.cont]
  ·split
   ·exact .inr q3
   ·exact .inl rfl
 ·refine⟨-1,?_,?_,.inl rfl⟩
  ·unfold Bp GS;simp only[h,Int.reduceEq,jx,kA,jk,kO,kH,jd];rw[Ep,AN p.funcs,BK (n:=(p.funcs.length:Int)-1) (by omega) (by omega)];have:(decide (0<=e.num)&&decide (e.num<=(p.funcs.length:Int)-1))=false:=by
    rw[Bool.and_eq_false_iff,mJ,mJ];omega
   rw[this];simp only[h,Int.reduceEq,jx,kA,jk,kO,kH,jd];simp[Sh.cont]
  ·rw[FM H V hN (by omega) (by omega) (by omega) (by omega)];unfold BI;simp only[h,Int.reduceEq,jx,kA,jk,kO,kH,jd,AN,Mw];rcases hr with hr|hr
   ·simp[hr,Sh.cont]
   ·have:¬ e.num<0:=by omega
    simp[hr,this,Sh.cont]
theorem Y0 {α:Type}{l:List α}{m:Nat}(h:m<=l.length):Sh.sl l 0 (m:Int)=some (l.take m):=by
 unfold Sh.sl;rw[jm ⟨by omega,by omega,by omega⟩];simp
theorem Y8 (H:KD p (Ev p) R1 R2 T (en e))(V:IG p e v)(S:Ek p.decls p.funcs)(hN:2000000<=N)(h:e.op=10):Kc p R1 R2 N v e:=by
 have hk:=V.LH;have hF:=S.LN;have hD:=S.NC;rcases bD (p:=p) (n:=e.num) with ⟨f,f0,f1,f2,f3,f4,f5⟩|hr
 ·obtain⟨q1,q2,q3⟩:=S.O6 f f3;have f0':¬ e.num<0:=by omega
  have f1':¬ (p.funcs.length:Int)<=e.num:=by omega
  have wJ:e.num<=(p.funcs.length:Int)-1:=by omega
  by_cases hp:f.params.length=0
  ·have uK:f.params=[]:=ka hp;refine⟨-1,?_,?_,.inl rfl⟩
   ·unfold Bp GS;simp only[h,Int.reduceEq,jx,kA,jk,kO,kH,jd];rw[Ep,AN p.funcs,BK (n:=(p.funcs.length:Int)-1) (by omega) (by omega),f4];simp only[h,Int.reduceEq,jx,kA,jk,kO,kH,jd,f0,wJ,nT,lL,len_nil,uK];simp[Sh.cont]
   ·rw[FM H V hN (by omega) (by omega) (by omega) (by omega)];unfold BI;simp only[h,Int.reduceEq,jx,kA,jk,kO,kH,jd,AN,Mw,f0',f1'];rw[f5];simp only[jd,hp];rw[BK (by omega) (by omega)];simp[Sh.cont]
  ·obtain⟨m,hm⟩ :∃m,f.params.length=m+1:=⟨f.params.length-1,by omega⟩
   obtain⟨x,hx,sm⟩:=CF (l:=f.params) (i:=m) (by omega);have uK:¬ f.params=[]:=λq=>hp (by rw[q];rfl);have hw:Sh.w ((f.params.length:Int)-1)=(m:Int):=by rw[BK (by omega) (by omega)];omega
   have wy:¬ ((m:Int)<0):=by omega
   have tk:IL x f.result p.decls 0=-1∨DJ p.decls (IL x f.result p.decls 0)=true:=by
    rcases ZO (a:=x) (b:=f.result) p.decls 0 with q|q
    ·exact .inl q
    ·right;unfold DJ;simp;omega
   have h1:=Kq H V hN (by omega) (by omega) (by omega) (by omega) (want:=f.params.take m) (c:=decide (0<=IL x f.result p.decls 0)) (t:=IL x f.result p.decls 0) (λy hy=>(Ju (q2 y (kv hy))).1) (by
    unfold BI;simp only[h,Int.reduceEq,jx,kA,jk,kO,kH,jd,AN,Mw,f0',f1'];rw[f5];simp only[jd,hw,wy,kA,jk,kH];rw[BH hx];simp only[jd];rw[show (Ev p).decls=p.decls from rfl,S5 (by omega) hN,Y0 (by omega)];simp only[jd];rw[Nt (by simp;omega) hN];by_cases z:0<=IL x f.result p.decls 0<;>simp[z,Sh.cont])
   refine⟨_,?_,h1,?_⟩
   ·unfold Bp GS;simp only[h,Int.reduceEq,jx,kA,jk,kO,kH,jd];rw[Ep,AN p.funcs,BK (n:=(p.funcs.length:Int)-1) (by omega) (by omega),f4];simp only[h,Int.reduceEq,jx,kA,jk,kO,kH,jd,f0,wJ,nT,lL,len_nil,uK];rw[AN,hw,Y0 (by omega),BH hx];simp only[jd];rw[Po H V hN,Ny (by omega) hN];by_cases b:e.kids.map (T v)=f.params.take m
    ·by_cases z:0<=IL x f.result p.decls 0
     ·simp[b,z,Sh.cont]
     ·have:IL x f.result p.decls 0=-1:=by
       rcases tk with q|q
       ·exact q
       ·exact absurd (Ju q).1 z
      simp[b,this,Sh.cont]
    ·simp[b,Sh.cont]
   ·split
    ·exact tk
    ·exact .inl rfl
 ·refine⟨-1,?_,?_,.inl rfl⟩
  ·unfold Bp GS;simp only[h,Int.reduceEq,jx,kA,jk,kO,kH,jd];rw[Ep,AN p.funcs,BK (n:=(p.funcs.length:Int)-1) (by omega) (by omega)];have:(decide (0<=e.num)&&decide (e.num<=(p.funcs.length:Int)-1))=false:=by
    rw[Bool.and_eq_false_iff,mJ,mJ];omega
   rw[this];simp only[h,Int.reduceEq,jx,kA,jk,kO,kH,jd];simp[Sh.cont]
  ·rw[FM H V hN (by omega) (by omega) (by omega) (by omega)];unfold BI;simp only[h,Int.reduceEq,jx,kA,jk,kO,kH,jd,AN,Mw];rcases hr with hr|hr
   ·simp[hr,Sh.cont]
   ·have:¬ e.num<0:=by omega
    simp[hr,this,Sh.cont]
theorem Yg (H:KD p (Ev p) R1 R2 T (en e))(V:IG p e v)(S:Ek p.decls p.funcs)(hN:2000000<=N)(h:e.op=11):Kc p R1 R2 N v e:=by
 have hk:=V.LH;have hD:=S.NC;by_cases hl:e.kids.length=2
 ·obtain⟨a,b,hk⟩ :∃a b,e.kids=[a,b]:=by
   match hk:e.kids,hl with
   | [a,b],_=>exact⟨a,b,rfl⟩
  have pk:a∈e.kids:=by rw[hk];simp
  have rv:b∈e.kids:=by rw[hk];simp
  obtain⟨a1,a2,a3⟩:=H v a (V.CZ.kids a pk) (DE pk) (V.JL pk) V.H6;obtain⟨b1,b2,b3⟩:=H v b (V.CZ.kids b rv) (DE rv) (V.JL rv) V.H6;have g0:Sh.get e.kids 0=some a:=by rw[hk];rfl
  have g1:Sh.get e.kids 1=some b:=by rw[hk];rfl
  have i1:Sh.get (e.kids.map (T v)) 0=some (T v a):=by rw[hk];rfl
  have i2:Sh.get (e.kids.map (T v)) 1=some (T v b):=by rw[hk];rfl
  have imp:Ao N R2 v (Ev p) e=some ((Ql p.decls (T v a)).elim (-1) λd=>if T v b=d.from_/\e.num=0 then d.to else -1):=by
   rw[FM H V hN (by omega) (by omega) (by omega) (by omega)];unfold BI;simp only[h,Int.reduceEq,jx,kA,jk,kO,kH,jd,AN,kB,hl];rw[i1,i2];simp only[jd];rw[show (Ev p).decls=p.decls from rfl,Su (by omega)];simp only[jd];cases hA:Ql p.decls (T v a) with
   | none=>simp[Sh.cont]
   | some d=>
    obtain⟨m1,m2,m3,m4⟩:=SV hA;have m5:=S.dc d m1;have n1:¬ T v a<0:=by omega
    by_cases c1:T v b=d.from_
    ·have n2:¬ T v b<0:=by rw[c1];have:=(Ju m5.1).1;omega
     have n3:¬ d.from_<0:=c1▸n2;by_cases c2:e.num=0<;>simp[hk,n1,c1,n3,c2,Sh.cont]
    ·simp[c1,Sh.cont]
  refine⟨_,?_,imp,?_⟩
  ·unfold Bp;simp only[h,Int.reduceEq,jx,kA,jk,kO,kH,jd,AN,hl];rw[g0,g1];simp only[jd];rw[a1];simp only[jd];rw[JQ (by omega),b1];simp only[jd];cases hA:Ql p.decls (T v a) with
   | none=>by_cases c2:e.num=0<;>simp[c2,Sh.cont]
   | some d=>
    obtain⟨m1,m2,m3,m4⟩:=SV hA;have g5:Sh.get p.decls (Sh.w (T v a-1))=some d:=by rw[BK (by omega) (by omega),Wx (by omega),m4]
    rw[g5];by_cases c2:e.num=0<;>by_cases c1:T v b=d.from_<;>simp[c1,c2,Sh.cont]
  ·cases hA:Ql p.decls (T v a) with
   | none=>exact .inl rfl
   | some d=>
    obtain⟨m1,_⟩:=SV hA;simp only[mC];split
    ·exact .inr (S.dc d m1).2
    ·exact .inl rfl
 ·have sy:¬ ((e.kids.length:Int)=2):=by omega
  refine⟨-1,?_,?_,.inl rfl⟩
  ·unfold Bp;simp only[h,Int.reduceEq,jx,kA,jk,kO,kH,jd,AN,sy];by_cases c2:e.num=0<;>simp[c2,Sh.cont]
  ·rw[FM H V hN (by omega) (by omega) (by omega) (by omega)];unfold BI;simp only[h,Int.reduceEq,jx,kA,jk,kO,kH,jd,AN,kB,sy];simp[Sh.cont]
end
end RC
namespace RC
open Go
def Fc (D:List AM)(c:Int):List Int:=(Gf D 0 c.toNat).elim [] λx=>x.2.fields
theorem Z3 {D:List AM}{t c:Int}(h:c∈Bs D t):∃k:Nat,c=(k:Int)/\k<nc D:=by
 unfold Bs at h;split at h
 ·rename_i h1;obtain⟨a,ha⟩ :∃a:Nat,t=(a:Int)+1:=⟨(t-1).toNat,by omega⟩
  subst ha;obtain⟨d,hd,_⟩:=CF (l:=D) (i:=a) (by omega);rw[show (((a:Int)+1)-1).toNat=a by omega,hd]at h;simp only[mC,kC,lp]at h;obtain⟨i,hi,rfl⟩:=h;have hs:=Gt D a;rw[Rm hd]at hs;exact⟨nc (D.take a)+i,by omega,by omega⟩
 ·cases h
theorem J0 {D:List AM}(h :∀d∈D,d.cons.length<=3)(t:Int):(Bs D t).length<=3:=by
 unfold Bs;split
 ·rename_i h1;obtain⟨a,ha⟩ :∃a:Nat,t=(a:Int)+1:=⟨(t-1).toNat,by omega⟩
  subst ha;obtain⟨d,hd,hm⟩:=CF (l:=D) (i:=a) (by omega);rw[show (((a:Int)+1)-1).toNat=a by omega,hd];simp only[mC,kB,nQ];exact h d hm
 ·simp
theorem Mq {D:List AM}{F:List Ac}(S:Ek D F){t c:Int}(h:c∈Bs D t){N:Nat}(hN:2000000<=N):Bu N D c=some (Fc D c)/\EJ N D c=some (Fc D c)/\(Fc D c).length<=3/\∀x∈Fc D c,DJ D x=true:=by
 obtain⟨k,rfl,hk⟩:=Z3 h;have hD:=S.NC;have hn:=S.nc;obtain⟨t,x,e1,e2⟩:=G3 (D:=D) (by omega) (by omega) hk hN;obtain⟨t',x',vc,e3⟩:=RV (D:=D) (by omega) (by omega) hk hN;rw[e1]at vc;cases vc;obtain⟨_,_,d,g3,g4⟩:=Ki e1;have hf:Fc D (k:Int)=x.fields:=by unfold Fc;rw[lY,e1];rfl
 rw[hf];exact⟨e2,e3,S.LD d g3 x g4⟩
section
variable {p : AP} {R1 : AP -> List Int -> AE -> Option Int} {R2 : List Int -> BO -> AE -> Option Int} {T : List Int -> AE -> Int} {e : AE} {v : List Int} {N : Nat}
theorem N6 (S:Ek p.decls p.funcs)(hN:2000000<=N){C:List Int}(hC:C.length<=3)(hc :∀c∈C,EJ N p.decls c=some (Fc p.decls c)):CH N (Ev p) C N 0 (List.replicate C.length [])=some (C.map (Fc p.decls)):=by
 have key:∀{M i:Nat},i<=C.length->C.length-i<M->∀m:List (List Int),m.length=C.length->m.take i=(C.map (Fc p.decls)).take i->CH N (Ev p) C M i m=some (C.map (Fc p.decls)):=by
  intro M i hi hM;refine Bo C.length (λM i=>∀m:List (List Int),m.length=C.length->m.take i=(C.map (Fc p.decls)).take i->CH N (Ev p) C M i m=some (C.map (Fc p.decls))) ?_ ?_ hi hM
  ·intro n m a b;rw[CH,jn (by simp[AN])];rw[kY (by omega),kY (by simp)]at b;rw[b]
  ·intro n i hi ih m a b;obtain⟨x,hx,sm⟩:=CF hi;obtain⟨y,hy,_⟩:=CF (l:=m) (i:=i) (by omega);have vp:(C.map (Fc p.decls))[i]?=some (Fc p.decls x):=by rw[ji,hx];rfl
   have rD:(m.set i (Fc p.decls x))[i]?=some (Fc p.decls x):=by rw[ju (by omega)]
   rw[CH,jm (by simp[AN];omega),BH hx];simp only[jd];rw[show (Ev p).decls=p.decls from rfl,hc x sm,BH hy];simp only[jd];rw[PH,BK (by omega) (by omega),show ((i:Int)+1)=((i+1:Nat):Int) by omega];exact ih _ (by simp[a]) (by rw[D4 rD,D4 vp,<- b,nG (jv _)])
 have:=key (kE _) (by omega:C.length-0<N) (List.replicate C.length []) (by simp) rfl;simpa using this
theorem ZR (H:KD p (Ev p) R1 R2 T (en e))(V:IG p e v)(S:Ek p.decls p.funcs)(hN:2000000<=N)(h:e.op=8):Kc p R1 R2 N v e:=by
 have hk:=V.LH;have hD:=S.NC;have hn:=S.nc;have hv:v.length<=1000:=by have:=V.len;omega
 have wq:=J0 S.QU e.num;unfold Kc Bp Ao Jr;simp only[h,Int.reduceEq,jx,kA,jk,kO,kH,jd];rw[show (Ev p).decls=p.decls from rfl,LX (by omega) (by omega) hN,HC (by omega) (by omega) hN];simp only[jd];generalize xl:Bs p.decls e.num=C at wq;have vU:∀c∈C,Bu N p.decls c=some (Fc p.decls c)/\EJ N p.decls c=some (Fc p.decls c)/\(Fc p.decls c).length<=3/\∀x∈Fc p.decls c,DJ p.decls x=true:=λc hc=>Mq S (xl▸hc) hN;rw[AN C,AN e.kids,BK (n:=1+(C.length:Int)) (by omega) (by omega)];by_cases h0:C.length=0
 ·exact⟨-1,by simp[h0,Sh.cont],by simp[h0],.inl rfl⟩
 ·have sY:¬ ((C.length:Int)=0):=by omega
  have pN:¬ C=[]:=λq=>h0 (by rw[q];rfl);by_cases h1:e.kids.length=1+C.length
  ·have rC:((e.kids.length:Int)=1+(C.length:Int)):=by omega
   obtain⟨a,r,qq⟩ :∃a r,e.kids=a::r:=by
    cases hq:e.kids with
    | nil=>rw[hq]at h1;simp at h1;omega
    | cons a r=>exact⟨a,r,rfl⟩
   have sW:r.length=C.length:=by rw[qq]at h1;simp at h1;omega
   have pk:a∈e.kids:=by rw[qq];simp
   have wu:∀k∈r,k∈e.kids:=λk hk=>by rw[qq];simp[hk]
   obtain⟨a1,a2,a3⟩:=H v a (V.CZ.kids a pk) (DE pk) (V.JL pk) V.H6;have g0:Sh.get e.kids 0=some a:=by rw[qq];rfl
   have gi:∀(i:Nat) k,r[i]?=some k->Sh.get e.kids ((1+i:Nat):Int)=some k:=λi k hk=>by
    rw[Nv,qq,Nat.add_comm];simpa using hk
   have g3:Sh.sl e.kids 1 (e.kids.length:Int)=some r:=by
    unfold Sh.sl;rw[jm ⟨by omega,by omega,by omega⟩,qq];simp
   have mkC:Sh.mk ([]:List Int) (C.length:Int) 24=some (List.replicate C.length []):=Pf [] C.length 24 (by omega) (by omega);have o:=J9 (ks:=r) (ms:=C.map (Fc p.decls)) H V hN wu (by omega) (by simp[sW]) (by
    intro m hm;obtain⟨c,hc,rfl⟩:=kC.1 hm;exact (vU c hc).2.2)
   have F:=N6 (p:=p) S hN wq λc hc=>(vU c hc).2.1;generalize hts:List.zipWith (λm k=>T (v++m) k) (C.map (Fc p.decls)) r=ts at o;have tsl:ts.length=C.length:=by rw[<- hts];simp[sW]
   have tsi:∀(i:Nat),i<C.length->∃c k,C[i]?=some c/\r[i]?=some k/\ts[i]?=some (T (v++Fc p.decls c) k)/\Bu N p.decls c=some (Fc p.decls c)/\Ea v (Fc p.decls c)=some (v++Fc p.decls c)/\R1 p (v++Fc p.decls c) k=some (T (v++Fc p.decls c) k)/\(T (v++Fc p.decls c) k=-1∨DJ p.decls (T (v++Fc p.decls c) k)=true):=λi hi=>by
    obtain⟨c,hc,qW⟩:=CF (l:=C) (i:=i) hi;obtain⟨k,hk2,rB⟩:=CF (l:=r) (i:=i) (by omega);obtain⟨q1,q2,q3,q4⟩:=vU c qW;obtain⟨z1,z2,z3⟩:=H (v++Fc p.decls c) k (V.CZ.kids k (wu k rB)) (DE (wu k rB)) (V.more (wu k rB) q3) (V.Wv q4);refine⟨c,k,hc,hk2,?_,q1,I6 hv (by omega),z1,z3⟩;rw[<- hts,lO,ji,hc,hk2];rfl
   have L:∀(t:Int) {M i:Nat},i<=C.length->C.length-i<M->EI N p v e t C R1 M i=some (if (ts.drop i).all (λx=>decide (x=t))=true then .inr () else .inl (-1)):=by
    intro t M i hi hM;refine Bo C.length (λM i=>EI N p v e t C R1 M i=some (if (ts.drop i).all (λx=>decide (x=t))=true then .inr () else .inl (-1))) ?_ ?_ hi hM
    ·intro n;rw[EI,jn (by simp[AN]),mn (by omega)];rfl
    ·intro n i hi ih;obtain⟨c,k,q1,q2,q3,q4,q5,q6,q7⟩:=tsi i hi;rw[EI,jm (by simp[AN];omega),BH q1];simp only[jd];rw[q4];simp only[jd];rw[q5,BK (n:=(1:Int)+(i:Int)) (by omega) (by omega),show ((1:Int)+(i:Int))=((1+i:Nat):Int) by omega,gi i k q2];simp only[jd];rw[q6,BK (by omega) (by omega),show ((i:Int)+1)=((i+1:Nat):Int) by omega,drop_cons q3,lx];simp only[jd];by_cases z:T (v++Fc p.decls c) k=t
     ·simp only[z,jx,lL,jk,kH,mz];exact ih
     ·simp[z]
   rw[g0,g3,mkC];simp only[jd];rw[a1,a2];simp only[jd];rw[F];simp only[jd];rw[o];obtain⟨c,k,q1,q2,q3,q4,q5,q6,q7⟩:=tsi 0 (by omega);have g1:=gi 0 k q2;have c0:Sh.get C 0=some c:=by rw[show (0:Int)=((0:Nat):Int) from rfl,BH q1]
   rw[show ((1+0:Nat):Int)=1 from rfl]at g1;rw[c0];simp only[jd];rw[q4];simp only[jd];rw[q5,g1];simp only[jd];rw[q6];simp only[jd];have L1:=L (T (v++Fc p.decls c) k) (M:=N) (i:=1) (by omega) (by omega);rw[show ((1:Nat):Int)=1 from rfl]at L1;rw[L1];have hts2:ts=T (v++Fc p.decls c) k::ts.drop 1:=by
    have:=drop_cons q3;simpa using this
   by_cases z:T v a=e.num
   ·by_cases y:(ts.drop 1).all (λx=>decide (x=T (v++Fc p.decls c) k))=true
    ·have ho:LJ ts=T (v++Fc p.decls c) k:=by rw[hts2];unfold LJ;dsimp only;rw[if_pos y]
     refine⟨T (v++Fc p.decls c) k,?_,?_,q7⟩
     ·rw[jm y];simp[sY,pN,rC,z,Sh.cont]
     ·rw[ho];simp[sY,pN,rC,z]
    ·have ho:LJ ts=-1:=by rw[hts2];unfold LJ;dsimp only;rw[if_neg y]
     refine⟨-1,?_,?_,.inl rfl⟩
     ·rw[jn y];simp[sY,pN,rC,z,Sh.cont]
     ·rw[ho];simp[sY,pN,rC,z]
   ·exact⟨-1,by simp[sY,pN,rC,z,Sh.cont],by simp[sY,pN,rC,z],.inl rfl⟩
  ·have rC:¬ ((e.kids.length:Int)=1+(C.length:Int)):=by omega
   exact⟨-1,by simp[sY,pN,rC,Sh.cont],by simp[sY,pN,rC],.inl rfl⟩
theorem Zc (H:KD p (Ev p) R1 R2 T (en e))(V:IG p e v)(S:Ek p.decls p.funcs)(hN:2000000<=N):Kc p R1 R2 N v e:=by
 by_cases h0:e.op=0
 ·exact cK H V hN h0
 by_cases h1:e.op=1∨e.op=2∨e.op=3∨e.op=4
 ·exact Yy H V hN h1
 by_cases h5:e.op=5
 ·exact YL H V hN h5
 by_cases h6:e.op=6
 ·exact cb H V S hN h6
 by_cases h7:e.op=7
 ·exact ec H V hN h7
 by_cases h8:e.op=8
 ·exact ZR H V S hN h8
 by_cases h9:e.op=9
 ·exact ah H V S hN h9
 by_cases h10:e.op=10
 ·exact Y8 H V S hN h10
 by_cases h11:e.op=11
 ·exact Yg H V S hN h11
 by_cases qs:e.op=12
 ·exact cM V qs
 by_cases h13:e.op=13
 ·exact cT H V h13
 exact ZT H V hN (by omega)
end
theorem Py {p:AP}(S:Ek p.decls p.funcs){N:Nat}(hN:2000000<=N):∀(n:Nat),∃T:List Int->AE->Int,∀(v:List Int) (e:AE),An e->en e<n->v.length+3*en e<=1000->(∀x∈v,DJ p.decls x=true)->
  ∀n1 n2,n<=n1->n<=n2->Cw N n1 p v e=some (T v e)/\Bq N n2 v (Ev p) e=some (T v e)/\(T v e=-1∨DJ p.decls (T v e)=true):=by
 intro n
 induction n with
 | zero=>exact⟨λ_ _=>0,λv e _ h=>by omega⟩
 | succ n ih=>
  obtain⟨T,hT⟩:=ih;refine⟨λv e=>(Cw N (n+1) p v e).getD 0,λv e hi hn hl ht n1 n2 h1 h2=>?_⟩;have step:∀n1 n2,n<=n1->n<=n2->Kc p (Cw N n1) (Bq N n2) N v e:=λn1 n2 h1 h2=>
   Zc (T:=T) (λv e a b c d=>hT v e a (by omega) c d n1 n2 h1 h2) ⟨hl,ht,by have:=hl;omega,hi⟩ S hN
  obtain⟨m1,rfl⟩ :∃m,n1=m+1:=⟨n1-1,by omega⟩
  obtain⟨m2,rfl⟩ :∃m,n2=m+1:=⟨n2-1,by omega⟩
  obtain⟨t,q1,q2,q3⟩:=step n n (jv _) (jv _);obtain⟨t',r1,r2,_⟩:=step n m2 (jv _) (by omega);obtain⟨t'',s1,s2,_⟩:=step m1 n (by omega) (jv _);have e1:t'=t:=by rw[q1]at r1;cases r1;rfl
  have e2:t''=t:=by rw[q2]at s2;cases s2;rfl
  subst e1;subst e2;have e3:(Cw N (n+1) p v e).getD 0=t'':=by rw[Cw,q1];rfl
  dsimp only;rw[e3];exact⟨by rw[Cw];exact s1,by rw[Bq];exact r2,q3⟩
end RC
namespace RC
open Go
structure EB (p:AP):Prop where
 CZ:Y5 p
 size:SW p<=1048576
theorem EB.decls {p:AP}(S:EB p):P3 p.decls:=by
 have h:=S.size;unfold SW at h;have hd:∀d∈p.decls,dz d<=1048576:=λd hd=>by have:=Kz dz hd;omega
 refine⟨by omega,λd hm=>?_,λd hm c hc=>?_⟩
 ·have:=hd d hm;unfold dz at this;omega
 ·have:=hd d hm;unfold dz at this;have:=Kz cz hc;show cz c<=_;omega
theorem EB.LN {p:AP}(S:EB p):p.funcs.length<=1048576:=by have h:=S.size;unfold SW at h;omega
theorem EB.fz {p:AP}(S:EB p){f:Ac}(hf:f∈p.funcs):f.params.length<=1048576/\CK f.body.kids<=1048576:=by
 have h:=S.size;unfold SW at h;have h2:=Kz Xq hf;have h3:Xq f=f.params.length+CK f.body.kids:=rfl;omega
theorem EB.fin {p:AP}(S:EB p){f:Ac}(hf:f∈p.funcs):Vf f:=S.CZ.funcs.1 f hf
def MP (p:AP):Bool:=OH p.decls (p.funcs.map λf=>(f.params,f.result))
theorem OG {p:AP}(S:EB p){N:Nat}(hN:2000000<=N):HA N p=some (MP p):=Q7 S.decls S.LN (λf hf=>(S.fz hf).1) hN
theorem aT {p:AP}(hl:p.funcs.length<=1048576){N:Nat}(hN:2000000<=N):Dk p N 0 []=some (Ev p).funcs:=by
 have key:∀{N i:Nat},i<=p.funcs.length->p.funcs.length-i<N->Dk p N i ((Ev p).funcs.take i)=some (Ev p).funcs:=by
  intro N i hi hN;refine Bo p.funcs.length (λN i=>Dk p N i ((Ev p).funcs.take i)=some (Ev p).funcs) ?_ ?_ hi hN
  ·intro n;rw[Dk,jn (by simp[AN]),kY (by rw[Mw];omega)]
  ·intro n i hi ih;obtain⟨f,hf,_⟩:=CF hi;have hf2:(Ev p).funcs[i]?=some ⟨f.params,[],f.result⟩:=by
    show (p.funcs.map _)[i]?=_;rw[ji,hf];rfl
   rw[Dk,jm (by simp[AN];omega),BH hf];simp only[jd];rw[EM _ _ _ (by simp;omega) (by simp;omega),BK (by omega) (by omega),show ((i:Int)+1)=((i+1:Nat):Int) by omega];simp only[jd];rw[<- ih,D4 hf2]
 have:=key (kE _) (by omega:p.funcs.length-0<N);simpa using this
theorem aO {p:AP}(hl:p.funcs.length<=1048576){N:Nat}(hN:2000000<=N):KX N p=some (Ev p):=by
 have key:∀{N i:Nat},i<=p.funcs.length->p.funcs.length-i<N->FQ p N i ((Ev p).funcs.take i)=some (Ev p).funcs:=by
  intro N i hi hN;refine Bo p.funcs.length (λN i=>FQ p N i ((Ev p).funcs.take i)=some (Ev p).funcs) ?_ ?_ hi hN
  ·intro n;rw[FQ,jn (by simp[AN]),kY (by rw[Mw];omega)]
  ·intro n i hi ih;obtain⟨f,hf,_⟩:=CF hi;have hf2:(Ev p).funcs[i]?=some ⟨f.params,[],f.result⟩:=by
    show (p.funcs.map _)[i]?=_;rw[ji,hf];rfl
   rw[FQ,jm (by simp[AN];omega),BH hf];simp only[jd];rw[EM _ _ _ (by simp;omega) (by simp;omega),BK (by omega) (by omega),show ((i:Int)+1)=((i+1:Nat):Int) by omega];simp only[jd];rw[<- ih,D4 hf2]
 have:=key (kE _) (by omega:p.funcs.length-0<N);rw[lF,oQ]at this;unfold KX;rw[this];rfl
theorem Uu {p:AP}(S:EB p){N:Nat}(hN:2000000<=N):HB N p=some (MP p):=by
 have hl:=S.LN;unfold HB MP;by_cases h4:p.funcs.length<=4
 ·rw[jn (by rw[jw,AN];omega),aT hl hN];simp only[jd];rw[Q1 S.decls (by rw[Mw];exact hl) (λf hf=>by obtain⟨q,hq,rfl⟩:=kC.1 (show f∈p.funcs.map _ from hf);exact⟨(S.fz hq).1,by simp⟩) hN];have e1:((Ev p).funcs.map λf=>(f.params,f.result))=p.funcs.map λf=>(f.params,f.result):=by
   show (p.funcs.map _).map _=_;rw[lU];rfl
  have e2:((Ev p).funcs.all λf=>Fq (LS f.params f.Fv) 0 f.Fv)=true:=by
   rw[jq];intro f hf;obtain⟨q,hq,rfl⟩:=kC.1 (show f∈p.funcs.map _ from hf);rfl
  rw[e1,e2];simp
 ·rw[jm (by rw[jw,AN];omega)];have:OH p.decls (p.funcs.map λf=>(f.params,f.result))=false:=by
   unfold OH;simp[h4]
  rw[this]
def IF (p:AP)(T:List Int->AE->Int)(f:Ac):Bool:=decide (en f.body<=30)&&decide (T f.params f.body=f.result)
theorem Jv {p:AP}(S:EB p){N:Nat}(hN:2000000<=N):∃b,Bm N p=some b/\EE N p=some b/\(b=true->Ek p.decls p.funcs/\∀f∈p.funcs,en f.body<=30):=by
 unfold Bm EE;rw[OG S hN,Uu S hN];simp only[jd];cases hs:MP p with
 | false=>exact⟨false,rfl,rfl,λh=>nomatch h⟩
 | true=>
  have SO:=Ek.of hs;have hl:=S.LN;obtain⟨T,hT⟩:=Py SO hN 31;have tk:∀f∈p.funcs,en f.body<=30->KQ N p f.params f.body=some (T f.params f.body)/\Hm N f.params (Ev p) f.body=some (T f.params f.body)/\(T f.params f.body=-1∨DJ p.decls (T f.params f.body)=true):=λf hf he=>by
   obtain⟨q1,q2,q3⟩:=SO.O6 f hf;exact hT f.params f.body (S.fin hf).body (by omega) (by omega) q2 N N (by omega) (by omega)
  have tB:∀f∈p.funcs,CP f.params=some f.params:=λf hf=>by
   obtain⟨q1,q2,q3⟩:=SO.O6 f hf;unfold CP;rw[EM [] f.params 8 (by simp;omega) (by simp;omega)];rfl
  have L1:=FC (l:=p.funcs) (CI N p) (λ_ f=>IF p T f) (λn=>by rw[CI,jn (by simp[AN])]) (λn i f hi=>by
   have qG:=(jg.1 hi).1;have hf:=je hi;rw[CI,jm (by simp[AN];omega),BH hi];simp only[jd];rw[Gv (S.fz hf).2 hN,BK (by omega) (by omega),show ((i:Int)+1)=((i+1:Nat):Int) by omega];simp only[jd];unfold IF;by_cases he:en f.body<=30
   ·rw[jm he,jn (by simp),(tk f hf he).1];by_cases hr:T f.params f.body=f.result<;>simp[he,hr]
   ·rw[jn he];simp[he]) (by omega:p.funcs.length<N)
  have L2:=FC (l:=p.funcs) (Dn N p) (λ_ f=>IF p T f) (λn=>by rw[Dn,jn (by simp[AN])]) (λn i f hi=>by
   have qG:=(jg.1 hi).1;have hf:=je hi;obtain⟨q1,q2,q3⟩:=SO.O6 f hf;have q4:f.params.all (DJ p.decls)=true:=jq.2 q2;rw[Dn,jm (by simp[AN];omega),BH hi];simp only[jd];unfold Lw;rw[Uu S hN,hs,Na (S.fz hf).2 hN,KW (by omega) (by omega),q4,aO hl hN,tB f hf,BK (by omega) (by omega),show ((i:Int)+1)=((i+1:Nat):Int) by omega];simp only[jd];unfold IF;by_cases he:en f.body<=30
   ·rw[jm he,(tk f hf he).2.1];have vF:¬ ((en f.body:Int)<0):=by omega
    by_cases hr:T f.params f.body=f.result<;>simp[he,hr,vF]
   ·rw[jn he];have hr:¬ ((-1:Int)=f.result):=λq=>by have:=(Ju q3).1;omega
    simp[he,hr]) (by omega:p.funcs.length<N)
  rw[F7]at L1 L2;refine⟨p.funcs.all (IF p T),?_,?_,λh=>⟨SO,λf hf=>?_⟩⟩
  ·simp only[lL,jk,kH];rw[L1,FD];cases p.funcs.all (IF p T)<;>rfl
  ·simp only[lL,jk,kH];rw[L2,FD];cases p.funcs.all (IF p T)<;>rfl
  ·have:=jq.1 h f hf;unfold IF at this;simp only[kF,jw]at this;exact this.1
end RC
namespace RC
open Go
def Af {α:Type}(x:Option α)(Q:α->Prop):Prop:=∃v,x=some v/\Q v
theorem Af.some {α:Type}{v:α}{Q:α->Prop}(h:Q v):Af (some v) Q:=⟨v,rfl,h⟩
theorem Af.mono {α:Type}{x:Option α}{Q R:α->Prop}(h:Af x Q)(g :∀v,Q v->R v):Af x R:=
 let ⟨v,e,q⟩:=h;⟨v,e,g v q⟩
theorem Af.bind {α β:Type}{x:Option α}{f:α->Option β}{R:α->Prop}{Q:β->Prop}(h:Af x R)(k :∀v,R v->Af (f v) Q):Af (Option.bind x f) Q:=by
 obtain⟨v,rfl,hv⟩:=h;exact k v hv
theorem AS {α β:Type}{x:Option α}{f:α->Option β}{v:α}{Q:β->Prop}(h:x=Option.some v)(k:Af (f v) Q):Af (Option.bind x f) Q:=by
 subst h;exact k
theorem Cn {α:Type}{b:Bool}{x y:Option α}{Q:α->Prop}(h1:b=true->Af x Q)(h2:b=false->Af y Q):Af (if b=true then x else y) Q:=by
 cases b
 ·exact h2 rfl
 ·exact h1 rfl
theorem BB {α:Type}{p:Prop}[Decidable p]{x y:Option α}{Q:α->Prop}(h1:p->Af x Q)(h2:¬ p->Af y Q):Af (if decide p=true then x else y) Q:=by
 by_cases h:p
 ·rw[jm (by simpa using h)];exact h1 h
 ·rw[jn (by simpa using h)];exact h2 h
theorem Af.cont {ρ σ β:Type}{o:Option (ρ ⊕ σ)}{g:ρ->β}{f:σ->Option β}{R:ρ->Prop}{S:σ->Prop}{Q:β->Prop}(h:Af o λv=>match v with|.inl r=>R r|.inr s=>S s)(h1 :∀r,R r->Q (g r))(h2 :∀s,S s->Af (f s) Q):Af (Sh.cont o g f) Q:=by
 obtain⟨v,rfl,hv⟩:=h;cases v with
 | inl r=>exact⟨g r,rfl,h1 r hv⟩
 | inr s=>exact h2 s hv
theorem Af.get {α β:Type}{l:List α}{j:Int}{f:α->Option β}{Q:β->Prop}(h0:0<=j)(h1:j<l.length)(k :∀x,l[j.toNat]?=Option.some x->x∈l->Af (f x) Q):Af (Option.bind (Sh.get l j) f) Q:=by
 obtain⟨x,e,hx⟩:=PA h0 h1;exact AS e (k x hx (je hx))
theorem Af.app {α β:Type}{l m:List α}{b:Nat}{f:List α->Option β}{Q:β->Prop}(h:(l.length+m.length)*b<=140737488355328)(h2:l.length+m.length<=9223372036854775807)(k:Af (f (l++m)) Q):Af (Option.bind (Sh.app l m b) f) Q:=AS (EM l m b h h2) k
theorem Zs {n:Int}(h1:-9223372036854775808<=n)(h2:n<=9223372036854775807):Sh.wk .i64 n=n:=Abs.wrap_i64 h1 h2
theorem fh {a b:Int}(ha:0<=a)(ha':a<4611686018427387904)(hb:0<=b)(pX:b<4611686018427387904):0<=Sh.xor a b/\Sh.xor a b<4611686018427387904:=by
 obtain⟨x,rfl⟩:=kZ ha;obtain⟨y,rfl⟩:=kZ hb;have e:Sh.xor (x:Int) (y:Int)=((x ^^^ y:Nat):Int):=by
  unfold Sh.xor;have h1:(BitVec.ofInt 64 (x:Int) ^^^ BitVec.ofInt 64 (y:Int)).toNat=x ^^^ y:=by
   rw[BitVec.toNat_xor];simp only[BitVec.ofInt_natCast,BitVec.toNat_ofNat];rw[mT (by omega),mT (by omega)]
  rw[h1];have h2:x ^^^ y<2 ^ 62:=Nat.xor_lt_two_pow (by omega) (by omega);exact Abs.wrap_i64 (by omega) (by omega)
 have h2:x ^^^ y<2 ^ 62:=Nat.xor_lt_two_pow (by omega) (by omega);rw[e];omega
end RC
namespace RC
open Go
inductive X6:Step->Prop where
 | mk {s:Step}:Gw s.op->Gw s.num->Gw s.bA->IE Gw s.args->s.kids.length<=9223372036854775807->(∀b∈s.kids,b.steps.length<=9223372036854775807)->(∀b∈s.kids,Gw b.result)->(∀b∈s.kids,∀t∈b.steps,X6 t)->X6 s
structure iw (b:Block):Prop where
 steps:IE X6 b.steps
 result:Gw b.result
def lf (left:Int)(s:Nat):Int:=if left-s<0 then -1 else left-s
end RC
namespace RC
open Go
end RC
namespace RC
open Go
def iq (o:Int):Bool:=decide (14<=o)&&decide (o<=17)
mutual
def us (v:Int):Step->Nat|.mk o _ _ a k=>if iq o then 0 else a.countP (λx=>decide (x=v))+uk v k
def uk (v:Int):List (LF Step)->Nat|[]=>0|b::k=>ub v b+uk v k
def ub (v:Int):LF Step->Nat|⟨ss,r⟩=>(if r=v then 1 else 0)+ul v ss
def ul (v:Int):List Step->Nat|[]=>0|s::l=>us v s+ul v l
end
def ua (v:Int)(a:List Int):Nat:=a.countP λx=>decide (x=v)
theorem ja (v:Int)(a:List Int):ua v a<=a.length:=List.countP_le_length
end RC
namespace RC
open Go
section
variable {D : List AM} {G : List Bt} {ks : List Int} {op num : Int} {N : Nat}
end
end RC
namespace RC
open Go
section
variable {n : IK} {R1 : IK -> List Int -> Block -> Option Int} {R2 : BO -> List Int -> Block -> Option Int} {T : List Int -> Block -> Int} {s : Step} {v : List Int} {N : Nat}
end
end RC
namespace RC
open Go
section
variable {n : IK} {R1 : IK -> List Int -> Block -> Option Int} {R2 : BO -> List Int -> Block -> Option Int} {T : List Int -> Block -> Int} {s : Step} {v : List Int} {N : Nat}
end
end RC
namespace RC
open Go
section
variable {n : IK} {R1 : IK -> List Int -> Block -> Option Int} {R2 : BO -> List Int -> Block -> Option Int} {T : List Int -> Block -> Int} {s : Step} {v : List Int} {N : Nat} {b : Bool}
end
end RC
namespace RC
open Go
section
variable {n : IK} {R1 : IK -> List Int -> Block -> Option Int} {R2 : BO -> List Int -> Block -> Option Int} {T : List Int -> Block -> Int} {s : Step} {v : List Int} {N : Nat} {b : Bool}
end
end RC
namespace RC
open Go
section
variable {n : IK} {R1 : IK -> List Int -> Block -> Option Int} {R2 : BO -> List Int -> Block -> Option Int} {T : List Int -> Block -> Int} {s : Step} {v : List Int} {N : Nat} {b : Bool}
end
end RC
namespace RC
open Go
section
variable {n : IK} {R1 : IK -> List Int -> Block -> Option Int} {R2 : BO -> List Int -> Block -> Option Int} {T : List Int -> Block -> Int} {b : Block} {v : List Int} {N : Nat}
end
end RC
namespace RC
open Go
end RC
namespace RC
open Go
end RC
namespace RC
open Go
theorem YP {α:Type}(A B:List α)(x:α):Sh.get (A++x::B) (A.length:Int)=some x:=BH (by simp)
theorem ZP {α:Type}(A B:List α)(x y:α):Sh.put (A++x::B) (A.length:Int) y=A++y::B:=by rw[PH];simp
theorem R6 {α:Type}{f g:α->Nat}{a b:Nat}:∀{l:List α},(∀x∈l,f x<=a+b*g x)->(l.map f).sum<=a*l.length+b*(l.map g).sum
 | [],_=>by simp
 | x::r,h=>by
  have h1:=h x (by simp);have h2:=R6 (l:=r) λy hy=>h y (by simp[hy]);simp only[kI,mM,kQ,Nat.mul_add];omega
mutual
def ms:Step->Nat|.mk _ _ _ a k=>3+a.length+ix k
def ix:List (LF Step)->Nat|[]=>0|b::k=>mb b+ix k
def mb:LF Step->Nat|⟨ss,_⟩=>jD ss+1
def jD:List Step->Nat|[]=>0|s::l=>ms s+jD l
end
end RC
namespace RC
open Go
theorem XD {α β:Type}{l:List α}(L:Nat->Int->List β->Option (List β))(g:α->β)(h0 :∀n acc,L (n+1) ((l.length:Nat):Int) acc=some acc)
  (hs :∀n i x acc,l[i]?=some x->acc.length=i->L (n+1) ((i:Nat):Int) acc=L n ((i+1:Nat):Int) (acc++[g x])) {N:Nat} (hN:l.length<N):L N 0 []=some (l.map g):=by
 have key:∀{N i:Nat},i<=l.length->l.length-i<N->L N (i:Int) ((l.take i).map g)=some (l.map g):=by
  intro N i hi hN;refine Bo l.length (λN i=>L N (i:Int) ((l.take i).map g)=some (l.map g)) ?_ ?_ hi hN
  ·intro n;rw[h0,lM]
  ·intro n i hi ih;obtain⟨x,hx,_⟩:=CF hi;rw[hs n i x _ hx (by simp;omega),<- ih,D4 hx,lJ];rfl
 have:=key (kE _) (by omega:l.length-0<N);simpa using this
theorem W6 {α:Type}{l:List α}(L:Nat->Int->List α->Option (List α))(g:α->α)(h0 :∀n acc,L (n+1) ((l.length:Nat):Int) acc=some acc)
  (hs :∀n (A:List α) (x:α) (C:List α),A.length+C.length<l.length->l[A.length]?=some x->L (n+1) ((A.length:Nat):Int) (A++x::C)=L n ((A.length+1:Nat):Int) (A++g x::C)) {N:Nat} (hN:l.length<N):L N 0 l=some (l.map g):=by
 have key:∀(C A:List α) (n:Nat),C.length<n->A.length<=l.length->C=l.drop A.length->L n ((A.length:Nat):Int) (A++C)=some (A++C.map g):=by
  intro C
  induction C with
  | nil=>
   intro A n hn h1 h2;obtain⟨n,rfl⟩ :∃m,n=m+1:=⟨n-1,by simp at hn;omega⟩
   have h3:=kf List.length h2;simp at h3;rw[show A.length=l.length by omega,h0];simp
  | cons x C ih=>
   intro A n hn h1 h2;have h3:=kf List.length h2;simp only[kQ,mI]at hn h3;obtain⟨n,rfl⟩ :∃m,n=m+1:=⟨n-1,by omega⟩
   have hx:l[A.length]?=some x:=by
    have:=kf (λz=>z[0]?) h2;simpa using this.symm
   rw[hs n A x C (by omega) hx];have:=ih (A++[g x]) n (by omega) (by simp;omega) (by
    rw[drop_cons hx]at h2;simpa using (List.cons.inj h2).2)
   simpa using this
 have:=key l [] N hN (by simp) (by simp);simpa using this
theorem X9 {i:Nat}(h:i<=1048576):Sh.w ((i:Int)+1)=((i+1:Nat):Int):=by rw[BK (by omega) (by omega)];rfl
theorem jY {l:List Int}(hl:l.length<=1048576):FJ l=some l:=by
 unfold FJ;rw[EM [] l 8 (by simp;omega) (by simp;omega)];rfl
theorem jO {l:List Int}(hl:l.length<=1048576):CP l=some l:=by
 unfold CP;rw[EM [] l 8 (by simp;omega) (by simp;omega)];rfl
theorem Wg {D:List AM}{i:Nat}{d:AM}(hd:D[i]?=some d)(hz:dz d<=1048576){N:Nat}(hN:2000000<=N):ED i D N 0 []=some d.cons:=by
 unfold dz at hz;rw[XD (l:=d.cons) (ED i D) id (λn acc=>by rw[ED,BH hd];simp only[jd];rw[jn (by simp[AN])]) (λn j c acc hc ha=>?_) (by omega)]
 ·simp
 ·have hj:=(jg.1 hc).1;have hcz:=Kz cz (je hc);rw[ED,BH hd];simp only[jd];rw[jm (by simp[AN];omega),BH hc];simp only[jd];rw[jY (show cz c<=1048576 by omega)];simp only[jd];rw[EM acc _ 24 (by simp;omega) (by simp;omega)];simp only[jd];rw[X9 (by omega)];rfl
theorem Wa {D:List AM}(hl:D.length<=1048576)(hz :∀d∈D,dz d<=1048576){N:Nat}(hN:2000000<=N):IQ N D=some D:=by
 unfold IQ;rw[XD (l:=D) (Em N D) id (λn acc=>by rw[Em,jn (by simp[AN])]) (λn j c acc hc ha=>?_) (by omega)]
 ·simp
 ·have hj:=(jg.1 hc).1;rw[Em,jm (by simp[AN];omega),Wg hc (hz c (je hc)) hN,BH hc];simp only[jd];rw[EM acc _ 40 (by simp;omega) (by simp;omega)];simp only[jd];rw[X9 (by omega)];rfl
theorem VA {D:List AM}(hl:D.length<=1048576)(hz :∀d∈D,dz d<=1048576){N:Nat}(hN:2000000<=N):Hw N D=some D:=by
 unfold Hw DY;rw[EM [] D 40 (by simp;omega) (by simp;omega)];simp only[jd,lR];rw[W6 (l:=D) (ER N (Sh.len D)) id (λn acc=>by rw[ER,jn (by simp[AN])]) (λn A d C hA hd=>?_) (by omega)]
 ·simp
 ·have h1:=hz d (je hd);unfold dz at h1;rw[ER,jm (by simp[AN];omega),YP];simp only[jd];unfold Cz;rw[EM [] d.cons 24 (by simp;omega) (by simp;omega)];simp only[jd,lR];rw[W6 (l:=d.cons) (EP d.cons) id (λn acc=>by rw[EP,jn (by simp[AN])]) (λn B c E hB hc=>?_) (by omega)]
  ·simp only[jd,ZP,lI];rw[X9 (by omega)];rfl
  ·have hcz:=Kz cz (je hc);have hl:=(jg.1 hc).1;rw[EP,jm (by simp[AN];omega),BH hc];simp only[jd];rw[jO (show cz c<=1048576 by omega),YP];simp only[jd];rw[ZP,X9 (by omega)];rfl
end RC
namespace RC
open Go
end RC
namespace RC
end RC
namespace RC
open Go
mutual
def vs:Step->List Int|.mk o _ _ a k=>if iq o then [] else a++jB k
def jB:List (LF Step)->List Int|[]=>[]|b::k=>jT b++jB k
def jT:LF Step->List Int|⟨ss,r⟩=>iy ss++[r]
def iy:List Step->List Int|[]=>[]|s::l=>vs s++iy l
end
end RC
namespace RC
open Go
def ir (h:List Cell)(j:Nat)(w:Int):Bool:=iL h w&&decide ((w-1000).toNat=j)
def jP (h:List Cell)(ws:List Int)(j:Nat):Nat:=ws.countP (ir h j)
theorem iz (h:List Cell)(j:Nat):jP h [] j=0:=rfl
def jF (l:List Nat):List Int:=List.map (λn:Nat=>(n:Int)) l
end RC
namespace RC
open Go
def mk (m:Nat->Bool)(n i:Nat):List Nat:=(List.range' i (n-i)).filter m
def gU (m:Nat->Bool)(j:Nat):Nat->Bool:=λk=>m k || decide (k=j)
def gu (m:Nat->Bool)(l:List Int):Nat->Bool:=λk=>m k || decide ((k:Int)∈l)
mutual
def gM:AE->List Int|.mk o n k=>(if o=9∨o=10 then [n] else [])++df k
def df:List AE->List Int|[]=>[]|e::l=>gM e++df l
end
end RC
namespace RC
open Go
def push:List Int->(Nat->Bool)->List Int->(Nat->Bool)×List Int
 | [],m,w=>(m,w)
 | x::q,m,w=>if m x.toNat then push q m w else push q (gU m x.toNat) (w++[x])
end RC
namespace RC
open Go
def jR (p:AP)(k:Nat):List Int:=match p.funcs[k]? with|some f=>gM f.body|none=>[]
def jL:Nat->Bool:=λ_=>false
def cl (p:AP)(F k:Nat):List Int:=jF (mk (gu jL (jR p k)) F 0)
end RC
namespace RC
open Go
end RC
namespace RC
open Go
end RC
namespace RC
open Go
section
variable {p : AP} {R1 : AP -> List Int -> AE -> Option Int} {R2 : List Int -> BO -> AE -> Option Int} {T : List Int -> AE -> Int} {e : AE} {v : List Int} {N : Nat}
theorem TK {l:List Int}(h:LJ l≠-1):∀x∈l,x≠-1:=by
 cases l with
 | nil=>exact absurd rfl h
 | cons a r=>
  simp only[LJ]at h;by_cases hr:r.all (λx=>decide (x=a))=true
  ·rw[jm hr]at h;intro x hx;rcases js.1 hx with rfl|hx
   ·exact h
   ·have:=jq.1 hr x hx;simp only[jw]at this;rw[this];exact h
  ·rw[jn hr]at h;exact absurd rfl h
theorem eR (H:KD p (Ev p) R1 R2 T (en e))(V:IG p e v)(S:Ek p.decls p.funcs)(hN:2000000<=N){t:Int}(hB:Ao N R2 v (Ev p) e=some t)(ht:t≠-1):
  ∀k∈e.kids,∃m:List Int,m.length<=3/\(∀x∈m,DJ p.decls x=true)/\T (v++m) k≠-1:=by
 have hv:v.length<=1000:=by have:=V.len;omega
 have nil:∀k,T v k≠-1->∃m:List Int,m.length<=3/\(∀x∈m,DJ p.decls x=true)/\T (v++m) k≠-1:=λk h=>⟨[],by simp,λx hx=>(by cases hx),by simpa using h⟩;by_cases qs:e.op=12
 ·unfold Ao at hB;simp only[qs,jx,kO]at hB;intro k hk;have:0<Sh.len e.kids:=by rw[AN];have:=List.length_pos_of_mem hk;omega
  simp only[this,jx,kO,jd,jh]at hB;exact absurd hB.symm ht
 by_cases h13:e.op=13
 ·unfold Ao at hB;simp only[h13,Int.reduceEq,jx,kA,jk,kO,kH]at hB;by_cases hl:e.kids.length=2
  ·obtain⟨a,b,hk⟩ :∃a b,e.kids=[a,b]:=by
    match hk:e.kids,hl with
    | [a,b],_=>exact⟨a,b,rfl⟩
   have pk:a∈e.kids:=by rw[hk];simp
   have rv:b∈e.kids:=by rw[hk];simp
   obtain⟨a1,a2,a3⟩:=H v a (V.CZ.kids a pk) (DE pk) (V.JL pk) V.H6;have g0:Sh.get e.kids 0=some a:=by rw[hk];rfl
   have g1:Sh.get e.kids 1=some b:=by rw[hk];rfl
   rw[g0,g1]at hB;simp only[jd,AN,hl]at hB;rw[a2]at hB;simp only[jd]at hB;by_cases hn:e.num=0
   ·by_cases h0:T v a<0
    ·simp[hn,h0]at hB;exact absurd hB.symm ht
    ·have tk:DJ p.decls (T v a)=true:=a3.resolve_left (by omega);obtain⟨b1,b2,b3⟩:=H (v++[T v a]) b (V.CZ.kids b rv) (DE rv) (V.more rv (by simp)) (V.Wv (by simp[tk]));rw[EM v [T v a] 8 (by simp;omega) (by simp;omega)]at hB;simp only[jd,b2]at hB;simp[hn,h0]at hB;intro k rB;rw[hk]at rB;simp only[js,kN,kx]at rB;rcases rB with rfl|rfl
     ·exact nil _ (by omega)
     ·exact⟨[T v a],by simp,by simp[tk],by rw[hB];exact ht⟩
   ·simp[hn]at hB;exact absurd hB.symm ht
  ·have:¬ ((e.kids.length:Int)=2):=by omega
   simp[AN,this]at hB;exact absurd hB.symm ht
 by_cases h7:e.op=7
 ·unfold Ao at hB;simp only[h7,Int.reduceEq,jx,kA,jk,kO,kH]at hB;by_cases hl:e.kids.length=3
  ·obtain⟨a,b,c,hk⟩ :∃a b c,e.kids=[a,b,c]:=by
    match hk:e.kids,hl with
    | [a,b,c],_=>exact⟨a,b,c,rfl⟩
   have pk:a∈e.kids:=by rw[hk];simp
   have rv:b∈e.kids:=by rw[hk];simp
   have hmc:c∈e.kids:=by rw[hk];simp
   obtain⟨a1,a2,a3⟩:=H v a (V.CZ.kids a pk) (DE pk) (V.JL pk) V.H6;have g0:Sh.get e.kids 0=some a:=by rw[hk];rfl
   have g3:Sh.sl e.kids 1 3=some [b,c]:=by rw[hk];rfl
   have o:=J9 (ks:=[b,c]) (ms:=[[],[]]) H V hN (by intro k hk;simp only[js,kN,kx]at hk;rcases hk with rfl|rfl<;>assumption) (by simp) rfl (by simp);have mk2:Sh.mk ([]:List Int) 2 24=some [[],[]]:=Pf [] 2 24 (by omega) (by omega);rw[g0]at hB;simp only[jd,AN,hl]at hB;rw[a2,show ((3:Nat):Int)=3 from rfl,g3,mk2]at hB;simp only[jd]at hB;rw[o]at hB;by_cases hn:e.num=0
   ·by_cases h0:T v a=0
    ·simp[hn,h0]at hB;have uT:=TK (l:=[T v b,T v c]) (by rw[hB];exact ht);intro k rB;rw[hk]at rB;simp only[js,kN,kx]at rB;rcases rB with rfl|rfl|rfl
     ·exact nil _ (by omega)
     ·exact nil _ (uT _ (by simp))
     ·exact nil _ (uT _ (by simp))
    ·simp[hn,h0]at hB;exact absurd hB.symm ht
   ·simp[hn]at hB;exact absurd hB.symm ht
  ·have:¬ ((e.kids.length:Int)=3):=by omega
   simp[AN,this]at hB;exact absurd hB.symm ht
 by_cases h8:e.op=8
 ·have rn:=V.LH;have hD:=S.NC;have hn:=S.nc;have wq:=J0 S.QU e.num;unfold Ao at hB;simp only[h8,Int.reduceEq,jx,kA,jk,kO,kH]at hB;rw[show (Ev p).decls=p.decls from rfl,HC (by omega) (by omega) hN]at hB;simp only[jd]at hB;generalize xl:Bs p.decls e.num=C at wq hB;have vU:∀c∈C,Bu N p.decls c=some (Fc p.decls c)/\EJ N p.decls c=some (Fc p.decls c)/\(Fc p.decls c).length<=3/\∀x∈Fc p.decls c,DJ p.decls x=true:=λc hc=>Mq S (xl▸hc) hN;rw[AN C,AN e.kids,BK (n:=1+(C.length:Int)) (by omega) (by omega)]at hB;by_cases h0:C.length=0
  ·simp[h0]at hB;exact absurd hB.symm ht
  ·have sY:¬ ((C.length:Int)=0):=by omega
   have pN:¬ C=[]:=λq=>h0 (by rw[q];rfl);by_cases h1:e.kids.length=1+C.length
   ·have rC:((e.kids.length:Int)=1+(C.length:Int)):=by omega
    obtain⟨a,r,qq⟩ :∃a r,e.kids=a::r:=by
     cases hq:e.kids with
     | nil=>rw[hq]at h1;simp at h1;omega
     | cons a r=>exact⟨a,r,rfl⟩
    have sW:r.length=C.length:=by rw[qq]at h1;simp at h1;omega
    have pk:a∈e.kids:=by rw[qq];simp
    have wu:∀k∈r,k∈e.kids:=λk hk=>by rw[qq];simp[hk]
    obtain⟨a1,a2,a3⟩:=H v a (V.CZ.kids a pk) (DE pk) (V.JL pk) V.H6;have g0:Sh.get e.kids 0=some a:=by rw[qq];rfl
    have g3:Sh.sl e.kids 1 (e.kids.length:Int)=some r:=by
     unfold Sh.sl;rw[jm ⟨by omega,by omega,by omega⟩,qq];simp
    have mkC:Sh.mk ([]:List Int) (C.length:Int) 24=some (List.replicate C.length []):=Pf [] C.length 24 (by omega) (by omega);have o:=J9 (ks:=r) (ms:=C.map (Fc p.decls)) H V hN wu (by omega) (by simp[sW]) (by
     intro m hm;obtain⟨c,hc,rfl⟩:=kC.1 hm;exact (vU c hc).2.2)
    have FL:=N6 (p:=p) S hN wq λc hc=>(vU c hc).2.1;rw[g0,g3,mkC]at hB;simp only[jd]at hB;rw[a2,FL]at hB;simp only[jd]at hB;rw[o]at hB;by_cases wK:T v a=e.num
    ·simp[pN,rC,wK]at hB;have uT:=TK (by rw[hB];exact ht);intro k rB;rw[qq]at rB;rcases js.1 rB with rfl|rB
     ·refine nil _ λhq=>?_;have hneg:e.num=-1:=by rw[<- wK];exact hq
      rw[hneg]at xl;exact h0 (by rw[<- xl];simp[Bs])
     ·obtain⟨i,hi⟩:=jz.1 rB;have qG:=(jg.1 hi).1;obtain⟨c,hc,qW⟩:=CF (l:=C) (i:=i) (by omega);refine⟨Fc p.decls c,(vU c qW).2.2.1,(vU c qW).2.2.2,uT _ (jz.2 ⟨i,?_⟩)⟩;rw[lO,ji,hc,hi];rfl
    ·simp[pN,rC,wK]at hB;exact absurd hB.symm ht
   ·have rC:¬ ((e.kids.length:Int)=1+(C.length:Int)):=by omega
    simp[pN,rC]at hB;exact absurd hB.symm ht
 rw[FM H V hN qs h13 h7 h8]at hB;by_cases h:(e.kids.map (T v)).any (λt=>decide (t<0))=true
 ·rw[jm h]at hB;simp at hB;exact absurd hB.symm ht
 ·intro k hk;refine nil k λhq=>h ?_;exact mG.2 ⟨T v k,lD hk,by rw[hq];rfl⟩
end
end RC
namespace RC
open Go
def TT (p:AP)(N:Nat)(T:List Int->AE->Int):Prop:=∀(v:List Int) (e:AE),An e->en e<31->v.length+3*en e<=1000->(∀x∈v,DJ p.decls x=true)->
  ∀n1 n2,31<=n1->31<=n2->Cw N n1 p v e=some (T v e)/\Bq N n2 v (Ev p) e=some (T v e)/\(T v e=-1∨DJ p.decls (T v e)=true)
end RC
namespace RC
open Go
def jb (o n:Int):List AE->AE
 | c::d::k=>if o=11/\c.op=10 then .mk 9 c.num (c.kids++[d]) else .mk o n (c::d::k)
 | k=>.mk o n k
mutual
def kn:AE->AE|.mk o n k=>jb o n (jC k)
def jC:List AE->List AE|[]=>[]|e::l=>kn e::jC l
end
def K2 (e:AE):Prop:=e.op=11->2<=e.kids.length
theorem Xg {N:Nat}(hN:2000000<=N):∀(n:Nat) (k:List AE),CK k<n->CK k<=1000->DG N n k=some k:=by
 intro n
 induction n with
 | zero=>intro k h;omega
 | succ n ih=>
  intro k hk hs;have hlen:=H2 k;rw[DG];unfold HU;have key:∀(M i:Nat),i<=k.length->k.length-i<M->CT k (DG N n) M i (k.take i)=some k:=by
   intro M i hi hM;refine Bo k.length (λM i=>CT k (DG N n) M i (k.take i)=some k) ?_ ?_ hi hM
   ·intro m;rw[CT,jn (by simp[AN]),lM]
   ·intro m i hi sU;obtain⟨e,he,hem⟩:=CF hi;have h1:=Ho hem;have h2:=Fw e;rw[CT,jm (by simp[AN];omega),BH he];simp only[jd,JH];rw[ih e.kids (by omega) (by omega)];simp only[jd];rw[<- HG,EM _ _ 40 (by simp;omega) (by simp;omega),BK (by omega) (by omega),show ((i:Int)+1)=((i+1:Nat):Int) by omega];simp only[jd];rw[<- D4 he];exact sU
  have:=key N 0 (kE _) (by omega);rw[lF,oQ]at this;rw[this];rfl
theorem WI {N:Nat}(hN:2000000<=N){k:List AE}(hs:CK k<=1000):HF N k=some k:=by
 unfold HF;exact Xg hN N k (by omega) hs
theorem Wn {N:Nat}(hN:2000000<=N){e:AE}(hs:CK e.kids<=1000):Hy N e=some e:=by
 unfold Hy;rw[WI hN hs];simp only[jd];rw[<- HG]
end RC
namespace RC
open Go
end RC
namespace RC
open Go
end RC
namespace RC
open Go
theorem YO {N:Nat}(hN:2000000<=N):∀(n:Nat) (e:AE),en e<=n->en e<=1000->An e->D0 N n e 0 0=some e:=by
 intro n
 induction n with
 | zero=>intro e h;have:=G6 e;omega
 | succ n ih=>
  intro e hn hs hI;have hlen:=H2 e.kids;have he:=Fw e;obtain⟨n1,n2⟩:=hI.num;rw[D0];unfold IS;have key:∀(M i:Nat),i<=e.kids.length->e.kids.length-i<M->Cm e 0 0 (D0 N n) M i (e.kids.take i)=some e.kids:=by
   intro M i hi hM;refine Bo e.kids.length (λM i=>Cm e 0 0 (D0 N n) M i (e.kids.take i)=some e.kids) ?_ ?_ hi hM
   ·intro m;rw[Cm,jn (by simp[AN]),lM]
   ·intro m i hi sU;obtain⟨c,hc,qW⟩:=CF hi;have h1:=Ho qW;rw[Cm,jm (by simp[AN];omega),BH hc];simp only[jd];rw[ih c (by omega) (by omega) (hI.kids c qW)];simp only[jd];rw[EM _ _ 40 (by simp;omega) (by simp;omega),BK (by omega) (by omega),show ((i:Int)+1)=((i+1:Nat):Int) by omega];simp only[jd];rw[<- D4 hc];exact sU
  have:=key N 0 (kE _) (by omega);rw[lF,oQ]at this;rw[this,Int.add_zero,BK (by omega) (by omega)];have hn:((
   Option.bind (
    if (decide (e.op=12))=true then
     some (decide (0<=e.num))
    else
     some false
   ) λt25=>
   if t25=true then
    some e.num
   else
    some e.num
  ).bind λf3=>(some e.kids).bind λzW=>some (AE.mk e.op f3 zW))=some (AE.mk e.op e.num e.kids):=by
   by_cases h:e.op=12
   ·rw[jm (by simpa using h)];simp
   ·rw[jn (by simpa using h)];simp
  rw[hn,<- HG]
theorem Wd {N:Nat}(hN:2000000<=N){e:AE}(hs:en e<=1000)(hI:An e):IY N e=some e:=by
 unfold IY Gn;rw[YO hN N e (by omega) hs hI];rfl
end RC
namespace RC
open Go
theorem SZ {N:Nat}(hN:2000000<=N){p:AP}(hd:p.decls.length<=1048576)(hz :∀d∈p.decls,dz d<=1048576)(hf:p.funcs.length<=1048576)(hb :∀f∈p.funcs,f.params.length<=1048576/\en f.body<=1000/\An f.body):Gy N p=some p:=by
 unfold Gy;rw[VA hd hz hN];simp only[jd];have key:∀(M i:Nat),i<=p.funcs.length->p.funcs.length-i<M->DO N p M i (p.funcs.take i)=some p.funcs:=by
  intro M i hi hM;refine Bo p.funcs.length (λM i=>DO N p M i (p.funcs.take i)=some p.funcs) ?_ ?_ hi hM
  ·intro m;rw[DO,jn (by simp[AN]),lM]
  ·intro m i hi ih;obtain⟨f,sD,hfm⟩:=CF hi;obtain⟨b1,b2,b3⟩:=hb f hfm;rw[DO,jm (by simp[AN];omega),BH sD];simp only[jd];have tB:CP f.params=some f.params:=by
    unfold CP;rw[EM _ _ _ (by simp;omega) (by simp;omega)];rfl
   rw[tB,Wd hN b2 b3];simp only[jd];rw[EM _ _ 72 (by simp;omega) (by simp;omega),BK (by omega) (by omega),show ((i:Int)+1)=((i+1:Nat):Int) by omega];simp only[jd];have e:Ac.mk f.params f.result f.body=f:=by cases f;rfl
   rw[e,<- D4 sD];exact ih
 have:=key N 0 (kE _) (by omega);rw[lF,oQ]at this;rw[this];cases p;rfl
end RC
namespace RC
open Go
end RC
namespace RC
open Go
end RC
namespace RC
open Go
end RC
namespace RC
open Go
section
variable {p : AP} {R1 : AP -> List Int -> AE -> Option Int} {R2 : List Int -> BO -> AE -> Option Int} {T : List Int -> AE -> Int} {e : AE} {v : List Int} {N : Nat}
end
theorem dZ {p:AP}(S:EB p){N:Nat}(hN:2000000<=N)(hv:Bm N p=some true):Ek p.decls p.funcs/\∃T,TT p N T/\∀f∈p.funcs,en f.body<=30/\IG p f.body f.params/\DJ p.decls f.result=true/\T f.params f.body=f.result:=by
 obtain⟨b,h1,_,h3⟩:=Jv S hN;rw[hv]at h1;cases h1;obtain⟨SO,wv⟩:=h3 rfl;obtain⟨T,hT⟩:=Py SO hN 31;have hl:=S.LN;refine⟨SO,T,hT,λf hf=>?_⟩;obtain⟨q1,q2,q3⟩:=SO.O6 f hf;have he:=wv f hf;have V:IG p f.body f.params:=⟨by omega,q2,by omega,(S.fin hf).body⟩
 have L1:=FC (l:=p.funcs) (CI N p) (λ_ f=>IF p T f) (λn=>by rw[CI,jn (by simp[AN])]) (λn i f hi=>by
  have qG:=(jg.1 hi).1;have hf:=je hi;obtain⟨q1,q2,q3⟩:=SO.O6 f hf;have he:=wv f hf;have ty:KQ N p f.params f.body=some (T f.params f.body):=(hT f.params f.body (S.fin hf).body (by omega) (by omega) q2 N N (by omega) (by omega)).1;rw[CI,jm (by simp[AN];omega),BH hi];simp only[jd];rw[Gv (S.fz hf).2 hN,BK (by omega) (by omega),show ((i:Int)+1)=((i+1:Nat):Int) by omega];simp only[jd];unfold IF;rw[jm he,jn (by simp),ty];by_cases hr:T f.params f.body=f.result<;>simp[he,hr]) (by omega:p.funcs.length<N)
 rw[F7]at L1;have hs:p.funcs.all (IF p T)=true:=by
  unfold Bm at hv;rw[OG S hN]at hv;simp only[jd]at hv;cases tM:MP p with
  | false=>rw[tM]at hv;simp at hv
  | true=>
   rw[tM]at hv;simp only[lL,jk,kH]at hv;rw[L1,FD]at hv;cases hb:p.funcs.all (IF p T) with
   | true=>rfl
   | false=>rw[hb]at hv;simp at hv
 have hb:=jq.1 hs f hf;unfold IF at hb;simp only[kF,jw]at hb;exact⟨he,V,q3,hb.2⟩
end RC
namespace RC
open Go
end RC
namespace RC
open Go
end RC
namespace RC
open Go
section
variable {p : AP} {R1 : AP -> List Int -> AE -> Option Int} {R2 : List Int -> BO -> AE -> Option Int} {T : List Int -> AE -> Int} {e : AE} {v : List Int} {N : Nat}
theorem Vz (H:KD p (Ev p) R1 R2 T (en e))(V:IG p e v)(h:e.op=13){a b:AE}(hk:e.kids=[a,b])(hn:e.num=0)(ha:T v a≠-1):
  Ao N R2 v (Ev p) e=some (T (v++[T v a]) b)/\DJ p.decls (T v a)=true:=by
 have hv:v.length<=1000:=by have:=V.len;omega
 have pk:a∈e.kids:=by rw[hk];simp
 have rv:b∈e.kids:=by rw[hk];simp
 obtain⟨a1,a2,a3⟩:=H v a (V.CZ.kids a pk) (DE pk) (V.JL pk) V.H6;have tk:DJ p.decls (T v a)=true:=a3.resolve_left ha;have h0:¬ T v a<0:=by have:=(Ju tk).1;omega
 have g0:Sh.get e.kids 0=some a:=by rw[hk];rfl
 have g1:Sh.get e.kids 1=some b:=by rw[hk];rfl
 obtain⟨b1,b2,b3⟩:=H (v++[T v a]) b (V.CZ.kids b rv) (DE rv) (V.more rv (by simp)) (V.Wv (by simp[tk]));refine⟨?_,tk⟩;unfold Ao;simp only[h,Int.reduceEq,jx,kA,jk,kO,kH];rw[g0,g1];have hl:((e.kids.length:Int)=2):=by rw[hk];rfl
 simp only[jd,AN,hl,hn,jx,lL,jk,kH];rw[a2];simp only[jd,h0,kA,jk,kH];rw[EM v [T v a] 8 (by simp;omega) (by simp;omega)];simp only[jd,b2]
theorem U7 (H:KD p (Ev p) R1 R2 T (en e))(V:IG p e v)(h:e.op=13){t:Int}(hB:Ao N R2 v (Ev p) e=some t)(ht:t≠-1):
  ∃a b,e.kids=[a,b]/\e.num=0/\T v a≠-1/\DJ p.decls (T v a)=true/\t=T (v++[T v a]) b:=by
 have hB0:=hB;unfold Ao at hB;simp only[h,Int.reduceEq,jx,kA,jk,kO,kH]at hB;by_cases hl:e.kids.length=2
 ·obtain⟨a,b,hk⟩ :∃a b,e.kids=[a,b]:=by
   match hk:e.kids,hl with
   | [a,b],_=>exact⟨a,b,rfl⟩
  have pk:a∈e.kids:=by rw[hk];simp
  obtain⟨a1,a2,a3⟩:=H v a (V.CZ.kids a pk) (DE pk) (V.JL pk) V.H6;by_cases hn:e.num=0
  ·by_cases ha:T v a=-1
   ·exfalso;have g0:Sh.get e.kids 0=some a:=by rw[hk];rfl
    rw[g0]at hB;simp only[jd,AN,hl]at hB;rw[a2]at hB;simp[hn,ha]at hB;exact ht hB.symm
   ·obtain⟨q1,q2⟩:=Vz (N:=N) H V h hk hn ha;rw[hB0]at q1;exact⟨a,b,hk,hn,ha,q2,by simpa using q1⟩
  ·simp[hn]at hB;exact absurd hB.symm ht
 ·have:¬ ((e.kids.length:Int)=2):=by omega
  simp[AN,this]at hB;exact absurd hB.symm ht
theorem bG (H:KD p (Ev p) R1 R2 T (en e))(V:IG p e v)(hN:2000000<=N)(h:e.op=7){a b c:AE}(hk:e.kids=[a,b,c])(hn:e.num=0)(ha:T v a=0):
  Ao N R2 v (Ev p) e=some (LJ [T v b,T v c]):=by
 have pk:a∈e.kids:=by rw[hk];simp
 have rv:b∈e.kids:=by rw[hk];simp
 have hmc:c∈e.kids:=by rw[hk];simp
 obtain⟨a1,a2,a3⟩:=H v a (V.CZ.kids a pk) (DE pk) (V.JL pk) V.H6;have hl:((e.kids.length:Int)=3):=by rw[hk];rfl
 have g0:Sh.get e.kids 0=some a:=by rw[hk];rfl
 have g3:Sh.sl e.kids 1 3=some [b,c]:=by rw[hk];rfl
 have o:=J9 (ks:=[b,c]) (ms:=[[],[]]) H V hN (by intro k hk;simp only[js,kN,kx]at hk;rcases hk with rfl|rfl<;>assumption) (by simp) rfl (by simp);have mk2:Sh.mk ([]:List Int) 2 24=some [[],[]]:=Pf [] 2 24 (by omega) (by omega);unfold Ao;simp only[h,Int.reduceEq,jx,kA,jk,kO,kH];rw[g0];simp only[jd,AN,hl];rw[a2,g3,mk2];simp only[jd];rw[o];simp[hn,ha]
theorem UQ (H:KD p (Ev p) R1 R2 T (en e))(V:IG p e v)(hN:2000000<=N)(h:e.op=7){t:Int}(hB:Ao N R2 v (Ev p) e=some t)(ht:t≠-1):
  ∃a b c,e.kids=[a,b,c]/\e.num=0/\T v a=0/\t=T v b/\t=T v c:=by
 have hB0:=hB;unfold Ao at hB;simp only[h,Int.reduceEq,jx,kA,jk,kO,kH]at hB;by_cases hl:e.kids.length=3
 ·obtain⟨a,b,c,hk⟩ :∃a b c,e.kids=[a,b,c]:=by
   match hk:e.kids,hl with
   | [a,b,c],_=>exact⟨a,b,c,rfl⟩
  have pk:a∈e.kids:=by rw[hk];simp
  obtain⟨a1,a2,a3⟩:=H v a (V.CZ.kids a pk) (DE pk) (V.JL pk) V.H6;by_cases hn:e.num=0
  ·by_cases ha:T v a=0
   ·have q:=bG H V hN h hk hn ha;rw[hB0]at q;have q:t=LJ [T v b,T v c]:=by simpa using q
    have uT:=TK (l:=[T v b,T v c]) (by rw[<- q];exact ht);rw[TI]at q;by_cases hcb:T v c=T v b
    ·rw[jm hcb]at q;exact⟨a,b,c,hk,hn,ha,q,by rw[hcb];exact q⟩
    ·rw[jn hcb]at q;exact absurd q ht
   ·exfalso;have g0:Sh.get e.kids 0=some a:=by rw[hk];rfl
    rw[g0]at hB;simp only[jd,AN,hl]at hB;rw[a2]at hB;simp[hn,ha]at hB;exact ht hB.symm
  ·simp[hn]at hB;exact absurd hB.symm ht
 ·have:¬ ((e.kids.length:Int)=3):=by omega
  simp[AN,this]at hB;exact absurd hB.symm ht
def ZA (D:List AM)(T:List Int->AE->Int)(v C:List Int)(r:List AE):List Int:=List.zipWith (λm k=>T (v++m) k) (C.map (Fc D)) r
theorem Un (H:KD p (Ev p) R1 R2 T (en e))(V:IG p e v)(S:Ek p.decls p.funcs)(hN:2000000<=N)(h8:e.op=8){a:AE}{r:List AE}(qq:e.kids=a::r)(h0:Bs p.decls e.num≠[])(sW:r.length=(Bs p.decls e.num).length)(wK:T v a=e.num):
  Ao N R2 v (Ev p) e=some (LJ (ZA p.decls T v (Bs p.decls e.num) r)):=by
 have rn:=V.LH;have hD:=S.NC;have hn:=S.nc;have wq:=J0 S.QU e.num;unfold Ao;simp only[h8,Int.reduceEq,jx,kA,jk,kO,kH];rw[show (Ev p).decls=p.decls from rfl,HC (by omega) (by omega) hN];simp only[jd];generalize xl:Bs p.decls e.num=C at *;have vU:∀c∈C,Bu N p.decls c=some (Fc p.decls c)/\EJ N p.decls c=some (Fc p.decls c)/\(Fc p.decls c).length<=3/\∀x∈Fc p.decls c,DJ p.decls x=true:=λc hc=>Mq S (xl▸hc) hN;have h1:e.kids.length=1+C.length:=by rw[qq];simp;omega
 have rC:((e.kids.length:Int)=1+(C.length:Int)):=by omega
 have pk:a∈e.kids:=by rw[qq];simp
 have wu:∀k∈r,k∈e.kids:=λk hk=>by rw[qq];simp[hk]
 obtain⟨a1,a2,a3⟩:=H v a (V.CZ.kids a pk) (DE pk) (V.JL pk) V.H6;have g0:Sh.get e.kids 0=some a:=by rw[qq];rfl
 have g3:Sh.sl e.kids 1 (e.kids.length:Int)=some r:=by
  unfold Sh.sl;rw[jm ⟨by omega,by omega,by omega⟩,qq];simp
 have mkC:Sh.mk ([]:List Int) (C.length:Int) 24=some (List.replicate C.length []):=Pf [] C.length 24 (by omega) (by omega);have o:=J9 (ks:=r) (ms:=C.map (Fc p.decls)) H V hN wu (by omega) (by simp[sW]) (by
  intro m hm;obtain⟨c,hc,rfl⟩:=kC.1 hm;exact (vU c hc).2.2)
 have FL:=N6 (p:=p) S hN wq λc hc=>(vU c hc).2.1;rw[AN C,AN e.kids,BK (n:=1+(C.length:Int)) (by omega) (by omega),g0,g3,mkC];simp only[jd];rw[a2,FL];simp only[jd];rw[o];simp[h0,rC,wK,ZA]
theorem J2 (H:KD p (Ev p) R1 R2 T (en e))(V:IG p e v)(S:Ek p.decls p.funcs)(hN:2000000<=N)(h8:e.op=8){t:Int}(hB:Ao N R2 v (Ev p) e=some t)(ht:t≠-1):
  ∃a r,e.kids=a::r/\Bs p.decls e.num≠[]/\r.length=(Bs p.decls e.num).length/\T v a=e.num/\t=LJ (ZA p.decls T v (Bs p.decls e.num) r):=by
 have hB0:=hB;have rn:=V.LH;have hD:=S.NC;have hn:=S.nc;have wq:=J0 S.QU e.num;unfold Ao at hB;simp only[h8,Int.reduceEq,jx,kA,jk,kO,kH]at hB;rw[show (Ev p).decls=p.decls from rfl,HC (by omega) (by omega) hN]at hB;simp only[jd]at hB;have mv:=λa r=>Un (a:=a) (r:=r) H V S hN h8;rw[AN (Bs p.decls e.num),AN e.kids,BK (n:=1+((Bs p.decls e.num).length:Int)) (by omega) (by omega)]at hB;by_cases h0:(Bs p.decls e.num)=[]
 ·simp[h0]at hB;exact absurd hB.symm ht
 ·have sY:¬ (((Bs p.decls e.num).length:Int)=0):=by
   intro q;exact h0 (ka (by omega))
  by_cases h1:e.kids.length=1+(Bs p.decls e.num).length
  ·have rC:((e.kids.length:Int)=1+((Bs p.decls e.num).length:Int)):=by omega
   obtain⟨a,r,qq⟩ :∃a r,e.kids=a::r:=by
    cases hq:e.kids with
    | nil=>rw[hq]at h1;simp at h1;omega
    | cons a r=>exact⟨a,r,rfl⟩
   have sW:r.length=(Bs p.decls e.num).length:=by rw[qq]at h1;simp at h1;omega
   have pk:a∈e.kids:=by rw[qq];simp
   obtain⟨a1,a2,a3⟩:=H v a (V.CZ.kids a pk) (DE pk) (V.JL pk) V.H6;by_cases wK:T v a=e.num
   ·have q:=mv a r qq h0 sW wK;rw[hB0]at q;exact⟨a,r,qq,h0,sW,wK,by simpa using q⟩
   ·exfalso;have g0:Sh.get e.kids 0=some a:=by rw[qq];rfl
    rw[g0]at hB;simp only[jd]at hB;rw[a2]at hB;simp[h0,rC,wK]at hB;exact ht hB.symm
  ·have rC:¬ ((e.kids.length:Int)=1+((Bs p.decls e.num).length:Int)):=by omega
   simp[h0,rC]at hB;exact absurd hB.symm ht
theorem Sm {l:List Int}{t:Int}(h:t=LJ l)(ht:t≠-1):∀x∈l,x=t:=by
 cases l with
 | nil=>intro x hx;cases hx
 | cons a r=>
  simp only[LJ]at h;by_cases hr:r.all (λx=>decide (x=a))=true
  ·rw[jm hr]at h;intro x hx;rcases js.1 hx with rfl|hx
   ·exact h.symm
   ·have:=jq.1 hr x hx;simp only[jw]at this;rw[this,h]
  ·rw[jn hr]at h;exact absurd h ht
def He (D:List AM)(o nu:Int)(i:Nat):Nat:=if o=13/\i=1 then 1 else if o=8/\0<i then (Fc D (((Bs D nu)[i-1]?).getD 0)).length else 0
theorem RU {e':AE}{v':List Int}(H:KD p (Ev p) R1 R2 T (en e))(H':KD p (Ev p) R1 R2 T (en e'))(V:IG p e v)(V':IG p e' v')(S:Ek p.decls p.funcs)(hN:2000000<=N){t:Int}(hB:Ao N R2 v (Ev p) e=some t)(ht:t≠-1)
  (ho:e'.op=e.op) (hn:e'.num=e.num) (qs:e.op≠12) (hl:e'.kids.length=e.kids.length)
  (hf :∀(i:Nat) k k',e.kids[i]?=some k->e'.kids[i]?=some k'->∀m:List Int,m.length=He p.decls e.op e.num i->m.length<=3->(∀x∈m,DJ p.decls x=true)->T (v++m) k≠-1->T (v'++m) k'=T (v++m) k) :
  Ao N R2 v' (Ev p) e'=some t:=by
 have wL:∀(i:Nat) k k',e.kids[i]?=some k->e'.kids[i]?=some k'->He p.decls e.op e.num i=0->T v k≠-1->T v' k'=T v k:=λi k k' hk qd hx h=>by
  have:=hf i k k' hk qd [] (by rw[hx];rfl) (by simp) (λx hx=>(by cases hx)) (by simpa using h);simpa using this
 by_cases h13:e.op=13
 ·obtain⟨a,b,q1,q2,q3,q4,q5⟩:=U7 H V h13 hB ht;obtain⟨a',b',qd⟩ :∃a' b',e'.kids=[a',b']:=by
   match hq:e'.kids,hl with
   | [a',b'],_=>exact⟨a',b',rfl⟩
   | [],hl=>rw[q1]at hl;simp at hl
   | [_],hl=>rw[q1]at hl;simp at hl
   | _::_::_::_,hl=>rw[q1]at hl;simp at hl
  have e1:=wL 0 a a' (by rw[q1];rfl) (by rw[qd];rfl) (by simp[He,h13]) q3;have e2:=hf 1 b b' (by rw[q1];rfl) (by rw[qd];rfl) [T v a] (by simp[He,h13]) (by simp) (by simp[q4]) (by rw[<- q5];exact ht);have:=(Vz (N:=N) H' V' (by rw[ho];exact h13) qd (by rw[hn];exact q2) (by rw[e1];exact q3)).1;rw[this,e1,e2,<- q5]
 by_cases h7:e.op=7
 ·obtain⟨a,b,c,q1,q2,q3,q4,q5⟩:=UQ H V hN h7 hB ht;obtain⟨a',b',c',qd⟩ :∃a' b' c',e'.kids=[a',b',c']:=by
   match hq:e'.kids,hl with
   | [a',b',c'],_=>exact⟨a',b',c',rfl⟩
   | [],hl=>rw[q1]at hl;simp at hl
   | [_],hl=>rw[q1]at hl;simp at hl
   | [_,_],hl=>rw[q1]at hl;simp at hl
   | _::_::_::_::_,hl=>rw[q1]at hl;simp at hl
  have hx:∀i,He p.decls e.op e.num i=0:=λi=>by simp[He,h7]
  have e1:=wL 0 a a' (by rw[q1];rfl) (by rw[qd];rfl) (hx _) (by rw[q3];omega);have e2:=wL 1 b b' (by rw[q1];rfl) (by rw[qd];rfl) (hx _) (by rw[<- q4];exact ht);have e3:=wL 2 c c' (by rw[q1];rfl) (by rw[qd];rfl) (hx _) (by rw[<- q5];exact ht);have:=bG H' V' hN (by rw[ho];exact h7) qd (by rw[hn];exact q2) (by rw[e1];exact q3);rw[this,e2,e3,<- q4,<- q5,TI,jm rfl]
 by_cases h8:e.op=8
 ·obtain⟨a,r,q1,q2,q3,q4,q5⟩:=J2 H V S hN h8 hB ht;have ry:e.num≠-1:=λq=>q2 (by rw[q];simp[Bs]);obtain⟨a',r',qd⟩ :∃a' r',e'.kids=a'::r':=by
   match hq:e'.kids,hl with
   | a'::r',_=>exact⟨a',r',rfl⟩
   | [],hl=>rw[q1]at hl;simp at hl
  have sW:r'.length=r.length:=by rw[qd,q1]at hl;simpa using hl
  have e1:=wL 0 a a' (by rw[q1];rfl) (by rw[qd];rfl) (by simp[He,h8]) (by rw[q4];exact ry);have:=Un H' V' S hN (by rw[ho];exact h8) qd (by rw[hn];exact q2) (by rw[hn,sW];exact q3) (by rw[hn,e1];exact q4);rw[this,hn,q5];have al:=Sm q5 ht;congr 2;unfold ZA at al⊢;apply lk;intro i;rw[lO,lO,ji];cases hc:(Bs p.decls e.num)[i]? with
  | none=>rfl
  | some c=>
   cases hr:r[i]? with
   | none=>
    have:r'[i]?=none:=by rw[mE]at hr⊢;omega
    rw[this];rfl
   | some k=>
    have qG:=(jg.1 hr).1;have qF:r'[i]?=some r'[i]:=jl (by omega);have qW:=je hc;have F:=Mq S qW hN;have:=al (T (v++Fc p.decls c) k) (jz.2 ⟨i,by rw[lO,ji,hc,hr];rfl⟩);have g:=hf (i+1) k r'[i] (by rw[q1];exact hr) (by rw[qd];exact qF) (Fc p.decls c) (by simp[He,h8,hc]) F.2.2.1 F.2.2.2 (by rw[this];exact ht);rw[qF];show some (T (v'++Fc p.decls c) r'[i])=some (T (v++Fc p.decls c) k);rw[g]
 have hb:=hB;rw[FM H V hN qs h13 h7 h8]at hb;rw[FM H' V' hN (by rw[ho];exact qs) (by rw[ho];exact h13) (by rw[ho];exact h7) (by rw[ho];exact h8),ho,hn];have:e'.kids.map (T v')=e.kids.map (T v):=by
  apply lk;intro i;rw[ji,ji];cases hk:e.kids[i]? with
  | none=>
   have:e'.kids[i]?=none:=by rw[mE]at hk⊢;omega
   rw[this];rfl
  | some k=>
   have qG:=(jg.1 hk).1;have qd:e'.kids[i]?=some e'.kids[i]:=jl (by omega);rw[qd];have:=wL i k _ hk qd (by simp[He,h13,h8]) λq=>by
    rw[jm (mG.2 ⟨T v k,lD (je hk),by rw[q];rfl⟩)]at hb;simp at hb;exact ht hb.symm
   show some (T v' e'.kids[i])=some (T v k);rw[this]
 rw[this];exact hb
end
end RC
namespace RC
open Go
structure VX (p:AP) (e:AE) (v:List Int):Prop where
 len:v.length+3*en e<=900
 H6 :∀x∈v,DJ p.decls x=true
 CZ:An e
theorem VX.Nh {p:AP}{e:AE}{v:List Int}(V:VX p e v):IG p e v:=⟨by have:=V.len;omega,V.H6,by have:=V.len;omega,V.CZ⟩
def TX (p:AP)(N:Nat)(T:List Int->AE->Int):Prop:=∀(v:List Int) (e:AE),An e->en e<340->v.length+3*en e<=1000->(∀x∈v,DJ p.decls x=true)->
  ∀n1 n2,340<=n1->340<=n2->Cw N n1 p v e=some (T v e)/\Bq N n2 v (Ev p) e=some (T v e)/\(T v e=-1∨DJ p.decls (T v e)=true)
section
variable {p : AP} {N : Nat} {T : List Int -> AE -> Int} {e : AE} {v : List Int}
theorem TX.tok (hT:TX p N T){m:Nat}(hm:m<=340):KD p (Ev p) (Cw N 340) (Bq N 340) T m:=λv e a b c d=>hT v e a (by omega) c d 340 340 (jv _) (jv _)
theorem TX.bi (hT:TX p N T)(V:VX p e v):Ao N (Bq N 340) v (Ev p) e=some (T v e):=by
 have h:=V.len;have:=(hT v e V.CZ (by omega) (by omega) V.H6 341 341 (by omega) (by omega)).2.1;rwa [Bq]at this
theorem TX.bs (hT:TX p N T)(V:VX p e v):Bp N (Cw N 340) p v e=some (T v e):=by
 have h:=V.len;have:=(hT v e V.CZ (by omega) (by omega) V.H6 341 341 (by omega) (by omega)).1;rwa [Cw]at this
theorem TX.ty (hT:TX p N T)(V:VX p e v)(h:T v e≠-1):DJ p.decls (T v e)=true:=by
 have h1:=V.len;exact ((hT v e V.CZ (by omega) (by omega) V.H6 341 341 (by omega) (by omega)).2.2).resolve_left h
theorem TX.H (hT:TX p N T)(V:VX p e v):KD p (Ev p) (Cw N 340) (Bq N 340) T (en e):=hT.tok (by have:=V.len;omega)
theorem VX.JL (V:VX p e v){k:AE}(hk:k∈e.kids){m:List Int}(hm:m.length<=3)(ht :∀x∈m,DJ p.decls x=true):VX p k (v++m):=by
 have h:=V.len;have tj:=DE hk;refine⟨by rw[kD];omega,λx hx=>?_,V.CZ.kids k hk⟩;rcases kJ.1 hx with hx|hx
 ·exact V.H6 x hx
 ·exact ht x hx
theorem VX.gG (V:VX p e v){k:AE}(hk:k∈e.kids):VX p k v:=by
 have:=V.JL hk (m:=[]) (by simp) (λx hx=>by cases hx);simpa using this
theorem TX.var (hT:TX p N T)(V:VX p e v)(h:e.op=12):T v e=if e.kids=[]/\0<=e.num/\e.num<(v.length:Int) then (v[e.num.toNat]?).getD (-1) else -1:=by
 have q:=hT.bi V;unfold Ao at q;simp only[h,jx,kO]at q;by_cases hk:e.kids=[]
 ·rw[hk]at q⊢;by_cases h0:e.num<0
  ·have:¬ (0<=e.num):=by omega
   simp[AN,h0]at q;simp[this,<- q]
  ·by_cases h1:(v.length:Int)<=e.num
   ·have:¬ (e.num<(v.length:Int)):=by omega
    simp[AN,h0,h1]at q;simp[this,<- q]
   ·obtain⟨x,hx1,vp⟩:=PA (l:=v) (j:=e.num) (by omega) (by omega);have a1:0<=e.num:=by omega
    have a2:e.num<(v.length:Int):=by omega
    simp only[AN,lE,h0,h1,kA,jk,kH,jd]at q;rw[hx1]at q;rw[jm ⟨rfl,a1,a2⟩,vp];simpa using q.symm
 ·have:0<Sh.len e.kids:=by rw[AN];have:=nE.2 hk;omega
  simp only[this,jx,kO,jd,jh]at q;simp[hk,<- q]
end
mutual
def sh (n k:Int):AE->AE|.mk o nu ks=>.mk o (if o=12/\n<=nu then nu+k else nu) (shl n k ks)
def shl (n k:Int):List AE->List AE|[]=>[]|e::l=>sh n k e::shl n k l
end
theorem ar {n k:Int}:∀l,shl n k l=l.map (sh n k)
 | []=>by simp[shl]
 | e::l=>by simp[shl,ar l]
theorem S6 {n k:Int}(e:AE):sh n k e=.mk e.op (if e.op=12/\n<=e.num then e.num+k else e.num) (e.kids.map (sh n k)):=by cases e;simp only[sh,ar];rfl
theorem O7 {n k:Int}(e:AE):(sh n k e).op=e.op:=by rw[S6];rfl
theorem Pz {n k:Int}(e:AE):(sh n k e).num=if e.op=12/\n<=e.num then e.num+k else e.num:=by rw[S6];rfl
theorem MC {n k:Int}(e:AE):(sh n k e).kids=e.kids.map (sh n k):=by rw[S6];rfl
mutual
theorem aM {n k:Int}:∀e,en (sh n k e)=en e
 | .mk o nu ks=>by simp only[sh,en,Yz ks]
theorem Yz {n k:Int}:∀l,CK (shl n k l)=CK l
 | []=>rfl
 | e::l=>by simp only[shl,CK,aM e,Yz l]
end
section
variable {p : AP} {N : Nat} {T : List Int -> AE -> Int}
theorem eW (S:Ek p.decls p.funcs)(hN:2000000<=N)(hT:TX p N T)(v d:List Int)(hd :∀x∈d,DJ p.decls x=true):∀(c:Nat) (e:AE) (w:List Int),en e<=c->VX p e (v++w)->v.length+d.length+w.length+3*en e<=900->T (v++w) e≠-1->
  T (v++d++w) (sh v.length d.length e)=T (v++w) e/\An (sh v.length d.length e):=by
 intro c
 induction c with
 | zero=>intro e w h;have:=G6 e;omega
 | succ c ih=>
  intro e w hc V hl ht;have K:∀k∈e.kids,An (sh v.length d.length k):=λk hk=>by
   obtain⟨m,m1,m2,m3⟩:=eR (hT.H V) V.Nh S hN (hT.bi V) ht k hk;have tj:=DE hk;have:=ih k (w++m) (by omega) (by rw[<- lG];exact V.JL hk m1 m2) (by simp;omega) (by rw[<- lG];exact m3);exact this.2
  have hI:=V.CZ;have Vt:∀x∈v++d++w,DJ p.decls x=true:=λx hx=>by
   rcases kJ.1 hx with hx|hx
   ·rcases kJ.1 hx with hx|hx
    ·exact V.H6 x (by simp[hx])
    ·exact hd x hx
   ·exact V.H6 x (by simp[hx])
  have CZ:An (sh v.length d.length e):=by
   have wU:=hI.op;have ry:=hI.num;have rn:=hI.LH;refine .mk (by rw[O7];exact wU) ?_ (by rw[MC];simpa using rn) (λk hk=>?_)
   ·rw[Pz];by_cases qs:e.op=12
    ·have q:=hT.var V qs;by_cases hr:e.kids=[]/\0<=e.num/\e.num<((v++w).length:Int)
     ·have hlv:=V.len;split
      ·have h1:=hr.2.2;have h2:=hr.2.1;unfold Gw at *;omega
      ·exact ry
     ·rw[jn hr]at q;exact absurd q ht
    ·rw[jn (λh=>qs h.1)];exact ry
   ·rw[MC]at hk;obtain⟨k0,yS,rfl⟩:=kC.1 hk;exact K k0 yS
  have V':VX p (sh v.length d.length e) (v++d++w):=⟨by rw[aM];simp;omega,Vt,CZ⟩
  refine⟨?_,CZ⟩;by_cases qs:e.op=12
  ·have q:=hT.var V qs;have q':=hT.var V' (by rw[O7];exact qs);by_cases hr:e.kids=[]/\0<=e.num/\e.num<((v++w).length:Int)
   ·obtain⟨r1,r2,r3⟩:=hr;rw[jm ⟨r1,r2,r3⟩]at q;rw[q,q'];rw[MC,Pz,r1,lV];simp only[qs,true_and];simp only[kD]at r3;by_cases hv:(v.length:Int)<=e.num
    ·rw[jm hv,jm ⟨by omega,by simp only[kD];omega⟩];have e1:(e.num+(d.length:Int)).toNat=e.num.toNat+d.length:=by omega
     rw[e1,jt (by simp;omega),jt (by omega)];congr 2;simp;omega
    ·rw[jn hv,jm ⟨by omega,by simp only[kD];omega⟩];rw[lG,jr (by omega),jr (by omega)]
   ·rw[jn hr]at q;exact absurd q ht
  ·have hB:=RU (e':=sh v.length d.length e) (v':=v++d++w) (hT.H V) (hT.H V') V.Nh V'.Nh S hN (hT.bi V) ht (O7 e) (by rw[Pz,jn (λh=>qs h.1)]) qs (by rw[MC];simp) (λi k k' hk qd m _ hm3 zQ hkt=>by
    rw[MC,ji,hk]at qd;obtain rfl:sh v.length d.length k=k':=by simpa using qd
    have rB:=je hk;have tj:=DE rB;rw[lG v w m]at hkt⊢;rw[lG (v++d) w m];exact (ih k (w++m) (by omega) (by rw[<- lG];exact V.JL rB hm3 zQ) (by simp;omega) hkt).1)
   have:=hT.bi V';rw[hB]at this;exact (lT this).symm
def lt (n:Nat):Nat->List AE->AE->AE
 | _,[],b=>b
 | k,x::r,b=>.mk 13 0 [sh n k x,lt n (k+1) r b]
theorem aC {n:Nat}:∀(xs:List AE) (k:Nat) (b:AE),en (lt n k xs b)=xs.length+CK xs+en b
 | [],k,b=>by simp[lt,CK]
 | x::r,k,b=>by
  simp only[lt,en,CK,aM,aC r,kQ];omega
theorem dG (S:Ek p.decls p.funcs)(hN:2000000<=N)(hT:TX p N T)(v:List Int)(hv :∀x∈v,DJ p.decls x=true):∀(xs:List AE) (d:List Int) (b:AE),(∀x∈d,DJ p.decls x=true)->v.length+d.length+3*(xs.length+CK xs+en b)<=900->(∀x∈xs,An x/\T v x≠-1)->An b->
  T (v++d) (lt v.length d.length xs b)=T (v++d++xs.map (T v)) b/\An (lt v.length d.length xs b)
 | [],d,b,_,_,_,hb=>by simp[lt,hb]
 | x::r,d,b,hd,hl,hx,hb=>by
  obtain⟨x1,x2⟩:=hx x (by simp);simp only[kQ,CK]at hl;have hep:=G6 x;have Vx:VX p x (v++[]):=⟨by simp;omega,by simpa using hv,x1⟩
  have s:=eW S hN hT v d hd (en x) x [] (jv _) Vx (by simp;omega) (by simpa using x2);rw[ky,ky]at s;have htx:DJ p.decls (T v x)=true:=by
   have:=hT.ty Vx (by simpa using x2);simpa using this
  have hd' :∀y∈d++[T v x],DJ p.decls y=true:=λy hy=>by
   rcases kJ.1 hy with hy|hy
   ·exact hd y hy
   ·simp only[jy]at hy;rw[hy];exact htx
  have r1:=dG S hN hT v hv r (d++[T v x]) b hd' (by simp;omega) (λy hy=>hx y (by simp[hy])) hb;rw[kD,List.length_singleton]at r1;have CZ:An (lt v.length d.length (x::r) b):=by
   refine .mk (show Gw 13 by unfold Gw;omega) (show Gw 0 by unfold Gw;omega) (by simp[lt,AE.kids]) (λk hk=>?_);simp only[lt,AE.kids,js,kN,kx]at hk;rcases hk with rfl|rfl
   ·exact s.2
   ·exact r1.2
  have wv:=aC (n:=v.length) (x::r) d.length b;simp only[kQ,CK]at wv;have V:VX p (lt v.length d.length (x::r) b) (v++d):=⟨by rw[wv,kD];omega,λy hy=>by
   rcases kJ.1 hy with hy|hy
   ·exact hv y hy
   ·exact hd y hy,CZ⟩
  refine⟨?_,CZ⟩;have q:=(Vz (N:=N) (hT.H V) V.Nh rfl (a:=sh v.length d.length x) (b:=lt v.length (d.length+1) r b) rfl rfl (by rw[s.1];exact x2)).1;rw[hT.bi V]at q;rw[lT q,s.1];have:=r1.1;rw[<- lG]at this;rw[this];simp
end
end RC
namespace RC
open Go
def Wc (x:Int):Int:=if x < -999 then -999 else if 999<x then 999 else x
def Wp (o a b:Int):Int:=if o=1 then Wc (a+b) else if o=2 then Wc (a-b) else if o=3 then Wc (a*b) else if a<b then 1 else 0
def ci (D:List AM)(t c:Int):Nat:=(c-(nc (D.take (t-1).toNat):Int)).toNat
def HX (D:List AM)(n:Nat)(o nu:Int)(l:List AE):AE:=
 if o=1∨o=2∨o=3∨o=4 then
  match l with
  | a::b::_=>if a.op=0/\b.op=0 then .mk 0 (Wp o a.num b.num) [] else .mk o nu l
  | _=>.mk o nu l
 else if o=7 then
  match l with
  | a::b::c::_=>if a.op=0 then (if a.num=0 then c else b) else .mk o nu l
  | _=>.mk o nu l
 else if o=8 then
  match l with
  | a::r=>if a.op=6 then (match r[ci D nu a.num]? with|some b=>lt n 0 a.kids b|none=>.mk o nu l) else .mk o nu l
  | _=>.mk o nu l
 else .mk o nu l
mutual
def fd (D:List AM)(n:Nat):AE->AE
 | .mk o nu k=>HX D n o nu (Ka D n o nu 0 k)
def Ka (D:List AM)(n:Nat)(o nu:Int):Nat->List AE->List AE
 | _,[]=>[]
 | i,e::l=>fd D (n+He D o nu i) e::Ka D n o nu (i+1) l
end
theorem X5 {D:List AM}{n:Nat}(e:AE):fd D n e=HX D n e.op e.num (Ka D n e.op e.num 0 e.kids):=by cases e;rw[fd];rfl
theorem SM {D:List AM}{n:Nat}{o nu:Int}:∀(l:List AE) (i:Nat),(Ka D n o nu i l).length=l.length
 | [],_=>rfl
 | e::l,i=>by simp[Ka,SM l]
theorem NZ {D:List AM}{n:Nat}{o nu:Int}:∀(l:List AE) (j i:Nat),(Ka D n o nu j l)[i]?=(l[i]?).map (fd D (n+He D o nu (j+i)))
 | [],j,i=>by simp[Ka]
 | e::l,j,0=>by simp[Ka]
 | e::l,j,i+1=>by
  simp only[Ka,kT];rw[NZ l (j+1) i,show j+1+i=j+(i+1) by omega]
theorem fE (x:Int):-999<=Wc x/\Wc x<=999:=by unfold Wc;split<;>(try split)<;>omega
theorem fm (o a b:Int):-999<=Wp o a b/\Wp o a b<=999:=by
 unfold Wp
 repeat' split
 all_goals first|exact fE _|omega
theorem ZL:∀(D:List AM) (k c t:Nat) (x:Db),Gf D k c=some (t,x)->∃d i,D[t-1-k]?=some d/\d.cons[i]?=some x/\c=nc (D.take (t-1-k))+i/\k<t
 | [],k,c,t,x,h=>by simp[Gf]at h
 | d::r,k,c,t,x,h=>by
  unfold Gf at h;cases hx:d.cons[c]? with
  | some y=>
   rw[hx]at h;simp only[jh,nA]at h;obtain⟨rfl,rfl⟩:=h;refine⟨d,c,by simp,hx,?_,by omega⟩;rw[show k+1-1-k=0 by omega];simp[nc]
  | none=>
   rw[hx]at h;have hc:d.cons.length<=c:=by simpa using hx
   obtain⟨d',i,h1,h2,h3,h4⟩:=ZL r (k+1) (c-d.cons.length) t x h;have e:t-1-k=(t-1-(k+1))+1:=by omega
   refine⟨d',i,by rw[e];simpa using h1,h2,?_,by omega⟩;rw[e,List.take_succ_cons];simp only[nc,kI,mM]at h3⊢;omega
theorem To {D:List AM}{c t:Nat}{x:Db}(h:Gf D 0 c=some (t,x)):(Bs D (t:Int))[ci D (t:Int) (c:Int)]?=some (c:Int)/\nc (D.take (t-1))+ci D (t:Int) (c:Int)=c:=by
 obtain⟨d,i,h1,h2,h3,h4⟩:=ZL D 0 c t x h;rw[nH]at h1 h3;have qG:=(jg.1 h2).1;have sK:=(jg.1 h1).1;have e:((t:Int)-1).toNat=t-1:=by omega
 have eci:ci D (t:Int) (c:Int)=i:=by unfold ci;rw[e];omega
 refine⟨?_,by rw[eci];omega⟩;rw[eci];unfold Bs;rw[jm ⟨by omega,by omega⟩,e,h1,ji];simp only[mC];rw[lN qG];show some ((nc (D.take (t-1)):Int)+(i:Int))=_;congr 1;omega
theorem Xt {D:List AM}{t:Int}{i j:Nat}{c:Int}(h1:(Bs D t)[i]?=some c)(h2:(Bs D t)[j]?=some c):i=j:=by
 unfold Bs at h1 h2;split at h1
 ·rename_i h;rw[jm h]at h2;rw[ji,jo]at h1 h2;obtain⟨a,ha,h1⟩:=h1;obtain⟨b,hb,h2⟩:=h2;have ha1:=(jg.1 ha).1;have xH:=(jg.1 hb).1;rw[nQ]at ha1 xH;rw[lN ha1]at ha;rw[lN xH]at hb;cases ha;cases hb;omega
 ·simp at h1
section
variable {p : AP} {N : Nat} {T : List Int -> AE -> Int} {e : AE} {v : List Int}
theorem Vb (S:Ek p.decls p.funcs)(hN:2000000<=N)(hT:TX p N T)(V:VX p e v)(h:e.op=6)(ht:T v e≠-1):
  ∃(c t:Nat) (x:Db),e.num=(c:Int)/\Gf p.decls 0 c=some (t,x)/\T v e=(t:Int)/\e.kids.map (T v)=x.fields/\Fc p.decls (c:Int)=x.fields/\c<nc p.decls:=by
 have hD:=S.NC;have hn:=S.nc;have q:=hT.bs V;unfold Bp at q;simp only[h,Int.reduceEq,jx,kA,jk,kO,kH,jd]at q;by_cases hr:0<=e.num/\e.num<(nc p.decls:Int)
 ·obtain⟨c,hc⟩:=kZ hr.1;have xk:c<nc p.decls:=by omega
  obtain⟨t,x,e1,e2⟩:=Kg (D:=p.decls) (by omega) (by omega) xk hN;obtain⟨t',x',vc,e3⟩:=G3 (D:=p.decls) (by omega) (by omega) xk hN;rw[e1]at vc;cases vc;obtain⟨g1,g2,d,g3,g4⟩:=Ki e1;rw[hc,e2,e3]at q;simp only[jd]at q;rw[Po (hT.H V) V.Nh hN,jm (by simp;omega)]at q;by_cases b:e.kids.map (T v)=x.fields
  ·simp[b,Sh.cont]at q;exact⟨c,t,x,hc,e1,q.symm,b,by simp[Fc,e1],xk⟩
  ·simp[b,Sh.cont]at q;exact absurd q.symm ht
 ·rw[Mk (by omega) (by omega) (by omega) hN]at q;simp[Sh.cont]at q;exact absurd q.symm ht
theorem fY (hN:2000000<=N)(hT:TX p N T){z:Int}(h:-999<=z/\z<=999)(hv:v.length<=894)(hvt :∀x∈v,DJ p.decls x=true):T v (.mk 0 z [])=0/\An (.mk 0 z []):=by
 have CZ:An (.mk 0 z []):=.mk (show Gw 0 by unfold Gw;omega) (show Gw z by unfold Gw;omega) (by simp[AE.kids]) (λk hk=>by simp[AE.kids]at hk);have V:VX p (.mk 0 z []) v:=⟨by simp[en,CK];omega,hvt,CZ⟩
 have q:=hT.bs V;unfold Bp at q;simp only[AE.op,AE.kids,AE.num,Int.reduceEq,jx,kO,AN,lE,jd]at q;rw[Ep]at q;simp[h.1,h.2,Sh.cont]at q;exact⟨q.symm,CZ⟩
theorem VL (hN:2000000<=N)(hT:TX p N T)(V:VX p e v)(h:e.op=1∨e.op=2∨e.op=3∨e.op=4)(ht:T v e≠-1):T v e=0/\∃a b,e.kids=[a,b]:=by
 have q:=hT.bs V;have h0:¬ e.op=0:=by omega
 have qs:¬ e.op=12:=by omega
 have sL:(if decide (e.op=1)=true then some true else if decide (e.op=2)=true then some true else if decide (e.op=3)=true then some true else some (decide (e.op=4)))=some true:=by
  rcases h with h|h|h|h<;>simp[h]
 unfold Bp at q;simp only[h0,qs,kA,jk,kH]at q;rw[sL]at q;simp only[jd,kO]at q;by_cases hn:e.num=0
 ·simp only[hn,jx,kO]at q;have aq:=O9 (hT.H V) V.Nh hN 2;rw[show ((2:Nat):Int)=2 from rfl]at aq;rw[aq]at q;by_cases hk:e.kids.map (T v)=List.replicate 2 0
  ·simp[hk,Sh.cont]at q;refine⟨q.symm,?_⟩;have:=kf List.length hk
   match hq:e.kids,this with
   | [a,b],_=>exact⟨a,b,rfl⟩
   | [],h=>simp at h
   | [_],h=>simp at h
   | _::_::_::_,h=>simp at h
  ·have qd:¬ e.kids.map (T v)=[0,0]:=hk;simp[qd,Sh.cont]at q;exact absurd q.symm ht
 ·simp[hn,Sh.cont]at q;exact absurd q.symm ht
end
end RC
namespace RC
open Go
theorem fS {D:List AM}{n:Nat}{o nu:Int}{l:List AE}(h3:o=8->∀a∈l,a.op=6->a.kids.length<=3):en (HX D n o nu l)<=CK l+2:=by
 unfold HX;split
 ·split
  ·split
   ·simp[en,CK]
   ·rw[en];omega
  ·rw[en];omega
 ·split
  ·split
   ·rename_i a b c r;split
    ·simp only[CK];have:=G6 a;split<;>omega
    ·rw[en];omega
   ·rw[en];omega
  ·split
   ·rename_i h8;split
    ·rename_i a r;split
     ·rename_i ha;split
      ·rename_i b hb;rw[aC];have:=h3 h8 a (by simp) ha;have hbm:=Ho (je hb);have:=Fw a;simp only[CK];omega
      ·rw[en];omega
     ·rw[en];omega
    ·rw[en];omega
   ·rw[en];omega
section
variable {p : AP} {N : Nat} {T : List Int -> AE -> Int}
structure VF (p:AP) (e:AE) (v:List Int):Prop where
 len:v.length+6*en e<=900
 H6 :∀x∈v,DJ p.decls x=true
 CZ:An e
theorem VF.x {e:AE}{v:List Int}(V:VF p e v):VX p e v:=⟨by have:=V.len;omega,V.H6,V.CZ⟩
theorem VF.JL {e:AE}{v:List Int}(V:VF p e v){k:AE}(hk:k∈e.kids){m:List Int}(hm:m.length<=3)(ht :∀x∈m,DJ p.decls x=true):VF p k (v++m):=by
 have h:=V.len;have tj:=DE hk;exact⟨by rw[kD];omega,(V.x.JL hk hm ht).H6,V.CZ.kids k hk⟩
theorem PM (S:Ek p.decls p.funcs)(hN:2000000<=N)(hT:TX p N T){e:AE}{v:List Int}(V:VX p e v)(ht:T v e≠-1){i:Nat}{k:AE}(hk:e.kids[i]?=some k):
  ∃m:List Int,m.length=He p.decls e.op e.num i/\m.length<=3/\(∀x∈m,DJ p.decls x=true)/\T (v++m) k≠-1:=by
 have hB:=hT.bi V;have nil:He p.decls e.op e.num i=0->T v k≠-1->∃m:List Int,m.length=He p.decls e.op e.num i/\m.length<=3/\(∀x∈m,DJ p.decls x=true)/\T (v++m) k≠-1:=λhx h=>⟨[],by rw[hx];rfl,by simp,λx hx=>(by cases hx),by simpa using h⟩;by_cases qs:e.op=12
 ·have q:=hT.var V qs;by_cases hr:e.kids=[]/\0<=e.num/\e.num<(v.length:Int)
  ·rw[hr.1]at hk;simp at hk
  ·rw[jn hr]at q;exact absurd q ht
 by_cases h13:e.op=13
 ·obtain⟨a,b,q1,q2,q3,q4,q5⟩:=U7 (hT.H V) V.Nh h13 hB ht;rw[q1]at hk
  match i,hk with
  | 0,hk=>simp at hk;subst hk;exact nil (by simp[He,h13]) q3
  | 1,hk=>simp at hk;subst hk;exact⟨[T v a],by simp[He,h13],by simp,by simp[q4],by rw[<- q5];exact ht⟩
 by_cases h7:e.op=7
 ·obtain⟨a,b,c,q1,q2,q3,q4,q5⟩:=UQ (hT.H V) V.Nh hN h7 hB ht;have hx:He p.decls e.op e.num i=0:=by simp[He,h7]
  rw[q1]at hk
  match i,hk with
  | 0,hk=>simp at hk;subst hk;exact nil hx (by rw[q3];omega)
  | 1,hk=>simp at hk;subst hk;exact nil hx (by rw[<- q4];exact ht)
  | 2,hk=>simp at hk;subst hk;exact nil hx (by rw[<- q5];exact ht)
 by_cases h8:e.op=8
 ·obtain⟨a,r,q1,q2,q3,q4,q5⟩:=J2 (hT.H V) V.Nh S hN h8 hB ht;have ry:e.num≠-1:=λq=>q2 (by rw[q];simp[Bs]);rw[q1]at hk
  match i,hk with
  | 0,hk=>simp at hk;subst hk;exact nil (by simp[He,h8]) (by rw[q4];exact ry)
  | i+1,hk=>
   simp only[kT]at hk;have qG:=(jg.1 hk).1;have hc:(Bs p.decls e.num)[i]?=some (Bs p.decls e.num)[i]:=jl (by omega);have F:=Mq S (je hc) hN;have:=Sm q5 ht (T (v++Fc p.decls (Bs p.decls e.num)[i]) k) (jz.2 ⟨i,by unfold ZA;rw[lO,ji,hc,hk];rfl⟩);exact⟨_,by simp[He,h8,hc],F.2.2.1,F.2.2.2,by rw[this];exact ht⟩
 rw[FM (hT.H V) V.Nh hN qs h13 h7 h8]at hB;by_cases h:(e.kids.map (T v)).any (λt=>decide (t<0))=true
 ·rw[jm h]at hB;simp at hB;exact absurd hB.symm ht
 ·exact nil (by simp[He,h13,h8]) λhq=>h (mG.2 ⟨T v k,lD (je hk),by rw[hq];rfl⟩)
theorem fB {e:AE}(h:An e){l:List AE}(hl:l.length=e.kids.length)(hk :∀k∈l,An k):An (.mk e.op e.num l):=
 .mk (show Gw e.op from h.op) (show Gw e.num from h.num) (by show l.length<=_;rw[hl];exact h.LH) hk
theorem fr (S:Ek p.decls p.funcs)(hN:2000000<=N)(hT:TX p N T){v:List Int}{o nu:Int}{l:List AE}(V:VX p (.mk o nu l) v)(hl:v.length+3*(CK l+2)<=900)(ht:T v (.mk o nu l)≠-1):
  T v (HX p.decls v.length o nu l)=T v (.mk o nu l)/\An (HX p.decls v.length o nu l):=by
 have same:T v (.mk o nu l)=T v (.mk o nu l)/\An (.mk o nu l):=⟨rfl,V.CZ⟩
 have hlv:=V.len;unfold HX;by_cases ha:o=1∨o=2∨o=3∨o=4
 ·rw[jm ha];split
  ·split
   ·obtain⟨h1,h2⟩:=fY (v:=v) hN hT (fm o _ _) (by omega) V.H6;exact⟨by rw[h1,(VL hN hT V ha ht).1],h2⟩
   ·exact same
  ·exact same
 rw[jn ha];by_cases h7:o=7
 ·rw[jm h7];obtain⟨a,b,c,q1,q2,q3,q4,q5⟩:=UQ (hT.H V) V.Nh hN h7 (hT.bi V) ht;have q1:l=[a,b,c]:=q1;subst q1;dsimp only;split
  ·split
   ·exact⟨q5.symm,V.CZ.kids c (by simp[AE.kids])⟩
   ·exact⟨q4.symm,V.CZ.kids b (by simp[AE.kids])⟩
  ·exact same
 rw[jn h7];by_cases h8:o=8
 ·rw[jm h8];obtain⟨a,r,q1,q2,q3,q4,q5⟩:=J2 (hT.H V) V.Nh S hN h8 (hT.bi V) ht;have q1:l=a::r:=q1;subst q1;dsimp only;by_cases h6:a.op=6
  ·rw[jm h6];have ry:nu≠-1:=λq=>q2 (by show Bs p.decls nu=[];rw[q];simp[Bs]);have q4:T v a=nu:=q4;have Va:VX p a v:=V.gG (by simp[AE.kids]);obtain⟨c,t,x,c1,c2,c3,c4,c5,c6⟩:=Vb S hN hT Va h6 (by rw[q4];exact ry);obtain⟨d1,d2⟩:=To c2;rw[<- c3,q4,<- c1]at d1;have q3:r.length=(Bs p.decls nu).length:=q3;have qG:=(jg.1 d1).1;have hb:r[ci p.decls nu a.num]?=some r[ci p.decls nu a.num]:=jl (by omega);rw[hb];dsimp only;have F:=Mq S (je d1) hN;have tb:=Sm q5 ht (T (v++Fc p.decls a.num) r[ci p.decls nu a.num]) (jz.2 ⟨ci p.decls nu a.num,by
    show (List.zipWith _ ((Bs p.decls nu).map (Fc p.decls)) r)[_]?=_;rw[lO,ji,d1,hb];rfl⟩)
   have hbm:=Ho (je hb);have hae:=Fw a;have sH:a.kids.length=(Fc p.decls a.num).length:=by
    rw[c1,c5,<- c4,kB]
   have hf3:=F.2.2.1;simp only[CK]at hl;have L:=dG S hN hT v V.H6 a.kids [] r[ci p.decls nu a.num] (by simp) (by simp;omega) (λy hy=>⟨Va.CZ.kids y hy,λhq=>by
    have hy2:T v y∈a.kids.map (T v):=lD hy;rw[c4,<- c5,<- c1]at hy2;have:=Ju (F.2.2.2 _ hy2);rw[hq]at this;omega⟩) (V.CZ.kids _ (by simp[AE.kids,je hb]))
   simp only[ky,lE]at L;rw[c4,<- c5,<- c1]at L;exact⟨by rw[L.1,tb],L.2⟩
  ·rw[jn h6];exact same
 ·rw[jn h8];exact same
theorem Zj (S:Ek p.decls p.funcs)(hN:2000000<=N)(hT:TX p N T):∀(c:Nat) (e:AE) (v:List Int),en e<=c->VF p e v->T v e≠-1->
  (T v (fd p.decls v.length e)=T v e/\An (fd p.decls v.length e)/\en (fd p.decls v.length e)<=2*en e)/\
  (T v (.mk e.op e.num (Ka p.decls v.length e.op e.num 0 e.kids))=T v e/\VX p (.mk e.op e.num (Ka p.decls v.length e.op e.num 0 e.kids)) v/\CK (Ka p.decls v.length e.op e.num 0 e.kids)<=2*CK e.kids):=by
 intro c
 induction c with
 | zero=>intro e _ h;have:=G6 e;omega
 | succ c ih=>
  intro e v hc V ht;have hlv:=V.len;have K:∀(i:Nat) k,e.kids[i]?=some k->An (fd p.decls (v.length+He p.decls e.op e.num i) k)/\en (fd p.decls (v.length+He p.decls e.op e.num i) k)<=2*en k:=λi k hk=>by
   obtain⟨m,m1,m2,m3,m4⟩:=PM S hN hT V.x ht hk;have tj:=DE (je hk);have:=(ih k (v++m) (by omega) (V.JL (je hk) m2 m3) m4).1;rw[kD,m1]at this;exact⟨this.2.1,this.2.2⟩
  have pL:∀(l:List AE) (j:Nat),(∀i k,l[i]?=some k->en (fd p.decls (v.length+He p.decls e.op e.num (j+i)) k)<=2*en k)->CK (Ka p.decls v.length e.op e.num j l)<=2*CK l:=by
   intro l
   induction l with
   | nil=>intro j _;simp[Ka,CK]
   | cons a l ihl=>
    intro j h;have h0:=h 0 a rfl;have h1:=ihl (j+1) (λi k hk=>by have:=h (i+1) k hk;rwa [show j+1+i=j+(i+1) by omega]);simp only[Ka,CK];rw[mA]at h0;omega
  have sz:=pL e.kids 0 (λi k hk=>by rw[kt];exact (K i k hk).2);have he:=Fw e;have hkk:∀k∈Ka p.decls v.length e.op e.num 0 e.kids,An k:=λk hk=>by
   obtain⟨i,hi⟩:=jz.1 hk;rw[NZ,kt,jo]at hi;obtain⟨k0,yS,rfl⟩:=hi;exact (K i k0 yS).1
  have CZ:An (.mk e.op e.num (Ka p.decls v.length e.op e.num 0 e.kids)):=fB V.CZ (SM _ _) hkk;have V1:VX p (.mk e.op e.num (Ka p.decls v.length e.op e.num 0 e.kids)) v:=⟨by rw[en];omega,V.H6,CZ⟩
  have t1:T v (.mk e.op e.num (Ka p.decls v.length e.op e.num 0 e.kids))=T v e:=by
   by_cases qs:e.op=12
   ·have q:=hT.var V.x qs;have q':=hT.var V1 qs;by_cases hr:e.kids=[]/\0<=e.num/\e.num<(v.length:Int)
    ·have hf:Ka p.decls v.length e.op e.num 0 e.kids=[]:=by rw[hr.1];rfl
     rw[q,q',jm hr];exact jm ⟨hf,hr.2⟩
    ·rw[jn hr]at q;exact absurd q ht
   ·have hB:=RU (e':=.mk e.op e.num (Ka p.decls v.length e.op e.num 0 e.kids)) (v':=v) (hT.H V.x) (hT.H V1) V.x.Nh V1.Nh S hN (hT.bi V.x) ht rfl rfl qs (SM _ _) (λi k k' hk qd m hm1 hm3 zQ hkt=>by
     have qd:(Ka p.decls v.length e.op e.num 0 e.kids)[i]?=some k':=qd;rw[NZ,kt,hk]at qd;obtain rfl:fd p.decls (v.length+He p.decls e.op e.num i) k=k':=by simpa using qd
     have rB:=je hk;have tj:=DE rB;have:=(ih k (v++m) (by omega) (V.JL rB hm3 zQ) hkt).1.1;rwa [kD,hm1]at this)
    have:=hT.bi V1;rw[hB]at this;exact (lT this).symm
  have t2:=fr S hN hT V1 (by omega) (by rw[t1];exact ht);rw[X5];refine⟨⟨by rw[t2.1,t1],t2.2,?_⟩,t1,V1,sz⟩;have:=fS (D:=p.decls) (n:=v.length) (o:=e.op) (nu:=e.num) (l:=Ka p.decls v.length e.op e.num 0 e.kids) (λh8 a ha h6=>by
   obtain⟨a0,r,q1,q2,q3,q4,q5⟩:=J2 (hT.H V1) V1.Nh S hN h8 (hT.bi V1) (by rw[t1];exact ht);obtain⟨i,hi⟩:=jz.1 ha;obtain⟨m,m1,m2,m3,m4⟩:=PM S hN hT V1 (by rw[t1];exact ht) hi;have Vk:=V1.JL ha m2 m3;obtain⟨c,t,x,c1,c2,c3,c4,c5,c6⟩:=Vb S hN hT Vk h6 m4;obtain⟨g1,g2,d,g3,g4⟩:=Ki c2;have:=(S.LD d g3 x g4).1;have h:=kf List.length c4;rw[kB]at h;omega)
  omega
end
end RC
namespace RC
open Go
section
variable {p : AP} {N : Nat} {T : List Int -> AE -> Int}
theorem Y2 (hT:TX p N T){e:AE}{v:List Int}(V:VX p e v)(h:e.op=0)(ht:T v e≠-1):-999<=e.num/\e.num<=999:=by
 have q:=hT.bs V;unfold Bp at q;simp only[h,Int.reduceEq,jx,kA,jk,kO,kH]at q;by_cases hk:Sh.len e.kids=0
 ·simp only[hk,jx,kO]at q;rw[Ep]at q;by_cases h1:-999<=e.num
  ·by_cases h2:e.num<=999
   ·exact⟨h1,h2⟩
   ·simp[h1,h2,Sh.cont]at q;exact absurd q.symm ht
  ·simp[h1,Sh.cont]at q;exact absurd q.symm ht
 ·simp[hk,Sh.cont]at q;exact absurd q.symm ht
end
theorem XO (x:Int):I2 x=some (Wc x):=by
 unfold I2 Wc;congr 1;split<;>split<;>(try split)<;>(try split)<;>omega
theorem WB {o a b:Int}(ho:o=1∨o=2∨o=3∨o=4)(ha:-999<=a/\a<=999)(hb:-999<=b/\b<=999):MU o a b=some (Wp o a b):=by
 have hm:-998001<=a*b/\a*b<=998001:=by
  have h1:(a*b).natAbs<=998001:=by
   rw[Int.natAbs_mul];exact mB (nN (by omega:a.natAbs<=999) (by omega:b.natAbs<=999)) (by decide)
  omega
 unfold MU Wp;rcases ho with rfl|rfl|rfl|rfl
 ·simp only[jx,kO];rw[BK (by omega) (by omega),XO];rfl
 ·simp only[Int.reduceEq,jx,kA,jk,kH,kO];rw[BK (by omega) (by omega),XO];rfl
 ·simp only[Int.reduceEq,jx,kA,jk,kH,kO];rw[BK (by omega) (by omega),XO];rfl
 ·simp only[Int.reduceEq,jx,kA,jk,kH,kO,jd];by_cases h:a<b<;>simp[h]
theorem V5 {o a b:Int}(ho:o=1∨o=2∨o=3∨o=4)(ha:-999<=a/\a<=999)(hb:-999<=b/\b<=999):Me o a b=some (Wp o a b):=by
 have hm:-998001<=a*b/\a*b<=998001:=by
  have h1:(a*b).natAbs<=998001:=by
   rw[Int.natAbs_mul];exact mB (nN (by omega:a.natAbs<=999) (by omega:b.natAbs<=999)) (by decide)
  omega
 have a1:¬ a < -999:=by omega
 have a2:¬ 999<a:=by omega
 have b1:¬ b < -999:=by omega
 have b2:¬ 999<b:=by omega
 have cl:∀n:Int,(if 999<(if (-999) > n then (-999) else n) then 999 else (if (-999) > n then (-999) else n))=Wc n:=λn=>by
  unfold Wc;split<;>split<;>(try split)<;>(try split)<;>omega
 unfold Me Wp;simp only[a1,a2,b1,b2,kA,jk,kH,jd];rcases ho with rfl|rfl|rfl|rfl
 ·simp only[jx,kO,jd];rw[BK (by omega) (by omega),cl]
 ·simp only[Int.reduceEq,jx,kA,jk,kH,kO,jd];rw[BK (by omega) (by omega),cl]
 ·simp only[Int.reduceEq,jx,kA,jk,kH,kO,jd];rw[BK (by omega) (by omega),cl]
 ·simp only[Int.reduceEq,jx,kA,jk,kH,kO];by_cases h:a<b
  ·simp[h]
  ·simp[h]
theorem TN {N:Nat}(hN:2000000<=N){a b:Int}:∀(n:Nat) (e:AE),en e<=n->en e<=1000->An (sh a b e)->Gp N n e a b=some (sh a b e):=by
 intro n
 induction n with
 | zero=>intro e h;have:=G6 e;omega
 | succ n ih=>
  intro e hn hs hI;have hlen:=H2 e.kids;have he:=Fw e;have hIn:=hI.num;rw[Pz]at hIn;have hIk:=hI.kids;rw[MC]at hIk;rw[Gp];unfold Kv KM;have key:∀(M i:Nat),i<=e.kids.length->e.kids.length-i<M->Ei e.kids a b (Gp N n) M i ((e.kids.map (sh a b)).take i)=some (e.kids.map (sh a b)):=by
   intro M i hi hM;refine Bo e.kids.length (λM i=>Ei e.kids a b (Gp N n) M i ((e.kids.map (sh a b)).take i)=some (e.kids.map (sh a b))) ?_ ?_ hi hM
   ·intro m;rw[Ei,jn (by simp[AN]),kY (by simp)]
   ·intro m i hi sU;obtain⟨c,hc,qW⟩:=CF hi;have h1:=Ho qW;rw[Ei,jm (by simp[AN];omega),BH hc];simp only[jd];rw[ih c (by omega) (by omega) (hIk _ (lD qW))];simp only[jd];rw[EM _ _ 40 (by simp;omega) (by simp;omega),BK (by omega) (by omega),show ((i:Int)+1)=((i+1:Nat):Int) by omega];simp only[jd];have hm:(e.kids.map (sh a b))[i]?=some (sh a b c):=by rw[ji,hc];rfl
    rw[<- D4 hm];exact sU
  have:=key N 0 (kE _) (by omega);rw[lF,oQ]at this;rw[this,S6];by_cases h:e.op=12
  ·by_cases h2:a<=e.num
   ·have hc:(if e.op=12/\a<=e.num then e.num+b else e.num)=e.num+b:=jm ⟨h,h2⟩;rw[hc]at hIn⊢;simp only[h,h2,jx,kO,jd];rw[BK (by unfold Gw at hIn;omega) (by unfold Gw at hIn;omega)]
   ·have hc:(if e.op=12/\a<=e.num then e.num+b else e.num)=e.num:=jn λq=>h2 q.2;rw[hc];simp[h,h2]
  ·have hc:(if e.op=12/\a<=e.num then e.num+b else e.num)=e.num:=jn λq=>h q.1;rw[hc];simp[h]
theorem U3 {N:Nat}(hN:2000000<=N){a b:Int}{e:AE}(hs:en e<=1000)(hI:An (sh a b e)):Mr N e a b=some (sh a b e):=by
 unfold Mr;exact TN hN N e (by omega) hs hI
theorem RH {N:Nat}(hN:2000000<=N){a b:Int}:∀(n:Nat) (e:AE),en e<=n->en e<=1000->An (sh a b e)->D0 N n e a b=some (sh a b e):=by
 intro n
 induction n with
 | zero=>intro e h;have:=G6 e;omega
 | succ n ih=>
  intro e hn hs hI;have hlen:=H2 e.kids;have he:=Fw e;have hIn:=hI.num;rw[Pz]at hIn;have hIk:=hI.kids;rw[MC]at hIk;rw[D0];unfold IS;have key:∀(M i:Nat),i<=e.kids.length->e.kids.length-i<M->Cm e a b (D0 N n) M i ((e.kids.map (sh a b)).take i)=some (e.kids.map (sh a b)):=by
   intro M i hi hM;refine Bo e.kids.length (λM i=>Cm e a b (D0 N n) M i ((e.kids.map (sh a b)).take i)=some (e.kids.map (sh a b))) ?_ ?_ hi hM
   ·intro m;rw[Cm,jn (by simp[AN]),kY (by simp)]
   ·intro m i hi sU;obtain⟨c,hc,qW⟩:=CF hi;have h1:=Ho qW;rw[Cm,jm (by simp[AN];omega),BH hc];simp only[jd];rw[ih c (by omega) (by omega) (hIk _ (lD qW))];simp only[jd];rw[EM _ _ 40 (by simp;omega) (by simp;omega),BK (by omega) (by omega),show ((i:Int)+1)=((i+1:Nat):Int) by omega];simp only[jd];have hm:(e.kids.map (sh a b))[i]?=some (sh a b c):=by rw[ji,hc];rfl
    rw[<- D4 hm];exact sU
  have:=key N 0 (kE _) (by omega);rw[lF,oQ]at this;rw[this,S6];by_cases h:e.op=12
  ·by_cases h2:a<=e.num
   ·have hc:(if e.op=12/\a<=e.num then e.num+b else e.num)=e.num+b:=jm ⟨h,h2⟩;rw[hc]at hIn⊢;simp only[h,h2,jx,kO,jd];rw[BK (by unfold Gw at hIn;omega) (by unfold Gw at hIn;omega)]
   ·have hc:(if e.op=12/\a<=e.num then e.num+b else e.num)=e.num:=jn λq=>h2 q.2;rw[hc];simp[h,h2]
  ·have hc:(if e.op=12/\a<=e.num then e.num+b else e.num)=e.num:=jn λq=>h q.1;rw[hc];simp[h]
theorem TG {N:Nat}(hN:2000000<=N){a b:Int}{e:AE}(hs:en e<=1000)(hI:An (sh a b e)):Gn N e a b=some (sh a b e):=by
 unfold Gn;exact RH hN N e (by omega) hs hI
theorem bK {n:Nat}:∀(xs ys:List AE) (k:Nat) (b:AE),lt n k (xs++ys) b=lt n k xs (lt n (k+xs.length) ys b)
 | [],ys,k,b=>by simp[lt]
 | x::xs,ys,k,b=>by
  simp only[nX,lt,bK xs,kQ];rw[show k+1+xs.length=k+(xs.length+1) by omega]
theorem Yh {n:Nat}{l:List AE}{i:Nat}{x:AE}(h:l[i]?=some x)(b:AE):lt n 0 (l.take i) (.mk 13 0 [sh n i x,b])=lt n 0 (l.take (i+1)) b:=by
 have qG:=(jg.1 h).1;rw[D4 h,bK,lu,ma (by omega),kt];rfl
theorem MQ {N:Nat}(hN:2000000<=N){n:Nat}{l:List AE}(hl :∀(i:Nat) x,l[i]?=some x->en x<=1000/\An (sh n i x)):∀(i:Nat) (b:AE),i<=l.length->Fu N l (n:Int) i b=some (lt n 0 (l.take i) b)
 | 0,b,_=>by rw[Fu,lF];rfl
 | i+1,b,hi=>by
  obtain⟨x,hx,_⟩:=CF (l:=l) (i:=i) (by omega);obtain⟨h1,h2⟩:=hl i x hx;rw[Fu,BH hx];simp only[jd];rw[TG hN h1 h2];simp only[jd];rw[MQ hN hl i _ (by omega),Yh hx]
theorem Tv {N:Nat}(hN:2000000<=N){n:Nat}{l:List AE}{b:AE}(wh:l.length<=1000)(hl :∀(i:Nat) x,l[i]?=some x->en x<=1000/\An (sh n i x)):KY N b.kids l b.op b.num (n:Int)=some (lt n 0 l b):=by
 unfold KY;rw[jm (by omega),<- HG,MQ hN hl l.length b (jv _),lM]
theorem Nk {N:Nat}(hN:2000000<=N){n:Nat}{l:List AE}(wh:l.length<=1000)(hl :∀(i:Nat) x,l[i]?=some x->en x<=1000/\An (sh n i x)):∀(i:Nat) (b:AE) (M:Nat),i<=l.length->i<M->Gq N l (n:Int) M ((i:Int)-1) b.op b.num b.kids=some ((lt n 0 (l.take i) b).op,(lt n 0 (l.take i) b).num,(lt n 0 (l.take i) b).kids)
 | 0,b,M,_,hM=>by
  obtain⟨M,rfl⟩ :∃m,M=m+1:=⟨M-1,by omega⟩
  rw[Gq,jn (by simp),lF];rfl
 | i+1,b,M,hi,hM=>by
  obtain⟨M,rfl⟩ :∃m,M=m+1:=⟨M-1,by omega⟩
  obtain⟨x,hx,_⟩:=CF (l:=l) (i:=i) (by omega);obtain⟨h1,h2⟩:=hl i x hx;have e:((i+1:Nat):Int)-1=(i:Int):=by omega
  rw[Gq,e,jm (by simp),BH hx];simp only[jd];rw[U3 hN h1 h2];simp only[jd];rw[<- HG,BK (by omega) (by omega)];have:=Nk hN wh hl i (.mk 13 0 [sh n i x,b]) M (by omega) (by omega);rw[Yh hx]at this;exact this
theorem Wf {N:Nat}(hN:2000000<=N){n:Nat}{l:List AE}{b:AE}(wh:l.length<=1000)(hl :∀(i:Nat) x,l[i]?=some x->en x<=1000/\An (sh n i x)):Ma N l b (n:Int)=some (lt n 0 l b):=by
 unfold Ma;rw[AN,BK (by omega) (by omega),Nk hN wh hl l.length b N (jv _) (by omega),lM];simp only[jd];rw[<- HG]
theorem cD {l:List Int}{x:Int}(hl:l.length<=1000){N:Nat}(hN:2000000<=N){i:Nat}(hi:l[i]?=some x)(hn :∀j,l[j]?=some x->i=j):Fy N l x=some (i:Int):=by
 have qG:=(jg.1 hi).1;have key:∀(d j M:Nat),j+d=i->d<M->DB l x M (j:Int)=some (.inl (i:Int)):=by
  intro d
  induction d with
  | zero=>
   intro j M hj hM;obtain⟨M,rfl⟩ :∃m,M=m+1:=⟨M-1,by omega⟩
   have:j=i:=by omega
   subst this;rw[DB,jm (by simp[AN];omega),BH hi];simp only[jd];rw[jm (by simp)]
  | succ d ih=>
   intro j M hj hM;obtain⟨M,rfl⟩ :∃m,M=m+1:=⟨M-1,by omega⟩
   obtain⟨y,hy,_⟩:=CF (l:=l) (i:=j) (by omega);have pN:¬ x=y:=λq=>by
    have:=hn j (by rw[hy,q]);omega
   rw[DB,jm (by simp[AN];omega),BH hy];simp only[jd];rw[jn (by simpa using pN),BK (by omega) (by omega),show ((j:Int)+1)=((j+1:Nat):Int) by omega];exact ih (j+1) M (by omega) (by omega)
 have:=key i 0 N (by omega) (by omega);unfold Fy;rw[oQ]at this;rw[this];rfl
end RC
