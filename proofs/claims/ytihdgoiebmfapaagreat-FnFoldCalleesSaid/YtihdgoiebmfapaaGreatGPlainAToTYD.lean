import Derived.Test.YtihdgoiebmfapaaGreatGHADefsToFEDefs
set_option linter.all false
namespace RC
open Go
theorem BJ {n:Int}(h1:-9223372036854775808<=n)(h2:n<=9223372036854775807):Sh.w n=n:=Abs.wrap_i64 h1 h2
theorem AM {α:Type}(l:List α):Sh.len l=(l.length:Int):=rfl
theorem OT {α:Type}(l:List α)(i:Nat):Sh.get l (i:Int)=l[i]?:=by
 unfold Sh.get;rw[ld (oY i)];simp
theorem BG {α:Type}{l:List α}{i:Nat}{x:α}(h:l[i]?=some x):Sh.get l (i:Int)=some x:=by rw[OT,h]
theorem Py {α:Type}{l:List α}{j:Int}(h0:0<=j)(h1:j<l.length):∃x,Sh.get l j=some x/\l[j.toNat]?=some x:=by
 have h:l[j.toNat]?=some (l[j.toNat]'(by omega)):=lZ (by omega);exact⟨_,by unfold Sh.get;rw[ld h0,h],h⟩
theorem X4 {α:Type}{l:List α}{j:Int}(h0:0<=j):Sh.get l j=l[j.toNat]?:=by unfold Sh.get;rw[ld h0]
theorem OA {α:Type}(l:List α)(i:Nat)(x:α):Sh.put l (i:Int) x=l.set i x:=by simp[Sh.put]
theorem OX {α:Type}(x:α)(n b:Nat)(h:n*b<=281474976710656)(h2:n<=9223372036854775807):Sh.mk x (n:Int) b=some (List.replicate n x):=by
 unfold Sh.mk;rw[ld ⟨by omega,by rw[<- pd];omega,by omega⟩];simp
theorem EC {α:Type}(l m:List α)(b:Nat)(h:(l.length+m.length)*b<=140737488355328)(h2:l.length+m.length<=9223372036854775807):Sh.app l m b=some (l++m):=by
 unfold Sh.app;rw[ld ⟨h,h2⟩]
theorem gY {α:Type}{l:List α}{j:Nat}(h:j<=l.length):Sh.hi l (j:Int)=some (l.take j):=by
 unfold Sh.hi;rw[ld ⟨by omega,by omega⟩];simp
theorem Bh (len:Nat)(P:Nat->Nat->Prop)(h0 :∀n,P (n+1) len)(hs :∀n i,i<len->P n (i+1)->P (n+1) i):∀{N i:Nat},i<=len->len-i<N->P N i:=by
 intro N i hi hN;obtain⟨k,hk⟩ :∃k,len-i=k:=⟨_,rfl⟩
 induction k generalizing N i with
 | zero=>
  obtain⟨n,rfl⟩ :∃n,N=n+1:=⟨N-1,by omega⟩
  have:i=len:=by omega
  subst this;exact h0 n
 | succ k ih=>
  obtain⟨n,rfl⟩ :∃n,N=n+1:=⟨N-1,by omega⟩
  exact hs n i (by omega) (ih (by omega) (by omega) (by omega))
theorem Bz {α:Type}{l:List α}{i:Nat}(h:i<l.length):∃x,l[i]?=some x/\x∈l:=⟨l[i],lZ h,oD h⟩
theorem D8 {α:Type}{l:List α}{j:Nat}{x:α}(h:l[j]?=some x):l.take (j+1)=l.take j++[x]:=by rw[List.take_add_one,h];rfl
theorem drop_cons {α:Type}{l:List α}{j:Nat}{x:α}(h:l[j]?=some x):l.drop j=x::l.drop (j+1):=by
 obtain⟨hj,rfl⟩:=lV.1 h;exact List.drop_eq_getElem_cons hj
def er (h:List Cell):Nat:=(h.map λc=>c.fields.length).sum
def Gt (h:List Cell):Nat:=h.length+er h
structure Hp (h:List Cell):Prop where
 size:Gt h<=1048576
 cells :∀c∈h,Yo c
theorem eQ {h:List Cell}{c:Cell}(hc:c∈h):c.fields.length<=er h:=by
 induction h with
 | nil=>cases hc
 | cons d h ih=>
  simp only[er,mF,oJ]at ih⊢;rcases lk.1 hc with rfl|hc
  ·omega
  ·have:=ih hc;omega
theorem Hp.len {h:List Cell}(H:Hp h):h.length<=1048576:=by have:=H.size;unfold Gt at this;omega
theorem Hp.KK {h:List Cell}(H:Hp h){c:Cell}(hc:c∈h):c.fields.length<=1048576:=by have:=H.size;have:=eQ hc;unfold Gt at *;omega
end RC
namespace RC
open Go
def Fw {α:Type}(f:Nat->α->Bool):Nat->List α->Bool
 | _,[]=>true
 | k,x::r=>f k x&&Fw f (k+1) r
theorem SM {α:Type}{f g:Nat->α->Bool}:∀(l:List α) (k:Nat),(∀(i:Nat) x,l[i]?=some x->f (k+i) x=g (k+i) x)->Fw f k l=Fw g k l
 | [],_,_=>rfl
 | x::r,k,h=>by
  have h0:=h 0 x rfl;rw[nw]at h0;have h1:=SM r (k+1) λi y hy=>(show k+(i+1)=k+1+i by omega)▸h (i+1) y hy;rw[Fw,Fw,h0,h1]
theorem Ft {α:Type}{p:α->Bool}:∀(l:List α) (k:Nat),Fw (λ_ x=>p x) k l=l.all p
 | [],_=>rfl
 | x::r,k=>by rw[Fw,Ft r (k+1),ns]
theorem E0 {α:Type}{l:List α}(L:Nat->Int->Option (Bool ⊕ Unit))(f:Nat->α->Bool)(h0 :∀n,L (n+1) (l.length:Int)=some (.inr ()))
  (hs :∀n (i:Nat) x,l[i]?=some x->L (n+1) (i:Int)=if f i x=true then L n ((i+1:Nat):Int) else some (.inl false)) {N:Nat} (hN:l.length<N) :
  L N 0=some (if Fw f 0 l=true then .inr () else .inl false):=by
 have key:∀{N i:Nat},i<=l.length->l.length-i<N->L N (i:Int)=some (if Fw f i (l.drop i)=true then .inr () else .inl false):=by
  intro N i hi hN;refine Bh l.length (λN i=>L N (i:Int)=some (if Fw f i (l.drop i)=true then .inr () else .inl false)) ?_ ?_ hi hN
  ·intro n;rw[h0 n];simp[Fw]
  ·intro n i hi ih;obtain⟨x,hx,_⟩:=Bz hi;rw[hs n i x hx,ih,drop_cons hx,Fw];cases h:f i x<;>simp
 have:=key (mB _) (by omega:l.length-0<N);simpa using this
theorem E6 {β:Type}{b:Bool}{g:Bool->β}{K:Unit->Option β}:Sh.cont (some (if b=true then Sum.inr () else Sum.inl false)) g K=if b=true then K () else some (g false):=by
 cases b<;>rfl
theorem Zt {α:Type}{l:List α}{j:Nat}(h:j<=l.length)(h2:l.length<=9223372036854775807):Sh.sl l 0 (j:Int)=some (l.take j):=by
 unfold Sh.sl;rw[ld ⟨by omega,by omega,by omega⟩];simp
end RC
namespace RC
open Go
end RC
namespace RC
open Go
def jZ (h:List Cell)(w:Int):Bool:=decide (1000<=w)&&(match h[(w-1000).toNat]? with|some c=>decide (0<c.count)|none=>false)
theorem EX (a b c:Int):DZ a b c=some (decide (b<=a)&&decide (a<=c)):=by
 unfold DZ;by_cases h:b<=a<;>simp[h]
end RC
namespace RC
open Go
def DL (D:List AN)(t:Int):Bool:=decide (0<=t)&&decide (t<=(D.length:Int))
theorem NP {D:List AN}{x:Int}:DZ x 0 (Sh.len D)=some (DL D x):=by rw[EX];rfl
theorem NW {D:List AN}{l:List Int}(hl:l.length<=1048576){N:Nat}(hN:l.length<N):IG N D l=some (l.all (DL D)):=by
 unfold IG;rw[E0 (l:=l) (FC D l) (λ_ x=>DL D x) (λn=>by rw[FC,la (by simp[AM])]) (λn i x hx=>?_) hN,E6,Ft]
 ·cases l.all (DL D)<;>rfl
 ·have hi:=(lV.1 hx).1;rw[FC,ld (by simp[AM];omega),BG hx];simp only[lS];rw[NP,BJ (by omega) (by omega),show ((i:Int)+1)=((i+1:Nat):Int) by omega];simp only[lS];cases DL D x<;>rfl
theorem J6 {D:List AN}{t:Int}:HU D t=some (DL D t):=by
 unfold HU DL;by_cases h:0<=t<;>by_cases h2:t<=(D.length:Int)<;>simp[h,h2,AM]
theorem Ka {D:List AN}{l:List Int}(hl:l.length<=1048576){N:Nat}(hN:l.length<N):HE N D l=some (l.all (DL D)):=by
 unfold HE;rw[E0 (l:=l) (FA D l) (λ_ x=>DL D x) (λn=>by rw[FA,la (by simp[AM])]) (λn i x hx=>?_) hN,E6,Ft]
 ·cases l.all (DL D)<;>rfl
 ·have hi:=(lV.1 hx).1;rw[FA,ld (by simp[AM];omega),BG hx];simp only[lS];rw[J6,BJ (by omega) (by omega),show ((i:Int)+1)=((i+1:Nat):Int) by omega];simp only[lS];cases DL D x<;>rfl
def Q9 (D:List AN)(c:De):Bool:=decide (c.fields.length<=3)&&c.fields.all (DL D)
def Hq (a b:AN):Bool:=decide (a.cons.length=0)&&(decide (a.from_=b.from_)&&decide (a.to=b.to))
def Lo (D:List AN)(i:Nat)(d:AN):Bool:=
 if 0<d.cons.length then (decide (d.cons.length<=3)&&(decide (d.from_=0)&&decide (d.to=0)))&&d.cons.all (Q9 D)
 else (D.take i).all (λe=>!Hq e d)&&(DL D d.from_&&DL D d.to)
def Th (D:List AN)(i:Nat)(d:AN):Bool:=
 ((DL D d.from_&&(DL D d.to&&(decide (d.cons.length<=3)&&(!(decide (0<d.cons.length)&&(!decide (d.from_=0) || !decide (d.to=0)))))))&&d.cons.all (Q9 D))&&(D.take i).all (λe=>!(decide (d.cons.length=0)&&Hq e d))
theorem cD (D:List AN)(i:Nat)(d:AN):Th D i d=Lo D i d:=by
 unfold Th Lo;by_cases h:0<d.cons.length
 ·have h0:¬ d.cons.length=0:=by omega
  have ha:(D.take i).all (λe=>!(decide (d.cons.length=0)&&Hq e d))=true:=by simp[h0]
  rw[ld h,ha];by_cases h1:d.from_=0<;>by_cases h2:d.to=0<;>simp[h,h1,h2,DL]
 ·have h0:d.cons.length=0:=by omega
  have hc:d.cons=[]:=mY h0;rw[la h];simp only[hc,h0,nD,List.all_nil,lr,oz,Bool.and_true];cases DL D d.from_<;>cases DL D d.to<;>simp
structure QO (D:List AN):Prop where
 len:D.length<=1048576
 cons :∀d∈D,d.cons.length<=1048576
 Lc :∀d∈D,∀c∈d.cons,c.fields.length<=1048576
theorem RV {D:List AN}(hD:QO D){i:Nat}{d:AN}(hd:D[i]?=some d){N:Nat}(hN:2000000<=N):Ic N D i=some (Lo D i d):=by
 have hm:=lT hd;have hi:=(lV.1 hd).1;have hlen:=hD.len;have hc:=hD.cons d hm;unfold Ic Lo;rw[BG hd];simp only[lS];by_cases h:0<d.cons.length
 ·rw[ld (by simp[AM];omega),ld h];rw[E0 (l:=d.cons) (Ew N d D) (λ_ c=>Q9 D c) (λn=>by rw[Ew,la (by simp[AM])]) (λn j c hj=>?_) (by omega),E6,Ft]
  ·simp only[AM];by_cases h3:d.cons.length<=3
   ·have e3:¬ (3:Int)<(d.cons.length:Int):=by omega
    generalize d.cons.all (Q9 D)=z;cases z<;>by_cases h1:d.from_=0<;>by_cases h2:d.to=0<;>simp[h1,h2,h3,e3]
   ·have e3:(3:Int)<(d.cons.length:Int):=by omega
    simp[h3,e3]
  ·have hj':=(lV.1 hj).1;have hf:=hD.Lc d hm c (lT hj);rw[Ew,ld (by simp[AM];omega),BG hj];simp only[lS];rw[NW hf (by omega),BJ (by omega) (by omega),show ((j:Int)+1)=((j+1:Nat):Int) by omega];unfold Q9;by_cases h3:c.fields.length<=3
   ·have e3:¬ (3:Int)<(c.fields.length:Int):=by omega
    simp only[AM];cases c.fields.all (DL D)<;>simp[h3,e3]
   ·have e3:(3:Int)<(c.fields.length:Int):=by omega
    simp[h3,e3,AM]
 ·have h0:d.cons.length=0:=by omega
  have e0:¬ decide ((0:Int)<Sh.len d.cons)=true:=by rw[AM,h0];simp
  rw[la e0,la h];have qw:(D.take i).length=i:=by simp;omega
  rw[E0 (l:=D.take i) (Eu d D i) (λ_ e=>!Hq e d) (λn=>by rw[Eu,la (by simp;omega)]) (λn j e hj=>?_) (by omega),E6,Ft]
  ·rw[NP,NP];simp only[lS];cases (D.take i).all (λe=>!Hq e d)<;>cases DL D d.from_<;>simp
  ·have hj':=(lV.1 hj).1;have hje:D[j]?=some e:=by rw[mJ]at hj;split at hj<;>first|exact hj|cases hj
   rw[Eu,ld (by simp;omega),BG hje];simp only[lS];rw[BJ (by omega) (by omega),show ((j:Int)+1)=((j+1:Nat):Int) by omega];unfold Hq;simp only[AM];by_cases a0:e.cons.length=0<;>by_cases a1:e.from_=d.from_<;>by_cases a2:e.to=d.to<;>simp[a0,a1,a2]
def NJ (D:List AN):Bool:=decide (D.length<=4)&&Fw (Lo D) 0 D
theorem Qb {D:List AN}(hD:QO D){N:Nat}(hN:2000000<=N):H8 N D=some (NJ D):=by
 have hlen:=hD.len;unfold H8 NJ;rw[E0 (l:=D) (EW N D) (Lo D) (λn=>by rw[EW,la (by simp[AM])]) (λn i d hd=>?_) (by omega),E6]
 ·simp only[AM];by_cases h:D.length<=4
  ·have e4:¬ (4:Int)<(D.length:Int):=by omega
   cases Fw (Lo D) 0 D<;>simp[h,e4]
  ·have e4:(4:Int)<(D.length:Int):=by omega
   simp[h,e4]
 ·have hi:=(lV.1 hd).1;rw[EW,ld (by simp[AM];omega),RV hD hd hN];simp only[lS];rw[BJ (by omega) (by omega),show ((i:Int)+1)=((i+1:Nat):Int) by omega];cases Lo D i d<;>rfl
theorem Qu {D:List AN}(hD:QO D){N:Nat}(hN:2000000<=N):H0 N D=some (NJ D):=by
 have hlen:=hD.len;unfold H0 NJ;rw[<- SM (f:=Th D) D 0 (λi d _=>cD D _ d)];rw[E0 (l:=D) (EU N D) (Th D) (λn=>by rw[EU,la (by simp[AM])]) (λn i d hd=>?_) (by omega),E6]
 ·simp only[AM];by_cases h:D.length<=4
  ·have e4:¬ (4:Int)<(D.length:Int):=by omega
   cases Fw (Th D) 0 D<;>simp[h,e4]
  ·have e4:(4:Int)<(D.length:Int):=by omega
   simp[h,e4]
 ·have hi:=(lV.1 hd).1;have hm:=lT hd;have hc:=hD.cons d hm;have l2:Dw N d D N 0=some (if d.cons.all (Q9 D)=true then .inr () else .inl false):=by
   rw[E0 (l:=d.cons) (Dw N d D) (λ_ c=>Q9 D c) (λn=>by rw[Dw,la (by simp[AM])]) (λn j c hj=>?_) (by omega),Ft];have hj':=(lV.1 hj).1;have hf:=hD.Lc d hm c (lT hj);rw[Dw,ld (by simp[AM];omega),BG hj];simp only[lS];rw[Ka hf (by omega),BJ (by omega) (by omega),show ((j:Int)+1)=((j+1:Nat):Int) by omega];unfold Q9;by_cases h3:c.fields.length<=3
   ·have e3:¬ (3:Int)<(c.fields.length:Int):=by omega
    simp only[AM];cases c.fields.all (DL D)<;>simp[h3,e3]
   ·have e3:(3:Int)<(c.fields.length:Int):=by omega
    simp[h3,e3,AM]
  have qw:(D.take i).length=i:=by simp;omega
  have l3:Dx d (D.take i) N 0=some (if (D.take i).all (λe=>!(decide (d.cons.length=0)&&Hq e d))=true then .inr () else .inl false):=by
   rw[E0 (l:=D.take i) (Dx d (D.take i)) (λ_ e=>!(decide (d.cons.length=0)&&Hq e d)) (λn=>by rw[Dx,la (by simp[AM])]) (λn j e hj=>?_) (by omega),Ft];have hj':=(lV.1 hj).1;rw[Dx,ld (by simp only[AM];simp;omega),BG hj];simp only[lS];rw[BJ (by omega) (by omega),show ((j:Int)+1)=((j+1:Nat):Int) by omega];unfold Hq;simp only[AM];by_cases b0:d.cons.length=0<;>by_cases a0:e.cons.length=0<;>by_cases a1:e.from_=d.from_<;>by_cases a2:e.to=d.to<;>simp[a0,a1,a2,b0]
  rw[EU,ld (by simp[AM];omega),BG hd];simp only[lS];rw[J6,J6,l2,Zt (by omega) (by omega),BJ (by omega) (by omega),show ((i:Int)+1)=((i+1:Nat):Int) by omega];simp only[lS];rw[l3,E6,E6];unfold Th;simp only[AM];generalize d.cons.all (Q9 D)=z1;generalize (D.take i).all (λe=>!(decide (d.cons.length=0)&&Hq e d))=z2;by_cases h3:d.cons.length<=3
  ·have e3:¬ (3:Int)<(d.cons.length:Int):=by omega
   by_cases h0:0<d.cons.length
   ·have e0:(0:Int)<(d.cons.length:Int):=by omega
    cases DL D d.from_<;>cases DL D d.to<;>cases z1<;>cases z2<;>by_cases h1:d.from_=0<;>by_cases h2:d.to=0<;>simp[h1,h2,h3,e3,h0]
   ·have e0:¬ (0:Int)<(d.cons.length:Int):=by omega
    cases DL D d.from_<;>cases DL D d.to<;>cases z1<;>cases z2<;>simp[h3,e3,h0]
  ·have e3:(3:Int)<(d.cons.length:Int):=by omega
   cases DL D d.from_<;>cases DL D d.to<;>simp[h3,e3]
end RC
namespace RC
open Go
def Lv (ps ls:List Int)(i:Nat)(v:Int):Bool:=
 (decide (0<=v)&&decide (v<(ps.length:Int)))&&(!decide (ps[v.toNat]?=some 0)&&!(decide (0<i)&&decide (v<=(ls[i-1]?).getD 0)))
theorem eN {ls:List Int}{i:Nat}(h0:0<i)(hi:i<ls.length):∃x,ls[i-1]?=some x/\Sh.get ls (((i:Nat):Int)-1)=some x:=by
 obtain⟨x,hx,_⟩:=Bz (l:=ls) (i:=i-1) (by omega);exact⟨x,hx,by rw[show ((i:Int)-1)=((i-1:Nat):Int) by omega,BG hx]⟩
theorem XK {c:Bv}(hp:c.params.length<=1048576)(hl:c.F7.length<=1048576){N:Nat}(hN:2000000<=N):EF c N 0=some (if Fw (Lv c.params c.F7) 0 c.F7=true then .inr () else .inl false):=by
 refine E0 (l:=c.F7) (EF c) (Lv c.params c.F7) (λn=>by rw[EF,la (by simp[AM])]) (λn i v hv=>?_) (by omega);have hi:=(lV.1 hv).1;rw[EF,ld (by simp[AM];omega),BG hv];simp only[lS];rw[AM,BJ (n:=(i:Int)+1) (by omega) (by omega),BJ (n:=(i:Int)-1) (by omega) (by omega),show ((i:Int)+1)=((i+1:Nat):Int) by omega];unfold Lv;by_cases h0:0<=v
 ·have uX:¬ v<0:=by omega
  by_cases h1:v<(c.params.length:Int)
  ·have tC:¬ (c.params.length:Int)<=v:=by omega
   obtain⟨d,e1,e2⟩:=Py h0 h1;rw[e1,e2];by_cases hi0:0<i
   ·obtain⟨x,g1,g2⟩:=eN hi0 hi;rw[g1,g2];by_cases hc:d=0<;>by_cases hx:v<=x<;>simp[h0,uX,h1,tC,hc,hi0,hx]
   ·by_cases hc:d=0<;>simp[h0,uX,h1,tC,hc,hi0]
  ·have tC:(c.params.length:Int)<=v:=by omega
   simp[h0,uX,h1,tC]
 ·have uX:v<0:=by omega
  simp[h0,uX]
def OK (D:List AN)(ps:List Int)(r:Int):Bool:=decide (ps.length<=3)&&(ps.all (DL D)&&DL D r)
theorem Ta {p:AP}(hf:p.funcs.length<=1048576)(hp :∀f∈p.funcs,f.params.length<=1048576){N:Nat}(hN:2000000<=N):EG N p N 0=some (if (p.funcs.all λf=>OK p.decls f.params f.result)=true then .inr () else .inl false):=by
 rw[<- Ft _ 0];refine E0 (l:=p.funcs) (EG N p) (λ_ f=>OK p.decls f.params f.result) (λn=>by rw[EG,la (by simp[AM])]) (λn i f hi=>?_) (by omega);have tD:=(lV.1 hi).1;have zR:=hp f (lT hi);rw[EG,ld (by simp[AM];omega),BG hi];simp only[lS];rw[NW zR (by omega),NP,BJ (by omega) (by omega),show ((i:Int)+1)=((i+1:Nat):Int) by omega];unfold OK;simp only[AM];by_cases h3:f.params.length<=3
 ·have e3:¬ (3:Int)<(f.params.length:Int):=by omega
  generalize f.params.all (DL p.decls)=z;cases z<;>cases DL p.decls f.result<;>simp[h3,e3]
 ·have e3:(3:Int)<(f.params.length:Int):=by omega
  simp[h3,e3]
theorem Tl {D:List AN}{l:List Bv}(hf:l.length<=1048576)(hp :∀f∈l,f.params.length<=1048576/\f.F7.length<=1048576){N:Nat}(hN:2000000<=N):ED N D l N 0=some (if (l.all λf=>OK D f.params f.result&&Fw (Lv f.params f.F7) 0 f.F7)=true then .inr () else .inl false):=by
 rw[<- Ft _ 0];refine E0 (l:=l) (ED N D l) (λ_ f=>OK D f.params f.result&&Fw (Lv f.params f.F7) 0 f.F7) (λn=>by rw[ED,la (by simp[AM])]) (λn i f hi=>?_) (by omega);have tD:=(lV.1 hi).1;have zR:=hp f (lT hi);rw[ED,ld (by simp[AM];omega),BG hi];simp only[lS];rw[Ka zR.1 (by omega),J6,XK zR.1 zR.2 hN,E6,BJ (by omega) (by omega),show ((i:Int)+1)=((i+1:Nat):Int) by omega];unfold OK;simp only[AM];generalize Fw (Lv f.params f.F7) 0 f.F7=y;by_cases h3:f.params.length<=3
 ·have e3:¬ (3:Int)<(f.params.length:Int):=by omega
  generalize f.params.all (DL D)=z;cases z<;>cases DL D f.result<;>cases y<;>simp[h3,e3]
 ·have e3:(3:Int)<(f.params.length:Int):=by omega
  simp[h3,e3]
end RC
namespace RC
open Go
def Y1 (D:List (List Int×Int)):Bool:=match D with|[]=>false|(ps,r)::_=>decide (ps.length=0)&&decide (r=0)
def O3 (D:List AN)(l:List (List Int×Int)):Bool:=NJ D&&((decide (1<=l.length)&&decide (l.length<=4))&&(l.all (λs=>OK D s.1 s.2)&&Y1 l))
theorem Rw {p:AP}(hD:QO p.decls)(hf:p.funcs.length<=1048576)(hp :∀f∈p.funcs,f.params.length<=1048576){N:Nat}(hN:2000000<=N):HJ N p=some (O3 p.decls (p.funcs.map λf=>(f.params,f.result))):=by
 unfold HJ O3;rw[Qb hD hN,Ta hf hp hN,E6,EX];simp only[lS,ly,List.all_map,pQ];cases NJ p.decls with
 | false=>simp
 | true=>
  cases hl:p.funcs with
  | nil=>simp[AM]
  | cons f r=>
   have e0:Sh.get (f::r) 0=some f:=rfl;rw[e0];generalize (f::r).all (λf=>OK p.decls f.params f.result)=z;simp only[mF,Y1];have q1:decide ((1:Int)<=Sh.len (f::r))=true:=decide_eq_true (by rw[AM,mN];omega);have q2:decide (1<=(f::r).length)=true:=by simp
   have q3:decide (Sh.len (f::r)<=4)=decide ((f::r).length<=4):=oF.2 (by rw[AM];omega);have q4:decide (Sh.len f.params=0)=decide (f.params.length=0):=oF.2 (by rw[AM];omega);simp only[q1,q2,q3,q4,lS];cases decide ((f::r).length<=4)<;>cases z<;>by_cases a1:f.params.length=0<;>by_cases a2:f.result=0<;>simp[a1,a2]
theorem Ro {D:List AN}{l:List Bv}(hD:QO D)(hf:l.length<=1048576)(hp :∀f∈l,f.params.length<=1048576/\f.F7.length<=1048576){N:Nat}(hN:2000000<=N):
  Ij N D l=some (O3 D (l.map λf=>(f.params,f.result))&&l.all (λf=>Fw (Lv f.params f.F7) 0 f.F7)):=by
 unfold Ij O3;rw[Qu hD hN,Tl hf hp hN,E6];have tZ:(l.all λf=>OK D f.params f.result&&Fw (Lv f.params f.F7) 0 f.F7)=((l.all λf=>OK D f.params f.result)&&(l.all λf=>Fw (Lv f.params f.F7) 0 f.F7)):=by
  clear hf hp
  induction l with
  | nil=>rfl
  | cons f r ih=>
   simp only[ns,ih];cases OK D f.params f.result<;>cases Fw (Lv f.params f.F7) 0 f.F7<;>simp
 rw[tZ];simp only[lS,ly,List.all_map,pQ];cases NJ D with
 | false=>simp
 | true=>
  cases hl:l with
  | nil=>simp[AM]
  | cons f r=>
   have e0:Sh.get (f::r) 0=some f:=rfl;rw[e0];generalize (f::r).all (λf=>OK D f.params f.result)=z;generalize (f::r).all (λf=>Fw (Lv f.params f.F7) 0 f.F7)=y;simp only[mF,Y1];have q1:decide (Sh.len (f::r)<1)=false:=pF (by rw[AM,mN];omega);have q2:decide (1<=(f::r).length)=true:=by simp
   have q3:decide ((4:Int)<Sh.len (f::r))=!decide ((f::r).length<=4):=by rw[<- decide_not];exact oF.2 (by rw[AM];omega)
   have q4:decide ((0:Int)<Sh.len f.params)=!decide (f.params.length=0):=by rw[<- decide_not];exact oF.2 (by rw[AM];omega)
   simp only[q1,q2,q3,q4,lS];cases decide ((f::r).length<=4)<;>cases z<;>cases y<;>by_cases a1:f.params.length=0<;>by_cases a2:f.result=0<;>simp[a1,a2]
end RC
namespace RC
open Go
def nc (D:List AN):Nat:=(D.map (·.cons.length)).sum
theorem LS {D:List AN}{i:Nat}{d:AN}(h:D[i]?=some d):nc (D.take (i+1))=nc (D.take i)+d.cons.length:=by
 rw[D8 h];simp[nc]
theorem Sb {D:List AN}{i:Nat}{d:AN}(h:D[i]?=some d):nc (D.drop i)=d.cons.length+nc (D.drop (i+1)):=by
 rw[drop_cons h];simp[nc]
theorem G5 (D:List AN)(i:Nat):nc D=nc (D.take i)+nc (D.drop i):=by
 unfold nc;rw[<- List.sum_append_nat,<- nI,List.take_append_drop]
theorem Hj {D:List AN}(hD:D.length<=1048576)(hn:nc D<=1048576){i:Nat}(hi:i<=D.length){N:Nat}(hN:2000000<=N):GW N D i=some (nc (D.take i):Int):=by
 unfold GW;have key:∀{N j:Nat},j<=i->i-j<N->Eg D i N (nc (D.take j)) j=some (nc (D.take i):Int):=by
  intro N j hj hN;refine Bh i (λN j=>Eg D i N (nc (D.take j)) j=some (nc (D.take i):Int)) ?_ ?_ hj hN
  ·intro n;rw[Eg,la (by simp)]
  ·intro n j hj ih;obtain⟨d,hd,_⟩:=Bz (l:=D) (i:=j) (by omega);have hs:=G5 D (j+1);have ht:=LS hd;rw[Eg,ld (by simp;omega),BG hd];simp only[lS];rw[AM,BJ (n:=(j:Int)+1) (by omega) (by omega),BJ (by omega) (by omega),show ((nc (D.take j):Int)+(d.cons.length:Int))=((nc (D.take (j+1)):Nat):Int) by omega,show ((j:Int)+1)=((j+1:Nat):Int) by omega];exact ih
 have:=key (mB _) (by omega:i-0<N);rw[show (((nc (D.take 0):Nat):Int))=0 from rfl,show (((0:Nat):Int))=0 from rfl]at this;rw[this];rfl
theorem SY {D:List AN}(hD:D.length<=1048576)(hn:nc D<=1048576){N:Nat}(hN:2000000<=N):JP N D=some (nc D:Int):=by
 unfold JP;have key:∀{N j:Nat},j<=D.length->D.length-j<N->Ec D N (nc (D.take j)) j=some (nc D:Int):=by
  intro N j hj hN;refine Bh D.length (λN j=>Ec D N (nc (D.take j)) j=some (nc D:Int)) ?_ ?_ hj hN
  ·intro n;rw[Ec,la (by simp[AM]),nL]
  ·intro n j hj ih;obtain⟨d,hd,_⟩:=Bz hj;have hs:=G5 D (j+1);have ht:=LS hd;rw[Ec,ld (by simp[AM];omega),BG hd];simp only[lS];rw[AM,BJ (n:=(j:Int)+1) (by omega) (by omega),BJ (by omega) (by omega),show ((nc (D.take j):Int)+(d.cons.length:Int))=((nc (D.take (j+1)):Nat):Int) by omega,show ((j:Int)+1)=((j+1:Nat):Int) by omega];exact ih
 have:=key (mB _) (by omega:D.length-0<N);rw[show (((nc (D.take 0):Nat):Int))=0 from rfl,show (((0:Nat):Int))=0 from rfl]at this;rw[this];rfl
def Gl:List AN->Nat->Nat->Option (Nat×De)
 | [],_,_=>none
 | d::r,k,c=>match d.cons[c]? with
  | some x=>some (k+1,x)
  | none=>Gl r (k+1) (c-d.cons.length)
theorem PW {D:List AN}(hD:D.length<=1048576)(hn:nc D<=1048576){c:Nat}(hc:c<nc D){N:Nat}(hN:2000000<=N):∃t x,Gl D 0 c=some (t,x)/\IP N D c=some ((t:Int),x):=by
 have key:∀(m j N c:Nat),D.length-j=m->j<=D.length->m<N->c<nc (D.drop j)->∃t x,Gl (D.drop j) j c=some (t,x)/\FO D N c j=some (.inl ((t:Int),x)):=by
  intro m
  induction m with
  | zero=>
   intro j N c h1 h2 _ h3;rw[nv (by omega)]at h3;simp[nc]at h3
  | succ m ih=>
   intro j N c h1 h2 h3 h4;obtain⟨N,rfl⟩ :∃n,N=n+1:=⟨N-1,by omega⟩
   obtain⟨d,hd,_⟩:=Bz (l:=D) (i:=j) (by omega);have hs:=G5 D j;rw[Sb hd]at h4 hs;rw[drop_cons hd];unfold Gl;rw[FO,ld (by simp[AM];omega),BG hd];simp only[lS];rw[ld (by simp),AM,BJ (n:=(j:Int)+1) (by omega) (by omega),BJ (by omega) (by omega)];cases hx:d.cons[c]? with
   | some x=>
    have qw:=(lV.1 hx).1;refine⟨j+1,x,rfl,?_⟩;have e:((c:Int)<(d.cons.length:Int)):=by omega
    simp[e,BG hx]
   | none=>
    have hle:d.cons.length<=c:=by simpa using hx
    obtain⟨t,x,g1,g2⟩:=ih (j+1) N (c-d.cons.length) (by omega) (by omega) (by omega) (by omega);refine⟨t,x,g1,?_⟩;have e:¬ ((c:Int)<(d.cons.length:Int)):=by omega
    rw[<- g2,show ((c:Int)-(d.cons.length:Int))=((c-d.cons.length:Nat):Int) by omega,show ((j:Int)+1)=((j+1:Nat):Int) by omega];simp[e]
 obtain⟨t,x,g1,g2⟩:=key D.length 0 N c (by omega) (by omega) (by omega) (by simpa using hc);refine⟨t,x,by simpa using g1,?_⟩;unfold IP;rw[show (((0:Nat):Int))=0 from rfl]at g2;rw[g2];rfl
end RC
namespace RC
open Go
theorem Kw {D:List AN}(hD:D.length<=1048576)(hn:nc D<=1048576){c:Nat}(hc:c<nc D){N:Nat}(hN:2000000<=N):∃t x,Gl D 0 c=some (t,x)/\GR N D c=some (t:Int):=by
 have key:∀(m j M c:Nat),D.length-j=m->j<=D.length->m<M->c<nc (D.drop j)->∃t x,Gl (D.drop j) j c=some (t,x)/\D5 N D ((nc (D.take j)+c:Nat):Int) M j=some (.inl (t:Int)):=by
  intro m
  induction m with
  | zero=>
   intro j M c h1 h2 _ h3;rw[nv (by omega)]at h3;simp[nc]at h3
  | succ m ih=>
   intro j M c h1 h2 h3 h4;obtain⟨M,rfl⟩ :∃n,M=n+1:=⟨M-1,by omega⟩
   obtain⟨d,hd,_⟩:=Bz (l:=D) (i:=j) (by omega);have hs:=G5 D j;rw[Sb hd]at h4 hs;have ht:=LS hd;rw[drop_cons hd];unfold Gl;rw[D5,ld (by simp[AM];omega),Hj hD hn (by omega) hN,BG hd];simp only[lS];rw[AM,BJ (n:=(j:Int)+1) (by omega) (by omega),BJ (n:=(nc (D.take j):Int)+(d.cons.length:Int)) (by omega) (by omega),BJ (by omega) (by omega),EX];simp only[lS];cases hx:d.cons[c]? with
   | some x=>
    have qw:=(lV.1 hx).1;refine⟨j+1,x,rfl,?_⟩;rw[ld (by simp;omega)];rfl
   | none=>
    have hle:d.cons.length<=c:=by simpa using hx
    obtain⟨t,x,g1,g2⟩:=ih (j+1) M (c-d.cons.length) (by omega) (by omega) (by omega) (by omega);refine⟨t,x,g1,?_⟩;rw[la (by simp;omega),<- g2,show nc (D.take j)+c=nc (D.take (j+1))+(c-d.cons.length) by omega];rfl
 obtain⟨t,x,g1,g2⟩:=key D.length 0 N c (by omega) (by omega) (by omega) (by simpa using hc);refine⟨t,x,by simpa using g1,?_⟩;unfold GR;rw[show nc (D.take 0)+c=c by simp[nc],show (((0:Nat):Int))=0 from rfl]at g2;rw[g2];rfl
theorem NX {D:List AN}(hD:D.length<=1048576)(hn:nc D<=1048576){c:Int}(hc:c<0∨(nc D:Int)<=c){N:Nat}(hN:2000000<=N):GR N D c=some (-1):=by
 unfold GR;have key:∀{M j:Nat},j<=D.length->D.length-j<M->D5 N D c M j=some (.inr ()):=by
  intro M j hj hM;refine Bh D.length (λM j=>D5 N D c M j=some (.inr ())) ?_ ?_ hj hM
  ·intro n;rw[D5,la (by simp[AM])]
  ·intro n j hj ih;obtain⟨d,hd,_⟩:=Bz hj;have hs:=G5 D (j+1);have ht:=LS hd;rw[D5,ld (by simp[AM];omega),Hj hD hn (by omega) hN,BG hd];simp only[lS];rw[AM,BJ (n:=(j:Int)+1) (by omega) (by omega),BJ (n:=(nc (D.take j):Int)+(d.cons.length:Int)) (by omega) (by omega),BJ (by omega) (by omega),EX];simp only[lS];rw[la (by simp;omega)];exact ih
 have:=key (mB _) (by omega:D.length-0<N);rw[show (((0:Nat):Int))=0 from rfl]at this;rw[this];rfl
end RC
namespace RC
open Go
theorem bI {D:List AN}:∀(m j c t:Nat) (x:De),D.length-j=m->j<=D.length->Gl (D.drop j) j c=some (t,x)->∃d,1<=t/\D[t-1]?=some d/\nc (D.take (t-1))<=nc (D.take j)+c/\d.cons[nc (D.take j)+c-nc (D.take (t-1))]?=some x:=by
 intro m
 induction m with
 | zero=>
  intro j c t x h1 h2 h;rw[nv (by omega)]at h;simp[Gl]at h
 | succ m ih=>
  intro j c t x h1 h2 h;obtain⟨d,hd,_⟩:=Bz (l:=D) (i:=j) (by omega);have ht:=LS hd;rw[drop_cons hd]at h;unfold Gl at h;cases hx:d.cons[c]? with
  | some y=>
   rw[hx]at h;simp only[lX,pA]at h;obtain⟨rfl,rfl⟩:=h;exact⟨d,by omega,by simpa using hd,by simp,by simpa using hx⟩
  | none=>
   rw[hx]at h;have hle:d.cons.length<=c:=by simpa using hx
   obtain⟨e,g1,g2,g3,g4⟩:=ih (j+1) (c-d.cons.length) t x (by omega) (by omega) h;rw[show nc (D.take (j+1))+(c-d.cons.length)=nc (D.take j)+c by omega]at g3 g4;exact⟨e,g1,g2,g3,g4⟩
theorem HC {D:List AN}(hD:D.length<=1048576)(hn:nc D<=1048576){c:Nat}(hc:c<nc D){N:Nat}(hN:2000000<=N):∃t x,Gl D 0 c=some (t,x)/\Bw N D c=some x.fields:=by
 obtain⟨t,x,e1,e2⟩:=Kw hD hn hc hN;obtain⟨d,g1,g2,g3,g4⟩:=bI (D:=D) D.length 0 c t x (by omega) (by omega) (by simpa using e1);have qw:=(lV.1 g2).1;have hs:=G5 D (t-1);rw[show nc (D.take 0)+c=c by simp[nc]]at g3 g4;refine⟨t,x,e1,?_⟩;unfold Bw;rw[e2];simp only[lS];rw[la (by simp;omega),BJ (n:=(t:Int)-1) (by omega) (by omega),show ((t:Int)-1)=((t-1:Nat):Int) by omega,BG g2,Hj hD hn (by omega) hN];simp only[lS];rw[BJ (by omega) (by omega),show ((c:Int)-(nc (D.take (t-1)):Int))=((c-nc (D.take (t-1)):Nat):Int) by omega,BG g4];rfl
theorem S5 {D:List AN}(hD:D.length<=1048576)(hn:nc D<=1048576){c:Nat}(hc:c<nc D){N:Nat}(hN:2000000<=N):∃t x,Gl D 0 c=some (t,x)/\EO N D c=some x.fields:=by
 obtain⟨t,x,e1,e2⟩:=PW hD hn hc hN;exact⟨t,x,e1,by unfold EO;rw[e2];rfl⟩
end RC
namespace RC
open Go
def Bu (D:List AN)(t:Int):List Int:=
 if 1<=t/\t<=(D.length:Int) then (List.range ((D[(t-1).toNat]?).elim 0 (·.cons.length))).map λ(i:Nat)=>(nc (D.take (t-1).toNat):Int)+(i:Int) else []
theorem UG {f:Nat->Int}{i:Nat}:(List.range (i+1)).map f=(List.range i).map f++[f i]:=by rw[List.range_succ,nI];rfl
theorem Lq {D:List AN}(hD:D.length<=1048576)(hn:nc D<=1048576){t:Int}{N:Nat}(hN:2000000<=N):GN N D t=some (Bu D t):=by
 unfold GN Bu;rw[EX,AM];simp only[lS];by_cases h:1<=t/\t<=(D.length:Int)
 ·obtain⟨a,ha⟩ :∃a:Nat,t=(a:Int)+1:=⟨(t-1).toNat,by omega⟩
  subst ha;obtain⟨d,hd,_⟩:=Bz (l:=D) (i:=a) (by omega);have hs:=G5 D (a+1);have ht:=LS hd;rw[la (by simp;omega),ld h,show (((a:Int)+1)-1).toNat=a by omega,hd];simp only[ny];have key:∀{M i:Nat},i<=d.cons.length->d.cons.length-i<M->FT N D ((a:Int)+1) M i ((List.range i).map λ(i:Nat)=>(nc (D.take a):Int)+(i:Int))=some ((List.range d.cons.length).map λ(i:Nat)=>(nc (D.take a):Int)+(i:Int)):=by
   intro M i hi hM;refine Bh d.cons.length (λM i=>FT N D ((a:Int)+1) M i ((List.range i).map λ(i:Nat)=>(nc (D.take a):Int)+(i:Int))=some ((List.range d.cons.length).map λ(i:Nat)=>(nc (D.take a):Int)+(i:Int))) ?_ ?_ hi hM
   ·intro n;rw[FT,BJ (by omega) (by omega),show ((a:Int)+1-1)=((a:Nat):Int) by omega,BG hd];simp only[lS];rw[la (by simp[AM])]
   ·intro n i hi ih;rw[FT,BJ (n:=(a:Int)+1-1) (by omega) (by omega),show ((a:Int)+1-1)=((a:Nat):Int) by omega,BG hd];simp only[lS];rw[ld (by simp[AM];omega),Hj hD hn (by omega) hN];simp only[lS];rw[EC _ _ _ (by simp;omega) (by simp;omega),BJ (n:=(i:Int)+1) (by omega) (by omega),BJ (by omega) (by omega),show ((i:Int)+1)=((i+1:Nat):Int) by omega];simp only[lS];rw[<- ih,UG]
  have:=key (mB _) (by omega:d.cons.length-0<N);rw[show (((0:Nat):Int))=0 from rfl,List.range_zero,nV]at this;rw[this];rfl
 ·rw[ld (by simp;omega),la h]
theorem HN {D:List AN}(hD:D.length<=1048576)(hn:nc D<=1048576){t:Int}{N:Nat}(hN:2000000<=N):Ha N D t=some (Bu D t):=by
 unfold Ha Bu;rw[AM];by_cases h:1<=t/\t<=(D.length:Int)
 ·obtain⟨a,ha⟩ :∃a:Nat,t=(a:Int)+1:=⟨(t-1).toNat,by omega⟩
  subst ha;obtain⟨d,hd,_⟩:=Bz (l:=D) (i:=a) (by omega);have hs:=G5 D (a+1);have hs0:=G5 D a;have ht:=LS hd;have e1:¬ ((a:Int)+1<1):=by omega
  have e2:¬ ((D.length:Int)<(a:Int)+1):=by omega
  rw[ld h,show (((a:Int)+1)-1).toNat=a by omega,hd,BJ (by omega) (by omega),show ((a:Int)+1-1)=((a:Nat):Int) by omega,Zt (by omega) (by omega),BG hd];simp only[ny,e1,e2,lx,lY,mC,lS];rw[SY (by simp;omega) (by omega) hN];simp only[lS];have key:∀{M i:Nat},i<=d.cons.length->d.cons.length-i<M->FY d (nc (D.take a):Int) M i ((List.range i).map λ(i:Nat)=>(nc (D.take a):Int)+(i:Int))=some ((List.range d.cons.length).map λ(i:Nat)=>(nc (D.take a):Int)+(i:Int)):=by
   intro M i hi hM;refine Bh d.cons.length (λM i=>FY d (nc (D.take a):Int) M i ((List.range i).map λ(i:Nat)=>(nc (D.take a):Int)+(i:Int))=some ((List.range d.cons.length).map λ(i:Nat)=>(nc (D.take a):Int)+(i:Int))) ?_ ?_ hi hM
   ·intro n;rw[FY,la (by simp[AM])]
   ·intro n i hi ih;rw[FY,ld (by simp[AM];omega)];rw[EC _ _ _ (by simp;omega) (by simp;omega),BJ (n:=(i:Int)+1) (by omega) (by omega),BJ (by omega) (by omega),show ((i:Int)+1)=((i+1:Nat):Int) by omega];simp only[lS];rw[<- ih,UG]
  have:=key (mB _) (by omega:d.cons.length-0<N);rw[show (((0:Nat):Int))=0 from rfl,List.range_zero,nV]at this;rw[this];rfl
 ·rw[la h];by_cases e1:t<1
  ·simp[e1]
  ·have e2:(D.length:Int)<t:=by omega
   simp[e1,e2]
end RC
namespace RC
open Go
end RC
namespace RC
open Go
def jk (left:Int)(s:Nat):Int:=if left-s<0 then -1 else left-s
theorem SQ {left:Int}{s:Nat}(h:left-s<0):jk left s=-1:=ld h
theorem Vv {left:Int}{s:Nat}(h:¬ left-s<0):jk left s=left-s:=la h
def cz (c:De):Nat:=c.fields.length
def dz (d:AN):Nat:=d.cons.length+(d.cons.map cz).sum
end RC
namespace RC
open Go
end RC
namespace RC
open Go
end RC
namespace RC
open Go
end RC
namespace RC
open Go
section
variable {im : ie} {p : fB} {at_ : Nat} {i : cN} {N : Nat}
end
end RC
namespace RC
open Go
theorem Ld {α:Type}(f:α->Nat){l:List α}{x:α}(h:x∈l):f x<=(l.map f).sum:=by
 induction l with
 | nil=>cases h
 | cons y r ih=>
  rw[mF,oJ];rcases lk.1 h with rfl|h
  ·omega
  ·have:=ih h;omega
end RC
namespace RC
open Go
end RC
namespace RC
open Go
end RC
namespace RC
open Go
mutual
def en:AE->Nat|.mk _ _ k=>1+CM k
def CM:List AE->Nat|[]=>0|e::l=>en e+CM l
end
theorem Fp (e:AE):en e=1+CM e.kids:=by cases e;simp[en,AE.kids]
theorem X5 {k:List AE}{i:Nat}{e:AE}(h:k[i]?=some e):CM (k.drop i)=en e+CM (k.drop (i+1)):=by rw[drop_cons h];simp[CM]
theorem F8 (e:AE):1<=en e:=by rw[Fp];omega
theorem H7 {k:List AE}{e:AE}(h:e∈k):en e<=CM k:=by
 induction k with
 | nil=>cases h
 | cons c k ih=>
  simp only[CM];rcases lk.1 h with rfl|h
  ·omega
  ·have:=ih h;omega
theorem Hi (k:List AE):k.length<=CM k:=by
 induction k with
 | nil=>simp
 | cons c k ih=>have:=F8 c;simp only[CM,mN];omega
theorem Cs {e k:AE}(h:k∈e.kids):en k<en e:=by have:=H7 h;rw[Fp e];omega
def YU (f:Ac):Nat:=f.params.length+CM f.body.kids
def TU (p:AP):Nat:=(p.decls.length+(p.decls.map dz).sum)+(p.funcs.length+(p.funcs.map YU).sum)
theorem UZ {N:Nat}(hN:2000000<=N):∀(n:Nat) (e:AE) (left:Int),left<=1000->0<=left->left<n->CM e.kids<=1048576->FD N n e left=some (jk left (en e)):=by
 intro n
 induction n with
 | zero=>intro e left _ _ h;omega
 | succ n ih=>
  intro e left h0 xY h1 hz;rw[FD];unfold I0;have hp:=Fp e;have hle:=Hi e.kids;by_cases h2:left<1
  ·rw[ld (by simpa using h2),SQ (by omega)]
  ·rw[la (by simpa using h2),BJ (by omega) (by omega)];have key:∀{M i:Nat},i<=e.kids.length->e.kids.length-i<M->∀l:Int,0<=l->l<left->Dk e (FD N n) M l i=some (if l-(CM (e.kids.drop i):Int)<0 then .inl (-1) else .inr (l-(CM (e.kids.drop i):Int))):=by
    intro M i hi hM;refine Bh e.kids.length (λM i=>∀l:Int,0<=l->l<left->Dk e (FD N n) M l i=some (if l-(CM (e.kids.drop i):Int)<0 then .inl (-1) else .inr (l-(CM (e.kids.drop i):Int)))) ?_ ?_ hi hM
    ·intro m l l0 l1;rw[Dk,la (by simp[AM])];simp[CM];omega
    ·intro m i hi tv l l0 l1;obtain⟨x,hx,te⟩:=Bz hi;have hz2:=H7 te;have e1:=Fp x;rw[Dk,ld (by simp[AM];omega),BG hx];simp only[lS];rw[ih x l (by omega) l0 (by omega) (by omega),X5 hx];simp only[lS];by_cases h3:l-(en x:Int)<0
     ·rw[SQ h3,ld (by simp),ld (by omega)]
     ·rw[Vv h3,la (by simpa using h3),BJ (by omega) (by omega),show ((i:Int)+1)=((i+1:Nat):Int) by omega,tv (l-(en x:Int)) (by omega) (by omega)];rw[show l-(en x:Int)-(CM (e.kids.drop (i+1)):Int)=l-((en x+CM (e.kids.drop (i+1)):Nat):Int) by omega]
   have:=key (mB _) (by omega:e.kids.length-0<N) (left-1) (by omega) (by omega);rw[qU,nQ]at this;rw[this];by_cases h3:left-1-(CM e.kids:Int)<0
   ·rw[ld h3,SQ (by omega)];rfl
   ·rw[la h3,Vv (by omega)];simp only[Sh.N4];congr 1;omega
theorem GG {e:AE}(hz:CM e.kids<=1048576){N:Nat}(hN:2000000<=N):Gv N e=some (if en e<=30 then (en e:Int) else -1):=by
 unfold Gv Lu;rw[UZ hN N e 30 (by omega) (by omega) (by omega) hz];simp only[lS];by_cases h:en e<=30
 ·rw[Vv (by omega),ld h,la (by simp;omega),BJ (by omega) (by omega)];congr 1;omega
 ·rw[SQ (by omega),la h];rfl
theorem TV {N:Nat}(hN:2000000<=N):∀(n:Nat) (e:AE) (c:Nat),c<=30->31-c<n->CM e.kids<=1048576->Ev N n c e=some (if c+en e<=30 then (true,((c+en e:Nat):Int)) else (false,31)):=by
 intro n
 induction n with
 | zero=>intro e c _ h;omega
 | succ n ih=>
  intro e c h0 h1 hz;rw[Ev];unfold IW;have hp:=Fp e;have hle:=Hi e.kids;rw[BJ (by omega) (by omega)];by_cases h2:c=30
  ·subst h2;rw[ld (by simp),la (by omega)];rfl
  ·rw[la (by simp;omega)];have key:∀{M i:Nat},i<=e.kids.length->e.kids.length-i<M->∀d:Nat,c<d->d<=30->DT e (Ev N n) M i d=some (if d+CM (e.kids.drop i)<=30 then .inr ((d+CM (e.kids.drop i):Nat):Int) else .inl (false,31)):=by
    intro M i hi hM;refine Bh e.kids.length (λM i=>∀d:Nat,c<d->d<=30->DT e (Ev N n) M i d=some (if d+CM (e.kids.drop i)<=30 then .inr ((d+CM (e.kids.drop i):Nat):Int) else .inl (false,31))) ?_ ?_ hi hM
    ·intro m d l0 l1;rw[DT,la (by simp[AM])];simp[CM,l1]
    ·intro m i hi tv d l0 l1;obtain⟨x,hx,te⟩:=Bz hi;have hz2:=H7 te;have e1:=Fp x;rw[DT,ld (by simp[AM];omega),BG hx];simp only[lS];rw[ih x d l1 (by omega) (by omega),X5 hx];simp only[lS];by_cases h3:d+en x<=30
     ·rw[ld h3];simp only[nA,lY,mC];rw[BJ (by omega) (by omega),show ((i:Int)+1)=((i+1:Nat):Int) by omega,tv (d+en x) (by omega) h3,nS]
     ·have h4:¬ (d+(en x+CM (List.drop (i+1) e.kids))<=30):=by omega
      rw[la h3,la h4];rfl
   have:=key (mB _) (by omega:e.kids.length-0<N) (c+1) (by omega) (by omega);rw[qU,nQ,show ((c+1:Nat):Int)=(c:Int)+1 by omega]at this;rw[this];by_cases h3:c+1+CM e.kids<=30
   ·rw[ld h3,ld (by omega)];simp only[Sh.N4];rw[show c+1+CM e.kids=c+en e by omega]
   ·rw[la h3,la (by omega)];rfl
theorem N8 {e:AE}(hz:CM e.kids<=1048576){N:Nat}(hN:2000000<=N):Is N e=some (if en e<=30 then (en e:Int) else -1):=by
 unfold Is LK;have:=TV hN N e 0 (by omega) (by omega) hz;rw[qU,ml]at this;rw[this];simp only[lS];by_cases h:en e<=30
 ·rw[ld h,ld h];rfl
 ·rw[la h,la h];rfl
end RC
namespace RC
open Go
theorem QH {α:Type}{g:Nat->α->Bool}:∀(l:List α) (k:Nat),Fw g k l=true↔∀(i:Nat) x,l[i]?=some x->g (k+i) x=true
 | [],_=>by simp[Fw]
 | x::r,k=>by
  rw[Fw,mE,QH r (k+1)];constructor
  ·rintro⟨h1,h2⟩ i y hy;cases i with
   | zero=>simp only[mI,lX]at hy;subst hy;exact h1
   | succ i=>have:=h2 i y hy;rw[show k+(i+1)=k+1+i by omega];exact this
  ·intro h;exact⟨h 0 x rfl,λi y hy=>by have:=h (i+1) y hy;rw[show k+(i+1)=k+1+i by omega]at this;exact this⟩
theorem Ry {a b:List Int}(h:a.length=b.length):Fw (λi x=>decide (b[i]?=some x)) 0 a=decide (a=b):=by
 rw[Bool.eq_iff_iff,QH,oa];constructor
 ·intro g;refine nO λi=>?_;by_cases hi:i<a.length
  ·obtain⟨x,hx,_⟩:=Bz hi;have:=g i x hx;rw[oa,ml]at this;rw[hx,this]
  ·rw[mV (by omega),mV (by omega)]
 ·rintro rfl i x hx;rw[oa,ml,hx]
theorem Nw {a b:List Int}(ha:a.length<=1048576){N:Nat}(hN:2000000<=N):DS N a b=some (decide (a=b)):=by
 unfold DS;by_cases h:a.length=b.length
 ·rw[la (by simp[AM,h]),E0 (l:=a) (DD a b) (λi x=>decide (b[i]?=some x)) (λn=>by rw[DD,la (by simp[AM])]) (λn i x hx=>?_) (by omega),E6,Ry h]
  ·cases decide (a=b)<;>rfl
  ·have hi:=(lV.1 hx).1;obtain⟨y,hy,_⟩:=Bz (l:=b) (i:=i) (by omega);rw[DD,ld (by simp[AM];omega),BG hx];simp only[lS];rw[BG hy,hy,BJ (by omega) (by omega),show ((i:Int)+1)=((i+1:Nat):Int) by omega];simp only[lS];by_cases e:x=y
   ·simp[e]
   ·have e':¬ y=x:=λq=>e q.symm;simp[e,e']
 ·have rE:¬ a=b:=λe=>h (by rw[e]);have h':¬ ((a.length:Int)=(b.length:Int)):=by omega
  simp[AM,h',rE]
structure EP (D:List AN) (F:List Ac):Prop where
 NM:D.length<=4
 Q6 :∀d∈D,d.cons.length<=3
 Lc :∀d∈D,∀c∈d.cons,c.fields.length<=3/\∀t∈c.fields,DL D t=true
 fg :∀d∈D,DL D d.from_=true/\DL D d.to=true
 KK:F.length<=4
 OS :∀f∈F,f.params.length<=3/\(∀t∈f.params,DL D t=true)/\DL D f.result=true
theorem fa {D:List AN}(h :∀d∈D,d.cons.length<=3):nc D<=3*D.length:=by
 induction D with
 | nil=>simp[nc]
 | cons d r ih=>
  have h1:=h d (by simp);have h2:=ih λe he=>h e (by simp[he]);simp only[nc,mF,oJ,mN]at h2⊢;omega
theorem EP.nc {D:List AN}{F:List Ac}(S:EP D F):nc D<=12:=by have:=fa S.Q6;have:=S.NM;omega
theorem Jk {D:List AN}{t:Int}(h:DL D t=true):0<=t/\t<=(D.length:Int):=by
 unfold DL at h;simpa using h
theorem EP.of {p:AP}(h:O3 p.decls (p.funcs.map λf=>(f.params,f.result))=true):EP p.decls p.funcs:=by
 unfold O3 at h;simp only[mE,ly,List.all_map,lq]at h;obtain⟨h1,⟨_,h2⟩,h3,_⟩:=h;unfold NJ at h1;simp only[mE,lq]at h1;obtain⟨h4,h5⟩:=h1;rw[QH]at h5;have hd:∀d∈p.decls,∃i,Lo p.decls i d=true:=λd hd=>by
  obtain⟨i,hi⟩:=lv.1 hd;exact⟨_,h5 i d hi⟩
 refine⟨h4,λd hm=>?_,λd hm c hc=>?_,λd hm=>?_,h2,λf hf=>?_⟩
 ·obtain⟨i,hi⟩:=hd d hm;unfold Lo at hi;split at hi
  ·simp only[mE,lq]at hi;exact hi.1.1
  ·omega
 ·obtain⟨i,hi⟩:=hd d hm;unfold Lo at hi;split at hi
  ·simp only[mE,lq,lh]at hi;have:=hi.2 c hc;unfold Q9 at this;simp only[mE,lq,lh]at this;exact this
  ·have:=List.length_pos_of_mem hc;omega
 ·obtain⟨i,hi⟩:=hd d hm;unfold Lo at hi;split at hi
  ·simp only[mE,lq]at hi;rw[hi.1.2.1,hi.1.2.2];have:DL p.decls 0=true:=by unfold DL;simp
   exact⟨this,this⟩
  ·simp only[mE]at hi;exact hi.2
 ·have:=lh.1 h3 f hf;simp only[Function.comp,OK,mE,lq,lh]at this;exact this
def KV (p:AP)(sg:BQ)(R1:AP->List Int->AE->Option Int)(R2:List Int->BQ->AE->Option Int)(T:List Int->AE->Int)(m:Nat):Prop:=
 ∀(v:List Int) (e:AE),An e->en e<m->v.length+3*en e<=1000->(∀x∈v,DL p.decls x=true)->R1 p v e=some (T v e)/\R2 v sg e=some (T v e)/\(T v e=-1∨DL p.decls (T v e)=true)
section
variable {p : AP} {sg : BQ} {R1 : AP -> List Int -> AE -> Option Int} {R2 : List Int -> BQ -> AE -> Option Int} {T : List Int -> AE -> Int} {e : AE} {v : List Int} {N : Nat}
structure IA (p:AP) (e:AE) (v:List Int):Prop where
 len:v.length+3*en e<=1000
 H6 :∀x∈v,DL p.decls x=true
 small:en e<=340
 CZ:An e
theorem IA.JF (V:IA p e v){k:AE}(hk:k∈e.kids):v.length+3*en k<=1000:=by have:=V.len;have:=Cs hk;omega
theorem IA.more (V:IA p e v){k:AE}(hk:k∈e.kids){m:List Int}(hm:m.length<=3):(v++m).length+3*en k<=1000:=by have:=V.len;have:=Cs hk;rw[mD];omega
theorem IA.V5 (V:IA p e v){m:List Int}(hm :∀x∈m,DL p.decls x=true):∀x∈v++m,DL p.decls x=true:=λx hx=>by
 rcases lz.1 hx with h|h
 ·exact V.H6 x h
 ·exact hm x h
theorem IA.LW (V:IA p e v):e.kids.length<=340:=by have:=Hi e.kids;have:=V.small;have:=Fp e;omega
theorem PT (H:KV p sg R1 R2 T (en e))(V:IA p e v)(hN:2000000<=N)(m:Nat):Iy N R1 p v e.kids m=some (decide (e.kids.map (T v)=List.replicate m 0)):=by
 unfold Iy;have hk:=V.LW;by_cases h:e.kids.length=m
 ·subst h;rw[la (by simp[AM]),E0 (l:=e.kids) (Fj p v e.kids e.kids.length R1) (λ_ x=>decide (T v x=0)) (λn=>by rw[Fj,la (by simp)]) (λn i x hx=>?_) (by omega),E6,Ft]
  ·have e1:e.kids.all (λx=>decide (T v x=0))=decide (e.kids.map (T v)=List.replicate e.kids.length 0):=by
    rw[Bool.eq_iff_iff,oa,lh,List.eq_replicate_iff];simp
   rw[e1];cases decide (e.kids.map (T v)=List.replicate e.kids.length 0)<;>rfl
  ·have hi:=(lV.1 hx).1;have hm:=lT hx;rw[Fj,ld (by simp;omega),BG hx];simp only[lS];rw[(H v x (V.CZ.kids x hm) (Cs hm) (V.JF hm) V.H6).1,BJ (by omega) (by omega),show ((i:Int)+1)=((i+1:Nat):Int) by omega];simp only[lS];by_cases e1:T v x=0<;>simp[e1]
 ·have h1:¬ ((e.kids.length:Int)=(m:Int)):=by omega
  have h2:¬ e.kids.map (T v)=List.replicate m 0:=λq=>h (by have:=mc List.length q;simpa using this);simp[AM,h1,h2]
theorem QN (H:KV p sg R1 R2 T (en e))(V:IA p e v)(hN:2000000<=N)(l:List Int):JN N R1 p v e.kids l=some (decide (e.kids.map (T v)=l)):=by
 unfold JN;have hk:=V.LW;by_cases h:e.kids.length=l.length
 ·rw[la (by simp[AM,h]),E0 (l:=l) (GZ p v e.kids l R1) (λi x=>decide ((e.kids.map (T v))[i]?=some x)) (λn=>by rw[GZ,la (by simp[AM])]) (λn i x hx=>?_) (by omega),E6,Ry (by simp[h])]
  ·by_cases q:l=e.kids.map (T v)
   ·simp[q]
   ·have q':¬ e.kids.map (T v)=l:=λz=>q z.symm;simp[q,q']
  ·have hi:=(lV.1 hx).1;obtain⟨y,hy,hm⟩:=Bz (l:=e.kids) (i:=i) (by omega);rw[GZ,ld (by simp[AM];omega),BG hy];simp only[lS];rw[(H v y (V.CZ.kids y hm) (Cs hm) (V.JF hm) V.H6).1,BG hx,BJ (by omega) (by omega),show ((i:Int)+1)=((i+1:Nat):Int) by omega];simp only[lS];rw[lW,hy,mZ];by_cases e1:T v y=x<;>simp[e1]
 ·have h1:¬ ((e.kids.length:Int)=(l.length:Int)):=by omega
  have h2:¬ e.kids.map (T v)=l:=λq=>h (by have:=mc List.length q;simpa using this);simp[AM,h1,h2]
theorem YL (H:KV p sg R1 R2 T (en e))(V:IA p e v)(hN:2000000<=N):
  CJ v sg e R2 N 0 (List.replicate e.kids.length 0)=some (if (e.kids.map (T v)).any (λt=>decide (t<0))=true then .inl (-1) else .inr (e.kids.map (T v))):=by
 have hk:=V.LW;have key:∀{N i:Nat},i<=e.kids.length->e.kids.length-i<N->∀m:List Int,m.length=e.kids.length->m.take i=(e.kids.map (T v)).take i->
   CJ v sg e R2 N i m=some (if ((e.kids.map (T v)).drop i).any (λt=>decide (t<0))=true then .inl (-1) else .inr (e.kids.map (T v))):=by
  intro N i hi hN;refine Bh e.kids.length (λN i=>∀m:List Int,m.length=e.kids.length->m.take i=(e.kids.map (T v)).take i->
   CJ v sg e R2 N i m=some (if ((e.kids.map (T v)).drop i).any (λt=>decide (t<0))=true then .inl (-1) else .inr (e.kids.map (T v)))) ?_ ?_ hi hN
  ·intro n m a b;rw[CJ,la (by simp[AM])];rw[mX (by omega),mX (by simp)]at b;rw[b,oe (by simp)];simp
  ·intro n i hi ih m a b;obtain⟨x,hx,te⟩:=Bz hi;obtain⟨y,hy,_⟩:=Bz (l:=m) (i:=i) (by omega);have xn:(e.kids.map (T v))[i]?=some (T v x):=by rw[lW,hx];rfl
   have tD:(m.set i (T v x))[i]?=some (T v x):=by rw[lp (by omega)]
   rw[CJ,ld (by simp[AM];omega),BG hx];simp only[lS];rw[(H v x (V.CZ.kids x te) (Cs te) (V.JF te) V.H6).2.1,BG hy];simp only[lS];rw[OA,BG tD,drop_cons xn];simp only[lS,List.any_cons];by_cases h:T v x<0
   ·simp[h]
   ·rw[la (by simpa using h),BJ (by omega) (by omega),show ((i:Int)+1)=((i+1:Nat):Int) by omega,ih (m.set i (T v x)) (by simp[a]) (by rw[D8 tD,D8 xn,<- b,pH (ll _)])];simp[h]
 have:=key (mB _) (by omega:e.kids.length-0<N) (List.replicate e.kids.length 0) (by simp) rfl;simpa using this
theorem JT {a b:List Int}(ha:a.length<=1000)(hb:b.length<=1000):Ek a b=some (a++b):=by
 unfold Ek FN;rw[EC [] a 8 (by simp;omega) (by simp;omega)];simp only[lS,nJ];rw[EC a b 8 (by omega) (by omega)];rfl
theorem bM {a b:List Int}(ha:a.length<=1000)(hb:b.length<=1000)(hN:2000000<=N):Fs N [a,b]=some (a++b):=by
 obtain⟨n,rfl⟩ :∃n,N=n+3:=⟨N-3,by omega⟩
 unfold Fs;have e1:Cf [a,b] (n+3) 0 0=some ((a.length+b.length:Nat):Int):=by
  rw[Cf,ld (by simp[AM]),show Sh.get [a,b] 0=some a from rfl];simp only[lS];rw[AM,BJ (n:=(0:Int)+1) (by omega) (by omega),BJ (by omega) (by omega),la (by rw[lq];omega)];rw[Cf,ld (by simp[AM]),show Sh.get [a,b] (0+1)=some b from rfl];simp only[lS];rw[AM,BJ (n:=(0:Int)+1+1) (by omega) (by omega),BJ (by omega) (by omega),la (by rw[lq];omega)];rw[Cf,la (by simp[AM])];congr 1;omega
 have e2:Cg [a,b] (n+3) 0 []=some (a++b):=by
  rw[Cg,ld (by simp[AM]),show Sh.get [a,b] 0=some a from rfl];simp only[lS];rw[EC [] a 8 (by simp;omega) (by simp;omega),BJ (n:=(0:Int)+1) (by omega) (by omega)];simp only[lS,nJ];rw[Cg,ld (by simp[AM]),show Sh.get [a,b] (0+1)=some b from rfl];simp only[lS];rw[EC a b 8 (by omega) (by omega),BJ (n:=(0:Int)+1+1) (by omega) (by omega)];simp only[lS];rw[Cg,la (by simp[AM])]
 have e3:Gb ((a.length+b.length:Nat):Int)=some []:=by
  unfold Gb;rw[la (by simp;omega),BJ (n:=(0:Int)-0) (by omega) (by omega),BJ (by omega) (by omega)];by_cases h:0<a.length+b.length
  ·rw[ld (by simp;omega),show (((a.length+b.length:Nat):Int)-(0-0))=((a.length+b.length:Nat):Int) by omega,OX _ _ _ (by omega) (by omega)];simp only[lS];have:=gY (l:=List.replicate (a.length+b.length) (0:Int)) (j:=0) (by omega);rw[qU]at this;rw[this];rfl
  ·rw[la (by simp;omega)];rfl
 rw[e1];simp only[lS];rw[e3];simp only[lS];rw[e2];rfl
def Lg:List Int->Int
 | []=>-1
 | t::r=>if r.all (λx=>decide (x=t))=true then t else -1
theorem KQ (H:KV p sg R1 R2 T (en e))(V:IA p e v)(hN:2000000<=N){ks:List AE}{ms:List (List Int)}(sj :∀k∈ks,k∈e.kids)(tm:ks.length<=340)(hl:ms.length=ks.length)(hm :∀m∈ms,m.length<=3/\∀x∈m,DL p.decls x=true):
  ES N R2 sg v ks ms=some (Lg (List.zipWith (λm k=>T (v++m) k) ms ks)):=by
 unfold ES;have hvl:v.length<=1000:=by have:=V.len;omega
 have step:∀(n i:Nat) (r:Int) k m,ks[i]?=some k->ms[i]?=some m->Bl N sg v ks ms R2 (n+1) r i=if T (v++m) k<0∨(0<i/\T (v++m) k≠r) then some (.inl (-1)) else Bl N sg v ks ms R2 n (T (v++m) k) ((i+1:Nat):Int):=by
  intro n i r k m hk yX;have hi:=(lV.1 hk).1;have hmo:=hm m (lT yX);have vf:=sj k (lT hk);rw[Bl,ld (by simp[AM];omega),BG hk];simp only[lS];rw[BG yX];simp only[lS];rw[bM hvl (by omega) hN];simp only[lS];rw[(H (v++m) k (V.CZ.kids k vf) (Cs vf) (V.more vf hmo.1) (V.V5 hmo.2)).2.1];simp only[lS];rw[BJ (by omega) (by omega),show ((i:Int)+1)=((i+1:Nat):Int) by omega];by_cases h1:T (v++m) k<0
  ·simp[h1]
  ·by_cases h2:0<i
   ·by_cases h3:T (v++m) k=r
    ·have tC:¬ r<0:=h3▸h1;simp[tC,h2,h3]
    ·simp[h1,h2,h3]
   ·simp[h1,h2]
 have rest:∀(d i n:Nat) (r:Int),ks.length-i=d->0<i->i<=ks.length->d<n->Bl N sg v ks ms R2 n r i=some (if ((List.zipWith (λm k=>T (v++m) k) ms ks).drop i).all (λx=>decide (x=r))=true then (if ((List.zipWith (λm k=>T (v++m) k) ms ks).drop i).any (λx=>decide (x<0))=true then .inl (-1) else .inr r) else .inl (-1)):=by
  intro d
  induction d with
  | zero=>
   intro i n r h1 h2 h3 h4;obtain⟨n,rfl⟩ :∃q,n=q+1:=⟨n-1,by omega⟩
   rw[Bl,la (by simp[AM];omega),oe (by simp;omega)];rfl
  | succ d ih=>
   intro i n r h1 h2 h3 h4;obtain⟨n,rfl⟩ :∃q,n=q+1:=⟨n-1,by omega⟩
   obtain⟨k,hk,_⟩:=Bz (l:=ks) (i:=i) (by omega);obtain⟨m,yX,_⟩:=Bz (l:=ms) (i:=i) (by omega);have hz:(List.zipWith (λm k=>T (v++m) k) ms ks)[i]?=some (T (v++m) k):=by rw[nN,hk,yX]
   rw[step n i r k m hk yX,drop_cons hz,ns,List.any_cons];by_cases h5:T (v++m) k=r
   ·by_cases h6:T (v++m) k<0
    ·rw[ld (.inl h6)];have h6':r<0:=h5▸h6;simp[h5,h6']
    ·rw[la (by rintro (h|h);exact h6 h;exact h.2 h5),ih (i+1) n _ (by omega) (by omega) (by omega) (by omega)];have h6':¬ r<0:=h5▸h6;simp[h5,h6']
   ·rw[ld (.inr ⟨h2,h5⟩)];simp[h5]
 cases hks0:ks with
 | nil=>
  obtain⟨n,rfl⟩ :∃q,N=q+1:=⟨N-1,by omega⟩
  rw[Bl,la (by simp[AM])];simp[Lg]
 | cons k r=>
  cases hms0:ms with
  | nil=>rw[hks0,hms0]at hl;simp at hl
  | cons m s=>
   rw[<- hks0,<- hms0];obtain⟨n,hn⟩ :∃q,N=q+1:=⟨N-1,by omega⟩
   have h0:=step n 0 (-1) k m (by rw[hks0];rfl) (by rw[hms0];rfl);rw[qU]at h0;have vf:=sj k (by rw[hks0];simp);have hmo:=hm m (by rw[hms0];simp);have hT:=(H (v++m) k (V.CZ.kids k vf) (Cs vf) (V.more vf hmo.1) (V.V5 hmo.2)).2.2;rw[show Bl N sg v ks ms R2 N (-1) 0=Bl N sg v ks ms R2 (n+1) (-1) 0 by rw[<- hn],h0];have hzc:List.zipWith (λm k=>T (v++m) k) ms ks=T (v++m) k::List.zipWith (λm k=>T (v++m) k) s r:=by rw[hks0,hms0];rfl
   rw[hzc];unfold Lg;by_cases h1:T (v++m) k<0
   ·rw[ld (.inl h1)];have:T (v++m) k=-1:=by
     rcases hT with h|h
     ·exact h
     ·have:=(Jk h).1;omega
    rw[this];simp
   ·rw[la (by rintro (h|h);exact h1 h;omega),rest _ 1 n _ rfl (by omega) (by rw[hks0];simp) (by omega),hzc,List.drop_succ_cons,nQ];by_cases h2:(List.zipWith (λm k=>T (v++m) k) s r).all (λx=>decide (x=T (v++m) k))=true
    ·have h3:¬ (List.zipWith (λm k=>T (v++m) k) s r).any (λx=>decide (x<0))=true:=λh=>by
      obtain⟨x,hx,xn⟩:=oC.1 h;have:=lh.1 h2 x hx;simp only[lq]at this xn;omega
     rw[ld h2,la h3];dsimp only;rw[ld h2];rfl
    ·rw[la h2];dsimp only;rw[la h2];rfl
end
end RC
namespace RC
open Go
theorem cw {n:Int}(h1:n < -9223372036854775808)(h2:-18446744073709551616<=n):Sh.w n=n+18446744073709551616:=by
 unfold Sh.w;rw[IntKind.wrap_i64];omega
theorem Uy {D:List AN}(hD:D.length<=1048576)(hn:nc D<=1048576){c:Int}(hI:G3 c)(hc:c<0∨(nc D:Int)<=c){N:Nat}(hN:2000000<=N):IP N D c=some (-1,⟨[]⟩):=by
 have key:∀(m j N:Nat) (c:Int),D.length-j=m->j<=D.length->m<N->G3 c->(c<0∨(nc (D.drop j):Int)<=c)->FO D N c j=some (.inr ()):=by
  intro m
  induction m with
  | zero=>
   intro j N c h1 h2 h3 _ _;obtain⟨N,rfl⟩ :∃n,N=n+1:=⟨N-1,by omega⟩
   rw[FO,la (by simp[AM];omega)]
  | succ m ih=>
   intro j N c h1 h2 h3 hI h4;obtain⟨N,rfl⟩ :∃n,N=n+1:=⟨N-1,by omega⟩
   obtain⟨d,hd,_⟩:=Bz (l:=D) (i:=j) (by omega);have hs:=G5 D j;rw[Sb hd]at h4 hs;rw[FO,ld (by simp[AM];omega),BG hd];simp only[lS];have vu:=hI.1;have xx:=hI.2;have e1:¬ (0<=c/\c<(d.cons.length:Int)):=by omega
   have e2:(if decide (0<=c)=true then some (decide (c<Sh.len d.cons)) else some false)=some false:=by
    by_cases h0:0<=c
    ·have:¬ c<(d.cons.length:Int):=by omega
     simp[h0,AM,this]
    ·simp[h0]
   rw[BJ (n:=(j:Int)+1) (by omega) (by omega),show ((j:Int)+1)=((j+1:Nat):Int) by omega,AM];rw[AM]at e2;by_cases h5:c-(d.cons.length:Int) < -9223372036854775808
   ·have:=ih (j+1) N (Sh.w (c-(d.cons.length:Int))) (by omega) (by omega) (by omega) (by rw[cw h5 (by omega)];unfold G3;omega) (by rw[cw h5 (by omega)];omega);rw[e2];simp only[lS,lY,mC];exact this
   ·have:=ih (j+1) N (Sh.w (c-(d.cons.length:Int))) (by omega) (by omega) (by omega) (by rw[BJ (by omega) (by omega)];unfold G3;omega) (by rw[BJ (by omega) (by omega)];omega);rw[e2];simp only[lS,lY,mC];exact this
 have:=key D.length 0 N c (by omega) (by omega) (by omega) hI (by simpa using hc);unfold IP;rw[show (((0:Nat):Int))=0 from rfl]at this;rw[this];rfl
theorem LL:∀{D:List AN} {k c t:Nat} {x:De},Gl D k c=some (t,x)->k<t/\t<=k+D.length/\∃d∈D,x∈d.cons
 | [],_,_,_,_,h=>by simp[Gl]at h
 | d::r,k,c,t,x,h=>by
  unfold Gl at h;cases hx:d.cons[c]? with
  | some y=>
   rw[hx]at h;simp only[lX,pA]at h;obtain⟨rfl,rfl⟩:=h;exact⟨by omega,by simp,d,by simp,lT hx⟩
  | none=>
   rw[hx]at h;obtain⟨h1,h2,e,h3,h4⟩:=LL h;exact⟨by omega,by simp;omega,e,by simp[h3],h4⟩
def TF (a b:Int)(d:AN):Bool:=decide (d.cons.length=0)&&(decide (d.from_=a)&&decide (d.to=b))
def IY (a b:Int):List AN->Nat->Int
 | [],_=>-1
 | d::r,k=>if TF a b d=true then (k:Int)+1 else IY a b r (k+1)
theorem ZK {a b:Int}:∀(l:List AN) (k:Nat),IY a b l k=-1∨((k:Int)<IY a b l k/\IY a b l k<=k+l.length)
 | [],_=>.inl rfl
 | d::r,k=>by
  unfold IY;by_cases h:TF a b d=true
  ·rw[ld h];right;simp only[mN];omega
  ·rw[la h];rcases ZK r (k+1) with h1|h1
   ·exact .inl h1
   ·right;simp only[mN];omega
theorem X8 {a b:Int}{d:AN}:(if decide ((Sh.len d.cons)=0)=true then if decide (d.from_=a)=true then some (decide (d.to=b)) else some false else some false)=some (TF a b d):=by
 unfold TF;by_cases h1:d.cons.length=0<;>by_cases h2:d.from_=a<;>simp[AM,h1,h2]
theorem OJ {D:List AN}(hD:D.length<=1048576){a b:Int}{N:Nat}(hN:2000000<=N):Ir N D a b=some (IY a b D 0):=by
 unfold Ir;have key:∀{M i:Nat},i<=D.length->D.length-i<M->Sh.cont (Ez D a b M i) id (λ()=>some (-1))=some (IY a b (D.drop i) i):=by
  intro M i hi hM;refine Bh D.length (λM i=>Sh.cont (Ez D a b M i) id (λ()=>some (-1))=some (IY a b (D.drop i) i)) ?_ ?_ hi hM
  ·intro n;rw[Ez,la (by simp[AM])];simp[IY,Sh.cont]
  ·intro n i hi ih;obtain⟨d,hd,_⟩:=Bz hi;rw[Ez,ld (by simp[AM];omega),BG hd,drop_cons hd];simp only[lS];rw[X8,BJ (by omega) (by omega),show ((i:Int)+1)=((i+1:Nat):Int) by omega];simp only[lS,IY];by_cases h:TF a b d=true
   ·rw[ld h,ld h];simp[Sh.cont]
   ·rw[la h,la h,ih]
 have:=key (mB _) (by omega:D.length-0<N);simpa using this
theorem Tr {D:List AN}(hD:D.length<=1048576){a b:Int}{N:Nat}(hN:2000000<=N):Jx N D a b=some (IY a b D 0):=by
 unfold Jx;have key:∀{M i:Nat},i<=D.length->D.length-i<M->Sh.cont (E4 D a b M i) id (λ()=>some (-1))=some (IY a b (D.drop i) i):=by
  intro M i hi hM;refine Bh D.length (λM i=>Sh.cont (E4 D a b M i) id (λ()=>some (-1))=some (IY a b (D.drop i) i)) ?_ ?_ hi hM
  ·intro n;rw[E4,la (by simp[AM])];simp[IY,Sh.cont]
  ·intro n i hi ih;obtain⟨d,hd,_⟩:=Bz hi;rw[E4,ld (by simp[AM];omega),BG hd,drop_cons hd];simp only[lS];rw[X8,BJ (by omega) (by omega),show ((i:Int)+1)=((i+1:Nat):Int) by omega];simp only[lS,IY];by_cases h:TF a b d=true
   ·rw[ld h,ld h];simp[Sh.cont]
   ·rw[la h,la h,ih]
 have:=key (mB _) (by omega:D.length-0<N);simpa using this
def RA (D:List AN)(t:Int):Option AN:=if 1<=t/\t<=(D.length:Int) then (D[(t-1).toNat]?).bind λd=>if d.cons.length=0 then some d else none else none
theorem Tj {D:List AN}{t:Int}{d:AN}(h:RA D t=some d):d∈D/\1<=t/\t<=(D.length:Int)/\D[(t-1).toNat]?=some d:=by
 unfold RA at h;split at h
 ·rename_i h1;obtain⟨e,he,h2⟩:=mR.1 h;split at h2
  ·cases h2;exact⟨lT he,h1.1,h1.2,he⟩
  ·cases h2
 ·cases h
theorem T7 {D:List AN}(hD:D.length<=1048576){t:Int}:J1 D t=some ((RA D t).elim (⟨0,0,[]⟩,false) λd=>(d,true)):=by
 unfold J1 RA;by_cases h:1<=t/\t<=(D.length:Int)
 ·obtain⟨a,ha⟩ :∃a:Nat,t=(a:Int)+1:=⟨(t-1).toNat,by omega⟩
  subst ha;obtain⟨d,hd,_⟩:=Bz (l:=D) (i:=a) (by omega);have e1:¬ ((a:Int)+1<1):=by omega
  have e2:¬ ((D.length:Int)<(a:Int)+1):=by omega
  rw[ld h,BJ (by omega) (by omega),show ((a:Int)+1-1)=((a:Nat):Int) by omega,BG hd,nY,hd];by_cases h2:d.cons.length=0
  ·have h2':d.cons=[]:=mY h2;simp[e1,e2,AM,h2']
  ·have h3:0<d.cons.length:=by omega
   have h2':¬ d.cons=[]:=λq=>h2 (by rw[q];rfl);simp[e1,e2,AM,h2',h3]
 ·rw[la h];by_cases h1:t<1
  ·simp[h1]
  ·have h2:(D.length:Int)<t:=by omega
   simp[h1,AM,h2]
theorem Ji {D:List AN}(hD:D.length<=1048576){t:Int}:G0 D t=some (RA D t).isSome:=by
 unfold G0 RA;rw[EX];by_cases h:1<=t/\t<=(D.length:Int)
 ·obtain⟨a,ha⟩ :∃a:Nat,t=(a:Int)+1:=⟨(t-1).toNat,by omega⟩
  subst ha;obtain⟨d,hd,_⟩:=Bz (l:=D) (i:=a) (by omega);have e1:((1:Int)<=(a:Int)+1):=by omega
  have e2:((a:Int)+1<=(D.length:Int)):=by omega
  rw[ld h,BJ (by omega) (by omega),show ((a:Int)+1-1)=((a:Nat):Int) by omega,BG hd,nY,hd];by_cases h2:d.cons=[]<;>simp[e1,e2,AM,h2]
 ·rw[la h];have:(decide (1<=t)&&decide (t<=Sh.len D))=false:=by
   rw[AM];by_cases h1:1<=t
   ·have h2:¬ t<=(D.length:Int):=λq=>h ⟨h1,q⟩;simp[h1,h2]
   ·simp[h1]
  simp[this]
section
variable {p : AP} {sg : BQ} {R1 : AP -> List Int -> AE -> Option Int} {R2 : List Int -> BQ -> AE -> Option Int} {T : List Int -> AE -> Int} {e : AE} {v : List Int} {N : Nat}
theorem FQ (H:KV p sg R1 R2 T (en e))(V:IA p e v)(hN:2000000<=N)(h1:¬ e.op=12)(h2:¬ e.op=13)(h3:¬ e.op=7)(h4:¬ e.op=8):
  Ap N R2 v sg e=if (e.kids.map (T v)).any (λt=>decide (t<0))=true then some (-1) else (BK N sg e.op e.num (e.kids.map (T v))).bind λq=>if q.2=true then some q.1 else some (-1):=by
 unfold Ap;have hk:=V.LW;simp only[h1,h2,h3,h4,lx,lY,mC];rw[AM,OX _ _ _ (by omega) (by omega)];simp only[lS];rw[YL H V hN];by_cases h:(e.kids.map (T v)).any (λt=>decide (t<0))=true
 ·rw[ld h,ld h];rfl
 ·rw[la h,la h];simp only[Sh.N4];cases BK N sg e.op e.num (e.kids.map (T v)) with
  | none=>rfl
  | some q=>simp only[lS];cases q.2<;>rfl
theorem LD (H:KV p sg R1 R2 T (en e))(V:IA p e v)(hN:2000000<=N)(h1:¬ e.op=12)(h2:¬ e.op=13)(h3:¬ e.op=7)(h4:¬ e.op=8){want:List Int}{c:Bool}{t:Int}(hw :∀x∈want,0<=x)
  (hs:BK N sg e.op e.num (e.kids.map (T v))=some (t,c&&decide (e.kids.map (T v)=want))) :
  Ap N R2 v sg e=some (if c=true/\e.kids.map (T v)=want then t else -1):=by
 rw[FQ H V hN h1 h2 h3 h4,hs];by_cases h:e.kids.map (T v)=want
 ·have:¬ (e.kids.map (T v)).any (λt=>decide (t<0))=true:=λq=>by
   obtain⟨x,hx,xn⟩:=oC.1 q;have:=hw x (h▸hx);simp only[lq]at xn;omega
  rw[la this];cases c<;>simp[h]
 ·have hn:¬ (c=true/\e.kids.map (T v)=want):=λq=>h q.2;rw[la hn];simp[h]
end
end RC
namespace RC
open Go
def Er (p:AP):BQ:=⟨p.decls,p.funcs.map λf=>⟨f.params,[],f.result⟩⟩
section
variable {p : AP} {R1 : AP -> List Int -> AE -> Option Int} {R2 : List Int -> BQ -> AE -> Option Int} {T : List Int -> AE -> Int} {e : AE} {v : List Int} {N : Nat}
def Kv (p:AP)(R1:AP->List Int->AE->Option Int)(R2:List Int->BQ->AE->Option Int)(N:Nat)(v:List Int)(e:AE):Prop:=
 ∃t,Bo N R1 p v e=some t/\Ap N R2 v (Er p) e=some t/\(t=-1∨DL p.decls t=true)
theorem iS {D:List AN}:DL D 0=true:=by unfold DL;simp
theorem len_nil {α:Type}{l:List α}:decide ((Sh.len l)=0)=decide (l=[]):=by
 cases l with
 | nil=>rfl
 | cons x r=>exact oF.2 (by rw[AM,mN];exact⟨λh=>by omega,λh=>nomatch h⟩)
theorem eF (H:KV p (Er p) R1 R2 T (en e))(V:IA p e v)(hN:2000000<=N)(h:e.op=0):Kv p R1 R2 N v e:=by
 have h1:=LD H V hN (by omega) (by omega) (by omega) (by omega) (want:=[]) (c:=decide (-999<=e.num)&&decide (e.num<=999)) (t:=0) (by simp) (by
  unfold BK;simp only[h,lr,mL,len_nil];by_cases a:-999<=e.num<;>by_cases b:e.num<=999<;>simp[a,b,Sh.cont])
 refine⟨_,?_,h1,?_⟩
 ·unfold Bo;simp only[h,lr,mL,len_nil,EX];by_cases a:-999<=e.num<;>by_cases b:e.num<=999<;>by_cases c:e.kids=[]<;>simp[a,b,c,Sh.cont]
 ·split
  ·exact .inr iS
  ·exact .inl rfl
theorem Zj (H:KV p (Er p) R1 R2 T (en e))(V:IA p e v)(hN:2000000<=N)(h:e.op=1∨e.op=2∨e.op=3∨e.op=4):Kv p R1 R2 N v e:=by
 have hk:=V.LW;have h1:=LD H V hN (by omega) (by omega) (by omega) (by omega) (want:=[0,0]) (c:=decide (e.num=0)) (t:=0) (by simp) (by
  unfold BK;have e3:DS N (e.kids.map (T v)) [0,0]=some (decide (e.kids.map (T v)=[0,0])):=Nw (by simp;omega) hN;rcases h with h|h|h|h<;>simp only[h,Int.reduceEq,lr,lx,lY,mL,mC,lS,Sh.N4]<;>rw[e3]<;>by_cases a:e.num=0<;>simp[a])
 refine⟨_,?_,h1,?_⟩
 ·unfold Bo;have e2:=PT H V hN 2;rw[show ((2:Nat):Int)=2 from rfl,show List.replicate 2 (0:Int)=[0,0] from rfl]at e2;rcases h with h|h|h|h<;>simp only[h,Int.reduceEq,lr,lx,lY,mL,mC,lS]<;>rw[e2]<;>by_cases a:e.num=0<;>by_cases b:e.kids.map (T v)=[0,0]<;>simp[a,b,Sh.cont]
 ·split
  ·exact .inr iS
  ·exact .inl rfl
theorem aI (H:KV p (Er p) R1 R2 T (en e))(V:IA p e v)(hN:2000000<=N)(h:e.op=5):Kv p R1 R2 N v e:=by
 have hk:=V.LW;have h1:=LD H V hN (by omega) (by omega) (by omega) (by omega) (want:=[0]) (c:=decide (e.num=0)) (t:=0) (by simp) (by
  unfold BK;simp only[h,Int.reduceEq,lr,lx,lY,mL,mC,lS,Sh.N4];rw[Nw (by simp;omega) hN];by_cases a:e.num=0<;>simp[a])
 refine⟨_,?_,h1,?_⟩
 ·unfold Bo;have e2:=PT H V hN 1;rw[show ((1:Nat):Int)=1 from rfl,show List.replicate 1 (0:Int)=[0] from rfl]at e2;simp only[h,Int.reduceEq,lr,lx,lY,mL,mC,lS];rw[e2];by_cases a:e.num=0<;>by_cases b:e.kids.map (T v)=[0]<;>simp[a,b,Sh.cont]
 ·split
  ·exact .inr iS
  ·exact .inl rfl
theorem dU (H:KV p (Er p) R1 R2 T (en e))(V:IA p e v)(S:EP p.decls p.funcs)(hN:2000000<=N)(h:e.op=6):Kv p R1 R2 N v e:=by
 have hk:=V.LW;have hD:=S.NM;have hn:=S.nc;by_cases hr:0<=e.num/\e.num<(nc p.decls:Int)
 ·obtain⟨c,hc⟩:=mS hr.1;have hc2:c<nc p.decls:=by omega
  obtain⟨t,x,e1,e2⟩:=Kw (D:=p.decls) (by omega) (by omega) hc2 hN;obtain⟨t',x',xZ,e3⟩:=HC (D:=p.decls) (by omega) (by omega) hc2 hN;obtain⟨t'',x'',e1'',e4⟩:=PW (D:=p.decls) (by omega) (by omega) hc2 hN;rw[e1]at xZ e1'';cases xZ;cases e1'';obtain⟨g1,g2,d,g3,g4⟩:=LL e1;have hx:=S.Lc d g3 x g4;have h1:=LD H V hN (by omega) (by omega) (by omega) (by omega) (want:=x.fields) (c:=true) (t:=(t:Int)) (λy hy=>(Jk (hx.2 y hy)).1) (by
   unfold BK;simp only[h,Int.reduceEq,lr,lx,lY,mL,mC,lS];rw[hc,show (Er p).decls=p.decls from rfl,e4];simp only[lS];rw[Nw (by simp;omega) hN,ld (by simp)];simp[Sh.cont])
  refine⟨_,?_,h1,?_⟩
  ·unfold Bo;simp only[h,Int.reduceEq,lr,lx,lY,mL,mC,lS];rw[hc,e2,e3];simp only[lS];rw[QN H V hN,ld (by simp;omega)];by_cases b:e.kids.map (T v)=x.fields<;>simp[b,Sh.cont]
  ·split
   ·right;unfold DL;simp;omega
   ·exact .inl rfl
 ·refine⟨-1,?_,?_,.inl rfl⟩
  ·unfold Bo;simp only[h,Int.reduceEq,lr,lx,lY,mL,mC,lS];rw[NX (by omega) (by omega) (by omega) hN];simp[Sh.cont]
  ·rw[FQ H V hN (by omega) (by omega) (by omega) (by omega)];unfold BK;simp only[h,Int.reduceEq,lr,lx,lY,mL,mC,lS];rw[show (Er p).decls=p.decls from rfl,Uy (by omega) (by omega) V.CZ.num (by omega) hN];simp[Sh.cont]
theorem ZQ (H:KV p (Er p) R1 R2 T (en e))(V:IA p e v)(hN:2000000<=N)(h:e.op<0∨13<e.op):Kv p R1 R2 N v e:=by
 refine⟨-1,?_,?_,.inl rfl⟩
 ·unfold Bo;simp only[show ¬ e.op=0 by omega,show ¬ e.op=12 by omega,show ¬ e.op=1 by omega,show ¬ e.op=2 by omega,show ¬ e.op=3 by omega,show ¬ e.op=4 by omega,show ¬ e.op=5 by omega,show ¬ e.op=6 by omega,show ¬ e.op=13 by omega,show ¬ e.op=7 by omega,show ¬ e.op=8 by omega,show ¬ e.op=9 by omega,show ¬ e.op=10 by omega,show ¬ e.op=11 by omega,lx,lY,mC,lS];simp[Sh.cont]
 ·rw[FQ H V hN (by omega) (by omega) (by omega) (by omega)];unfold BK;simp only[show ¬ e.op=0 by omega,show ¬ e.op=12 by omega,show ¬ e.op=1 by omega,show ¬ e.op=2 by omega,show ¬ e.op=3 by omega,show ¬ e.op=4 by omega,show ¬ e.op=5 by omega,show ¬ e.op=6 by omega,show ¬ e.op=13 by omega,show ¬ e.op=7 by omega,show ¬ e.op=8 by omega,show ¬ e.op=9 by omega,show ¬ e.op=10 by omega,show ¬ e.op=11 by omega,lx,lY,mC,lS];simp[Sh.cont]
theorem dX (V:IA p e v)(h:e.op=12):Kv p R1 R2 N v e:=by
 have hv:v.length<=1000:=by have:=V.len;omega
 unfold Kv Bo Ap;simp only[h,Int.reduceEq,lr,lx,lY,mL,mC,lS,len_nil,EX];rw[AM,BJ (by omega) (by omega)];cases sj:e.kids with
 | cons a r=>exact⟨-1,by simp[Sh.cont],by simp[AM],.inl rfl⟩
 | nil=>
  by_cases h1:0<=e.num
  ·by_cases h2:e.num<(v.length:Int)
   ·obtain⟨x,g1,g2⟩:=Py h1 h2;have h3:e.num<=(v.length:Int)-1:=by omega
    have h4:¬ e.num<0:=by omega
    have h5:¬ (v.length:Int)<=e.num:=by omega
    refine⟨x,?_,?_,.inr (V.H6 x (lT g2))⟩
    ·simp[h1,h3,g1,Sh.cont]
    ·simp[h4,h5,g1,AM]
   ·have h3:¬ e.num<=(v.length:Int)-1:=by omega
    have h4:¬ e.num<0:=by omega
    have h5:(v.length:Int)<=e.num:=by omega
    exact⟨-1,by simp[h1,h3,Sh.cont],by simp[h4,h5,AM],.inl rfl⟩
  ·have h4:e.num<0:=by omega
   exact⟨-1,by simp[h1,Sh.cont],by simp[h4,AM],.inl rfl⟩
end
end RC
namespace RC
open Go
section
variable {p : AP} {R1 : AP -> List Int -> AE -> Option Int} {R2 : List Int -> BQ -> AE -> Option Int} {T : List Int -> AE -> Int} {e : AE} {v : List Int} {N : Nat}
theorem dV (H:KV p (Er p) R1 R2 T (en e))(V:IA p e v)(h:e.op=13):Kv p R1 R2 N v e:=by
 have hv:v.length<=1000:=by have:=V.len;omega
 unfold Kv Bo Ap;simp only[h,Int.reduceEq,lr,lx,lY,mL,mC,lS];by_cases hl:e.kids.length=2
 ·obtain⟨a,b,hk⟩ :∃a b,e.kids=[a,b]:=by
   match hk:e.kids,hl with
   | [a,b],_=>exact⟨a,b,rfl⟩
  have rZ:a∈e.kids:=by rw[hk];simp
  have tw:b∈e.kids:=by rw[hk];simp
  obtain⟨a1,a2,a3⟩:=H v a (V.CZ.kids a rZ) (Cs rZ) (V.JF rZ) V.H6;have g0:Sh.get e.kids 0=some a:=by rw[hk];rfl
  have g1:Sh.get e.kids 1=some b:=by rw[hk];rfl
  rw[g0,g1];simp only[lS,AM,hl];rw[a1,a2];simp only[lS];by_cases hn:e.num=0
  ·by_cases ht:0<=T v a
   ·have wx:¬ T v a<0:=by omega
    have vp:DL p.decls (T v a)=true:=by
     rcases a3 with q|q
     ·omega
     ·exact q
    obtain⟨b1,b2,b3⟩:=H (v++[T v a]) b (V.CZ.kids b tw) (Cs tw) (V.more tw (by simp)) (V.V5 (by simp[vp]));refine⟨T (v++[T v a]) b,?_,?_,b3⟩
    ·rw[JT hv (by simp)];simp[hn,ht,b1,Sh.cont]
    ·rw[EC v [T v a] 8 (by simp;omega) (by simp;omega)];simp[hn,wx,b2]
   ·have wx:T v a<0:=by omega
    exact⟨-1,by simp[hn,ht,Sh.cont],by simp[hn,wx],.inl rfl⟩
  ·exact⟨-1,by simp[hn,Sh.cont],by simp[hn],.inl rfl⟩
 ·have vI:¬ ((e.kids.length:Int)=2):=by omega
  refine⟨-1,?_,?_,.inl rfl⟩
  ·by_cases hn:e.num=0<;>simp[hn,AM,vI,Sh.cont]
  ·simp[AM,vI]
theorem Tc (x y:Int):Lg [x,y]=if y=x then x else -1:=by
 unfold Lg;by_cases h:y=x<;>simp[h]
theorem gA (H:KV p (Er p) R1 R2 T (en e))(V:IA p e v)(hN:2000000<=N)(h:e.op=7):Kv p R1 R2 N v e:=by
 have hv:v.length<=1000:=by have:=V.len;omega
 unfold Kv Bo Ap;simp only[h,Int.reduceEq,lr,lx,lY,mL,mC,lS];by_cases hl:e.kids.length=3
 ·obtain⟨a,b,c,hk⟩ :∃a b c,e.kids=[a,b,c]:=by
   match hk:e.kids,hl with
   | [a,b,c],_=>exact⟨a,b,c,rfl⟩
  have rZ:a∈e.kids:=by rw[hk];simp
  have tw:b∈e.kids:=by rw[hk];simp
  have hmc:c∈e.kids:=by rw[hk];simp
  obtain⟨a1,a2,a3⟩:=H v a (V.CZ.kids a rZ) (Cs rZ) (V.JF rZ) V.H6;obtain⟨b1,b2,b3⟩:=H v b (V.CZ.kids b tw) (Cs tw) (V.JF tw) V.H6;obtain⟨c1,c2,c3⟩:=H v c (V.CZ.kids c hmc) (Cs hmc) (V.JF hmc) V.H6;have g0:Sh.get e.kids 0=some a:=by rw[hk];rfl
  have g1:Sh.get e.kids 1=some b:=by rw[hk];rfl
  have g2:Sh.get e.kids 2=some c:=by rw[hk];rfl
  have g3:Sh.sl e.kids 1 3=some [b,c]:=by rw[hk];rfl
  have o:=KQ (ks:=[b,c]) (ms:=[[],[]]) H V hN (by intro k hk;simp only[lk,mK,mr]at hk;rcases hk with rfl|rfl<;>assumption) (by simp) rfl (by simp);have mk2:Sh.mk ([]:List Int) 2 24=some [[],[]]:=OX [] 2 24 (by omega) (by omega);rw[g0,g1,g2];simp only[lS,AM,hl];rw[a1,a2,b1,c1,show ((3:Nat):Int)=3 from rfl,g3,mk2];simp only[lS];rw[o];simp only[lS,List.zipWith,mn,Tc];by_cases hn:e.num=0
  ·by_cases ht:T v a=0
   ·by_cases hq:T v c=T v b
    ·exact⟨T v b,by simp[hn,ht,hq,Sh.cont],by simp[hn,ht,hq],b3⟩
    ·exact⟨-1,by simp[hn,ht,hq,Sh.cont],by simp[hn,ht,hq],.inl rfl⟩
   ·exact⟨-1,by simp[hn,ht,Sh.cont],by simp[hn,ht],.inl rfl⟩
  ·exact⟨-1,by simp[hn,Sh.cont],by simp[hn],.inl rfl⟩
 ·have vI:¬ ((e.kids.length:Int)=3):=by omega
  refine⟨-1,?_,?_,.inl rfl⟩
  ·by_cases hn:e.num=0<;>simp[hn,AM,vI,Sh.cont]
  ·simp[AM,vI]
theorem cT {n:Int}:(∃f,0<=n/\n<(p.funcs.length:Int)/\p.funcs[n.toNat]?=some f/\f∈p.funcs/\Sh.get p.funcs n=some f/\Sh.get (Er p).funcs n=some ⟨f.params,[],f.result⟩)∨(n<0∨(p.funcs.length:Int)<=n):=by
 by_cases h:0<=n/\n<(p.funcs.length:Int)
 ·obtain⟨f,h1,h2⟩:=Py h.1 h.2;refine .inl ⟨f,h.1,h.2,h2,lT h2,h1,?_⟩;rw[X4 h.1];show ((p.funcs.map λf=>(⟨f.params,[],f.result⟩:Bv)))[n.toNat]?=_;rw[lW,h2];rfl
 ·exact .inr (by omega)
theorem NY:(Er p).funcs.length=p.funcs.length:=by show (p.funcs.map _).length=_;simp
theorem af (H:KV p (Er p) R1 R2 T (en e))(V:IA p e v)(S:EP p.decls p.funcs)(hN:2000000<=N)(h:e.op=9):Kv p R1 R2 N v e:=by
 have hk:=V.LW;have hF:=S.KK;rcases cT (p:=p) (n:=e.num) with ⟨f,f0,f1,f2,f3,f4,f5⟩|hr
 ·obtain⟨q1,q2,q3⟩:=S.OS f f3;have f0':¬ e.num<0:=by omega
  have f1':¬ (p.funcs.length:Int)<=e.num:=by omega
  have yP:e.num<=(p.funcs.length:Int)-1:=by omega
  have h1:=LD H V hN (by omega) (by omega) (by omega) (by omega) (want:=f.params) (c:=true) (t:=f.result) (λy hy=>(Jk (q2 y hy)).1) (by
   unfold BK;simp only[h,Int.reduceEq,lr,lx,lY,mL,mC,lS,AM,NY,f0',f1'];rw[f5];simp only[lS];rw[Nw (by simp;omega) hN];simp[Sh.cont])
  refine⟨_,?_,h1,?_⟩
  ·unfold Bo Fq;simp only[h,Int.reduceEq,lr,lx,lY,mL,mC,lS];rw[EX,AM p.funcs,BJ (n:=(p.funcs.length:Int)-1) (by omega) (by omega),f4];simp only[h,Int.reduceEq,lr,lx,lY,mL,mC,lS,f0,yP,pU,nA];rw[QN H V hN];by_cases b:e.kids.map (T v)=f.params<;>simp[b,Sh.cont]
  ·split
   ·exact .inr q3
   ·exact .inl rfl
 ·refine⟨-1,?_,?_,.inl rfl⟩
  ·unfold Bo Fq;simp only[h,Int.reduceEq,lr,lx,lY,mL,mC,lS];rw[EX,AM p.funcs,BJ (n:=(p.funcs.length:Int)-1) (by omega) (by omega)];have:(decide (0<=e.num)&&decide (e.num<=(p.funcs.length:Int)-1))=false:=by
    rw[Bool.and_eq_false_iff,oG,oG];omega
   rw[this];simp only[h,Int.reduceEq,lr,lx,lY,mL,mC,lS];simp[Sh.cont]
  ·rw[FQ H V hN (by omega) (by omega) (by omega) (by omega)];unfold BK;simp only[h,Int.reduceEq,lr,lx,lY,mL,mC,lS,AM,NY];rcases hr with hr|hr
   ·simp[hr,Sh.cont]
   ·have:¬ e.num<0:=by omega
    simp[hr,this,Sh.cont]
theorem Za {α:Type}{l:List α}{m:Nat}(h:m<=l.length):Sh.sl l 0 (m:Int)=some (l.take m):=by
 unfold Sh.sl;rw[ld ⟨by omega,by omega,by omega⟩];simp
theorem Zg (H:KV p (Er p) R1 R2 T (en e))(V:IA p e v)(S:EP p.decls p.funcs)(hN:2000000<=N)(h:e.op=10):Kv p R1 R2 N v e:=by
 have hk:=V.LW;have hF:=S.KK;have hD:=S.NM;rcases cT (p:=p) (n:=e.num) with ⟨f,f0,f1,f2,f3,f4,f5⟩|hr
 ·obtain⟨q1,q2,q3⟩:=S.OS f f3;have f0':¬ e.num<0:=by omega
  have f1':¬ (p.funcs.length:Int)<=e.num:=by omega
  have yP:e.num<=(p.funcs.length:Int)-1:=by omega
  by_cases hp:f.params.length=0
  ·have wM:f.params=[]:=mY hp;refine⟨-1,?_,?_,.inl rfl⟩
   ·unfold Bo Fq;simp only[h,Int.reduceEq,lr,lx,lY,mL,mC,lS];rw[EX,AM p.funcs,BJ (n:=(p.funcs.length:Int)-1) (by omega) (by omega),f4];simp only[h,Int.reduceEq,lr,lx,lY,mL,mC,lS,f0,yP,pU,nA,len_nil,wM];simp[Sh.cont]
   ·rw[FQ H V hN (by omega) (by omega) (by omega) (by omega)];unfold BK;simp only[h,Int.reduceEq,lr,lx,lY,mL,mC,lS,AM,NY,f0',f1'];rw[f5];simp only[lS,hp];rw[BJ (by omega) (by omega)];simp[Sh.cont]
  ·obtain⟨m,hm⟩ :∃m,f.params.length=m+1:=⟨f.params.length-1,by omega⟩
   obtain⟨x,hx,te⟩:=Bz (l:=f.params) (i:=m) (by omega);have wM:¬ f.params=[]:=λq=>hp (by rw[q];rfl);have hw:Sh.w ((f.params.length:Int)-1)=(m:Int):=by rw[BJ (by omega) (by omega)];omega
   have zF:¬ ((m:Int)<0):=by omega
   have vp:IY x f.result p.decls 0=-1∨DL p.decls (IY x f.result p.decls 0)=true:=by
    rcases ZK (a:=x) (b:=f.result) p.decls 0 with q|q
    ·exact .inl q
    ·right;unfold DL;simp;omega
   have h1:=LD H V hN (by omega) (by omega) (by omega) (by omega) (want:=f.params.take m) (c:=decide (0<=IY x f.result p.decls 0)) (t:=IY x f.result p.decls 0) (λy hy=>(Jk (q2 y (mq hy))).1) (by
    unfold BK;simp only[h,Int.reduceEq,lr,lx,lY,mL,mC,lS,AM,NY,f0',f1'];rw[f5];simp only[lS,hw,zF,lx,lY,mC];rw[BG hx];simp only[lS];rw[show (Er p).decls=p.decls from rfl,Tr (by omega) hN,Za (by omega)];simp only[lS];rw[Nw (by simp;omega) hN];by_cases z:0<=IY x f.result p.decls 0<;>simp[z,Sh.cont])
   refine⟨_,?_,h1,?_⟩
   ·unfold Bo Fq;simp only[h,Int.reduceEq,lr,lx,lY,mL,mC,lS];rw[EX,AM p.funcs,BJ (n:=(p.funcs.length:Int)-1) (by omega) (by omega),f4];simp only[h,Int.reduceEq,lr,lx,lY,mL,mC,lS,f0,yP,pU,nA,len_nil,wM];rw[AM,hw,Za (by omega),BG hx];simp only[lS];rw[QN H V hN,OJ (by omega) hN];by_cases b:e.kids.map (T v)=f.params.take m
    ·by_cases z:0<=IY x f.result p.decls 0
     ·simp[b,z,Sh.cont]
     ·have:IY x f.result p.decls 0=-1:=by
       rcases vp with q|q
       ·exact q
       ·exact absurd (Jk q).1 z
      simp[b,this,Sh.cont]
    ·simp[b,Sh.cont]
   ·split
    ·exact vp
    ·exact .inl rfl
 ·refine⟨-1,?_,?_,.inl rfl⟩
  ·unfold Bo Fq;simp only[h,Int.reduceEq,lr,lx,lY,mL,mC,lS];rw[EX,AM p.funcs,BJ (n:=(p.funcs.length:Int)-1) (by omega) (by omega)];have:(decide (0<=e.num)&&decide (e.num<=(p.funcs.length:Int)-1))=false:=by
    rw[Bool.and_eq_false_iff,oG,oG];omega
   rw[this];simp only[h,Int.reduceEq,lr,lx,lY,mL,mC,lS];simp[Sh.cont]
  ·rw[FQ H V hN (by omega) (by omega) (by omega) (by omega)];unfold BK;simp only[h,Int.reduceEq,lr,lx,lY,mL,mC,lS,AM,NY];rcases hr with hr|hr
   ·simp[hr,Sh.cont]
   ·have:¬ e.num<0:=by omega
    simp[hr,this,Sh.cont]
theorem Zy (H:KV p (Er p) R1 R2 T (en e))(V:IA p e v)(S:EP p.decls p.funcs)(hN:2000000<=N)(h:e.op=11):Kv p R1 R2 N v e:=by
 have hk:=V.LW;have hD:=S.NM;by_cases hl:e.kids.length=2
 ·obtain⟨a,b,hk⟩ :∃a b,e.kids=[a,b]:=by
   match hk:e.kids,hl with
   | [a,b],_=>exact⟨a,b,rfl⟩
  have rZ:a∈e.kids:=by rw[hk];simp
  have tw:b∈e.kids:=by rw[hk];simp
  obtain⟨a1,a2,a3⟩:=H v a (V.CZ.kids a rZ) (Cs rZ) (V.JF rZ) V.H6;obtain⟨b1,b2,b3⟩:=H v b (V.CZ.kids b tw) (Cs tw) (V.JF tw) V.H6;have g0:Sh.get e.kids 0=some a:=by rw[hk];rfl
  have g1:Sh.get e.kids 1=some b:=by rw[hk];rfl
  have i1:Sh.get (e.kids.map (T v)) 0=some (T v a):=by rw[hk];rfl
  have i2:Sh.get (e.kids.map (T v)) 1=some (T v b):=by rw[hk];rfl
  have imp:Ap N R2 v (Er p) e=some ((RA p.decls (T v a)).elim (-1) λd=>if T v b=d.from_/\e.num=0 then d.to else -1):=by
   rw[FQ H V hN (by omega) (by omega) (by omega) (by omega)];unfold BK;simp only[h,Int.reduceEq,lr,lx,lY,mL,mC,lS,AM,ly,hl];rw[i1,i2];simp only[lS];rw[show (Er p).decls=p.decls from rfl,T7 (by omega)];simp only[lS];cases hA:RA p.decls (T v a) with
   | none=>simp[Sh.cont]
   | some d=>
    obtain⟨m1,m2,m3,m4⟩:=Tj hA;have m5:=S.fg d m1;have n1:¬ T v a<0:=by omega
    by_cases c1:T v b=d.from_
    ·have n2:¬ T v b<0:=by rw[c1];have:=(Jk m5.1).1;omega
     have n3:¬ d.from_<0:=c1▸n2;by_cases c2:e.num=0<;>simp[hk,n1,c1,n3,c2,Sh.cont]
    ·simp[c1,Sh.cont]
  refine⟨_,?_,imp,?_⟩
  ·unfold Bo;simp only[h,Int.reduceEq,lr,lx,lY,mL,mC,lS,AM,hl];rw[g0,g1];simp only[lS];rw[a1];simp only[lS];rw[Ji (by omega),b1];simp only[lS];cases hA:RA p.decls (T v a) with
   | none=>by_cases c2:e.num=0<;>simp[c2,Sh.cont]
   | some d=>
    obtain⟨m1,m2,m3,m4⟩:=Tj hA;have g5:Sh.get p.decls (Sh.w (T v a-1))=some d:=by rw[BJ (by omega) (by omega),X4 (by omega),m4]
    rw[g5];by_cases c2:e.num=0<;>by_cases c1:T v b=d.from_<;>simp[c1,c2,Sh.cont]
  ·cases hA:RA p.decls (T v a) with
   | none=>exact .inl rfl
   | some d=>
    obtain⟨m1,_⟩:=Tj hA;simp only[ny];split
    ·exact .inr (S.fg d m1).2
    ·exact .inl rfl
 ·have vI:¬ ((e.kids.length:Int)=2):=by omega
  refine⟨-1,?_,?_,.inl rfl⟩
  ·unfold Bo;simp only[h,Int.reduceEq,lr,lx,lY,mL,mC,lS,AM,vI];by_cases c2:e.num=0<;>simp[c2,Sh.cont]
  ·rw[FQ H V hN (by omega) (by omega) (by omega) (by omega)];unfold BK;simp only[h,Int.reduceEq,lr,lx,lY,mL,mC,lS,AM,ly,vI];simp[Sh.cont]
end
end RC
namespace RC
open Go
def Fg (D:List AN)(c:Int):List Int:=(Gl D 0 c.toNat).elim [] λx=>x.2.fields
theorem ax {D:List AN}{t c:Int}(h:c∈Bu D t):∃k:Nat,c=(k:Int)/\k<nc D:=by
 unfold Bu at h;split at h
 ·rename_i h1;obtain⟨a,ha⟩ :∃a:Nat,t=(a:Int)+1:=⟨(t-1).toNat,by omega⟩
  subst ha;obtain⟨d,hd,_⟩:=Bz (l:=D) (i:=a) (by omega);rw[show (((a:Int)+1)-1).toNat=a by omega,hd]at h;simp only[ny,mA,na]at h;obtain⟨i,hi,rfl⟩:=h;have hs:=G5 D a;rw[Sb hd]at hs;exact⟨nc (D.take a)+i,by omega,by omega⟩
 ·cases h
theorem KD {D:List AN}(h :∀d∈D,d.cons.length<=3)(t:Int):(Bu D t).length<=3:=by
 unfold Bu;split
 ·rename_i h1;obtain⟨a,ha⟩ :∃a:Nat,t=(a:Int)+1:=⟨(t-1).toNat,by omega⟩
  subst ha;obtain⟨d,hd,hm⟩:=Bz (l:=D) (i:=a) (by omega);rw[show (((a:Int)+1)-1).toNat=a by omega,hd];simp only[ny,ly,pR];exact h d hm
 ·simp
theorem Nb {D:List AN}{F:List Ac}(S:EP D F){t c:Int}(h:c∈Bu D t){N:Nat}(hN:2000000<=N):Bw N D c=some (Fg D c)/\EO N D c=some (Fg D c)/\(Fg D c).length<=3/\∀x∈Fg D c,DL D x=true:=by
 obtain⟨k,rfl,hk⟩:=ax h;have hD:=S.NM;have hn:=S.nc;obtain⟨t,x,e1,e2⟩:=HC (D:=D) (by omega) (by omega) hk hN;obtain⟨t',x',xZ,e3⟩:=S5 (D:=D) (by omega) (by omega) hk hN;rw[e1]at xZ;cases xZ;obtain⟨_,_,d,g3,g4⟩:=LL e1;have hf:Fg D (k:Int)=x.fields:=by unfold Fg;rw[nY,e1];rfl
 rw[hf];exact⟨e2,e3,S.Lc d g3 x g4⟩
section
variable {p : AP} {R1 : AP -> List Int -> AE -> Option Int} {R2 : List Int -> BQ -> AE -> Option Int} {T : List Int -> AE -> Int} {e : AE} {v : List Int} {N : Nat}
theorem Og (S:EP p.decls p.funcs)(hN:2000000<=N){C:List Int}(hC:C.length<=3)(hc :∀c∈C,EO N p.decls c=some (Fg p.decls c)):CI N (Er p) C N 0 (List.replicate C.length [])=some (C.map (Fg p.decls)):=by
 have key:∀{M i:Nat},i<=C.length->C.length-i<M->∀m:List (List Int),m.length=C.length->m.take i=(C.map (Fg p.decls)).take i->CI N (Er p) C M i m=some (C.map (Fg p.decls)):=by
  intro M i hi hM;refine Bh C.length (λM i=>∀m:List (List Int),m.length=C.length->m.take i=(C.map (Fg p.decls)).take i->CI N (Er p) C M i m=some (C.map (Fg p.decls))) ?_ ?_ hi hM
  ·intro n m a b;rw[CI,la (by simp[AM])];rw[mX (by omega),mX (by simp)]at b;rw[b]
  ·intro n i hi ih m a b;obtain⟨x,hx,te⟩:=Bz hi;obtain⟨y,hy,_⟩:=Bz (l:=m) (i:=i) (by omega);have xn:(C.map (Fg p.decls))[i]?=some (Fg p.decls x):=by rw[lW,hx];rfl
   have tD:(m.set i (Fg p.decls x))[i]?=some (Fg p.decls x):=by rw[lp (by omega)]
   rw[CI,ld (by simp[AM];omega),BG hx];simp only[lS];rw[show (Er p).decls=p.decls from rfl,hc x te,BG hy];simp only[lS];rw[OA,BJ (by omega) (by omega),show ((i:Int)+1)=((i+1:Nat):Int) by omega];exact ih _ (by simp[a]) (by rw[D8 tD,D8 xn,<- b,pH (ll _)])
 have:=key (mB _) (by omega:C.length-0<N) (List.replicate C.length []) (by simp) rfl;simpa using this
theorem Zr (H:KV p (Er p) R1 R2 T (en e))(V:IA p e v)(S:EP p.decls p.funcs)(hN:2000000<=N)(h:e.op=8):Kv p R1 R2 N v e:=by
 have hk:=V.LW;have hD:=S.NM;have hn:=S.nc;have hv:v.length<=1000:=by have:=V.len;omega
 have zB:=KD S.Q6 e.num;unfold Kv Bo Ap J4;simp only[h,Int.reduceEq,lr,lx,lY,mL,mC,lS];rw[show (Er p).decls=p.decls from rfl,Lq (by omega) (by omega) hN,HN (by omega) (by omega) hN];simp only[lS];generalize hCe:Bu p.decls e.num=C at zB;have xR:∀c∈C,Bw N p.decls c=some (Fg p.decls c)/\EO N p.decls c=some (Fg p.decls c)/\(Fg p.decls c).length<=3/\∀x∈Fg p.decls c,DL p.decls x=true:=λc hc=>Nb S (hCe▸hc) hN;rw[AM C,AM e.kids,BJ (n:=1+(C.length:Int)) (by omega) (by omega)];by_cases h0:C.length=0
 ·exact⟨-1,by simp[h0,Sh.cont],by simp[h0],.inl rfl⟩
 ·have uX:¬ ((C.length:Int)=0):=by omega
  have rE:¬ C=[]:=λq=>h0 (by rw[q];rfl);by_cases h1:e.kids.length=1+C.length
  ·have tC:((e.kids.length:Int)=1+(C.length:Int)):=by omega
   obtain⟨a,r,sj⟩ :∃a r,e.kids=a::r:=by
    cases hq:e.kids with
    | nil=>rw[hq]at h1;simp at h1;omega
    | cons a r=>exact⟨a,r,rfl⟩
   have uU:r.length=C.length:=by rw[sj]at h1;simp at h1;omega
   have rZ:a∈e.kids:=by rw[sj];simp
   have zC:∀k∈r,k∈e.kids:=λk hk=>by rw[sj];simp[hk]
   obtain⟨a1,a2,a3⟩:=H v a (V.CZ.kids a rZ) (Cs rZ) (V.JF rZ) V.H6;have g0:Sh.get e.kids 0=some a:=by rw[sj];rfl
   have gi:∀(i:Nat) k,r[i]?=some k->Sh.get e.kids ((1+i:Nat):Int)=some k:=λi k hk=>by
    rw[OT,sj,Nat.add_comm];simpa using hk
   have g3:Sh.sl e.kids 1 (e.kids.length:Int)=some r:=by
    unfold Sh.sl;rw[ld ⟨by omega,by omega,by omega⟩,sj];simp
   have mkC:Sh.mk ([]:List Int) (C.length:Int) 24=some (List.replicate C.length []):=OX [] C.length 24 (by omega) (by omega);have o:=KQ (ks:=r) (ms:=C.map (Fg p.decls)) H V hN zC (by omega) (by simp[uU]) (by
    intro m hm;obtain⟨c,hc,rfl⟩:=mA.1 hm;exact (xR c hc).2.2)
   have F:=Og (p:=p) S hN zB λc hc=>(xR c hc).2.1;generalize hts:List.zipWith (λm k=>T (v++m) k) (C.map (Fg p.decls)) r=ts at o;have tsl:ts.length=C.length:=by rw[<- hts];simp[uU]
   have tsi:∀(i:Nat),i<C.length->∃c k,C[i]?=some c/\r[i]?=some k/\ts[i]?=some (T (v++Fg p.decls c) k)/\Bw N p.decls c=some (Fg p.decls c)/\Ek v (Fg p.decls c)=some (v++Fg p.decls c)/\R1 p (v++Fg p.decls c) k=some (T (v++Fg p.decls c) k)/\(T (v++Fg p.decls c) k=-1∨DL p.decls (T (v++Fg p.decls c) k)=true):=λi hi=>by
    obtain⟨c,hc,sL⟩:=Bz (l:=C) (i:=i) hi;obtain⟨k,hk2,sy⟩:=Bz (l:=r) (i:=i) (by omega);obtain⟨q1,q2,q3,q4⟩:=xR c sL;obtain⟨z1,z2,z3⟩:=H (v++Fg p.decls c) k (V.CZ.kids k (zC k sy)) (Cs (zC k sy)) (V.more (zC k sy) q3) (V.V5 q4);refine⟨c,k,hc,hk2,?_,q1,JT hv (by omega),z1,z3⟩;rw[<- hts,nN,lW,hc,hk2];rfl
   have L:∀(t:Int) {M i:Nat},i<=C.length->C.length-i<M->EJ N p v e t C R1 M i=some (if (ts.drop i).all (λx=>decide (x=t))=true then .inr () else .inl (-1)):=by
    intro t M i hi hM;refine Bh C.length (λM i=>EJ N p v e t C R1 M i=some (if (ts.drop i).all (λx=>decide (x=t))=true then .inr () else .inl (-1))) ?_ ?_ hi hM
    ·intro n;rw[EJ,la (by simp[AM]),oe (by omega)];rfl
    ·intro n i hi ih;obtain⟨c,k,q1,q2,q3,q4,q5,q6,q7⟩:=tsi i hi;rw[EJ,ld (by simp[AM];omega),BG q1];simp only[lS];rw[q4];simp only[lS];rw[q5,BJ (n:=(1:Int)+(i:Int)) (by omega) (by omega),show ((1:Int)+(i:Int))=((1+i:Nat):Int) by omega,gi i k q2];simp only[lS];rw[q6,BJ (by omega) (by omega),show ((i:Int)+1)=((i+1:Nat):Int) by omega,drop_cons q3,ns];simp only[lS];by_cases z:T (v++Fg p.decls c) k=t
     ·simp only[z,lr,nA,lY,mC,oz];exact ih
     ·simp[z]
   rw[g0,g3,mkC];simp only[lS];rw[a1,a2];simp only[lS];rw[F];simp only[lS];rw[o];obtain⟨c,k,q1,q2,q3,q4,q5,q6,q7⟩:=tsi 0 (by omega);have g1:=gi 0 k q2;have c0:Sh.get C 0=some c:=by rw[show (0:Int)=((0:Nat):Int) from rfl,BG q1]
   rw[show ((1+0:Nat):Int)=1 from rfl]at g1;rw[c0];simp only[lS];rw[q4];simp only[lS];rw[q5,g1];simp only[lS];rw[q6];simp only[lS];have L1:=L (T (v++Fg p.decls c) k) (M:=N) (i:=1) (by omega) (by omega);rw[show ((1:Nat):Int)=1 from rfl]at L1;rw[L1];have hts2:ts=T (v++Fg p.decls c) k::ts.drop 1:=by
    have:=drop_cons q3;simpa using this
   by_cases z:T v a=e.num
   ·by_cases y:(ts.drop 1).all (λx=>decide (x=T (v++Fg p.decls c) k))=true
    ·have ho:Lg ts=T (v++Fg p.decls c) k:=by rw[hts2];unfold Lg;dsimp only;rw[if_pos y]
     refine⟨T (v++Fg p.decls c) k,?_,?_,q7⟩
     ·rw[ld y];simp[uX,rE,tC,z,Sh.cont]
     ·rw[ho];simp[uX,rE,tC,z]
    ·have ho:Lg ts=-1:=by rw[hts2];unfold Lg;dsimp only;rw[if_neg y]
     refine⟨-1,?_,?_,.inl rfl⟩
     ·rw[la y];simp[uX,rE,tC,z,Sh.cont]
     ·rw[ho];simp[uX,rE,tC,z]
   ·exact⟨-1,by simp[uX,rE,tC,z,Sh.cont],by simp[uX,rE,tC,z],.inl rfl⟩
  ·have tC:¬ ((e.kids.length:Int)=1+(C.length:Int)):=by omega
   exact⟨-1,by simp[uX,rE,tC,Sh.cont],by simp[uX,rE,tC],.inl rfl⟩
theorem bP (H:KV p (Er p) R1 R2 T (en e))(V:IA p e v)(S:EP p.decls p.funcs)(hN:2000000<=N):Kv p R1 R2 N v e:=by
 by_cases h0:e.op=0
 ·exact eF H V hN h0
 by_cases h1:e.op=1∨e.op=2∨e.op=3∨e.op=4
 ·exact Zj H V hN h1
 by_cases h5:e.op=5
 ·exact aI H V hN h5
 by_cases h6:e.op=6
 ·exact dU H V S hN h6
 by_cases h7:e.op=7
 ·exact gA H V hN h7
 by_cases h8:e.op=8
 ·exact Zr H V S hN h8
 by_cases h9:e.op=9
 ·exact af H V S hN h9
 by_cases h10:e.op=10
 ·exact Zg H V S hN h10
 by_cases h11:e.op=11
 ·exact Zy H V S hN h11
 by_cases sk:e.op=12
 ·exact dX V sk
 by_cases h13:e.op=13
 ·exact dV H V h13
 exact ZQ H V hN (by omega)
end
theorem N1 {p:AP}(S:EP p.decls p.funcs){N:Nat}(hN:2000000<=N):∀(n:Nat),∃T:List Int->AE->Int,∀(v:List Int) (e:AE),An e->en e<n->v.length+3*en e<=1000->(∀x∈v,DL p.decls x=true)->
  ∀n1 n2,n<=n1->n<=n2->Cj N n1 p v e=some (T v e)/\Bf N n2 v (Er p) e=some (T v e)/\(T v e=-1∨DL p.decls (T v e)=true):=by
 intro n
 induction n with
 | zero=>exact⟨λ_ _=>0,λv e _ h=>by omega⟩
 | succ n ih=>
  obtain⟨T,hT⟩:=ih;refine⟨λv e=>(Cj N (n+1) p v e).getD 0,λv e hi hn hl ht n1 n2 h1 h2=>?_⟩;have step:∀n1 n2,n<=n1->n<=n2->Kv p (Cj N n1) (Bf N n2) N v e:=λn1 n2 h1 h2=>
   bP (T:=T) (λv e a b c d=>hT v e a (by omega) c d n1 n2 h1 h2) ⟨hl,ht,by have:=hl;omega,hi⟩ S hN
  obtain⟨m1,rfl⟩ :∃m,n1=m+1:=⟨n1-1,by omega⟩
  obtain⟨m2,rfl⟩ :∃m,n2=m+1:=⟨n2-1,by omega⟩
  obtain⟨t,q1,q2,q3⟩:=step n n (ll _) (ll _);obtain⟨t',r1,r2,_⟩:=step n m2 (ll _) (by omega);obtain⟨t'',s1,s2,_⟩:=step m1 n (by omega) (ll _);have e1:t'=t:=by rw[q1]at r1;cases r1;rfl
  have e2:t''=t:=by rw[q2]at s2;cases s2;rfl
  subst e1;subst e2;have e3:(Cj N (n+1) p v e).getD 0=t'':=by rw[Cj,q1];rfl
  dsimp only;rw[e3];exact⟨by rw[Cj];exact s1,by rw[Bf];exact r2,q3⟩
end RC
namespace RC
open Go
structure D9 (p:AP):Prop where
 CZ:ZU p
 size:TU p<=1048576
theorem D9.decls {p:AP}(S:D9 p):QO p.decls:=by
 have h:=S.size;unfold TU at h;have hd:∀d∈p.decls,dz d<=1048576:=λd hd=>by have:=Ld dz hd;omega
 refine⟨by omega,λd hm=>?_,λd hm c hc=>?_⟩
 ·have:=hd d hm;unfold dz at this;omega
 ·have:=hd d hm;unfold dz at this;have:=Ld cz hc;show cz c<=_;omega
theorem D9.KK {p:AP}(S:D9 p):p.funcs.length<=1048576:=by have h:=S.size;unfold TU at h;omega
theorem D9.fz {p:AP}(S:D9 p){f:Ac}(hf:f∈p.funcs):f.params.length<=1048576/\CM f.body.kids<=1048576:=by
 have h:=S.size;unfold TU at h;have h2:=Ld YU hf;have h3:YU f=f.params.length+CM f.body.kids:=rfl;omega
theorem D9.fin {p:AP}(S:D9 p){f:Ac}(hf:f∈p.funcs):WA f:=S.CZ.funcs.1 f hf
def Lt (p:AP):Bool:=O3 p.decls (p.funcs.map λf=>(f.params,f.result))
theorem Mj {p:AP}(S:D9 p){N:Nat}(hN:2000000<=N):HJ N p=some (Lt p):=Rw S.decls S.KK (λf hf=>(S.fz hf).1) hN
theorem bO {p:AP}(hl:p.funcs.length<=1048576){N:Nat}(hN:2000000<=N):Dn p N 0 []=some (Er p).funcs:=by
 have key:∀{N i:Nat},i<=p.funcs.length->p.funcs.length-i<N->Dn p N i ((Er p).funcs.take i)=some (Er p).funcs:=by
  intro N i hi hN;refine Bh p.funcs.length (λN i=>Dn p N i ((Er p).funcs.take i)=some (Er p).funcs) ?_ ?_ hi hN
  ·intro n;rw[Dn,la (by simp[AM]),mX (by rw[NY];omega)]
  ·intro n i hi ih;obtain⟨f,hf,_⟩:=Bz hi;have hf2:(Er p).funcs[i]?=some ⟨f.params,[],f.result⟩:=by
    show (p.funcs.map _)[i]?=_;rw[lW,hf];rfl
   rw[Dn,ld (by simp[AM];omega),BG hf];simp only[lS];rw[EC _ _ _ (by simp;omega) (by simp;omega),BJ (by omega) (by omega),show ((i:Int)+1)=((i+1:Nat):Int) by omega];simp only[lS];rw[<- ih,D8 hf2]
 have:=key (mB _) (by omega:p.funcs.length-0<N);simpa using this
theorem bk {p:AP}(hl:p.funcs.length<=1048576){N:Nat}(hN:2000000<=N):KZ N p=some (Er p):=by
 have key:∀{N i:Nat},i<=p.funcs.length->p.funcs.length-i<N->FW p N i ((Er p).funcs.take i)=some (Er p).funcs:=by
  intro N i hi hN;refine Bh p.funcs.length (λN i=>FW p N i ((Er p).funcs.take i)=some (Er p).funcs) ?_ ?_ hi hN
  ·intro n;rw[FW,la (by simp[AM]),mX (by rw[NY];omega)]
  ·intro n i hi ih;obtain⟨f,hf,_⟩:=Bz hi;have hf2:(Er p).funcs[i]?=some ⟨f.params,[],f.result⟩:=by
    show (p.funcs.map _)[i]?=_;rw[lW,hf];rfl
   rw[FW,ld (by simp[AM];omega),BG hf];simp only[lS];rw[EC _ _ _ (by simp;omega) (by simp;omega),BJ (by omega) (by omega),show ((i:Int)+1)=((i+1:Nat):Int) by omega];simp only[lS];rw[<- ih,D8 hf2]
 have:=key (mB _) (by omega:p.funcs.length-0<N);rw[nE,qU]at this;unfold KZ;rw[this];rfl
theorem WW {p:AP}(S:D9 p){N:Nat}(hN:2000000<=N):HL N p=some (Lt p):=by
 have hl:=S.KK;unfold HL Lt;by_cases h4:p.funcs.length<=4
 ·rw[la (by rw[lq,AM];omega),bO hl hN];simp only[lS];rw[Ro S.decls (by rw[NY];exact hl) (λf hf=>by obtain⟨q,hq,rfl⟩:=mA.1 (show f∈p.funcs.map _ from hf);exact⟨(S.fz hq).1,by simp⟩) hN];have e1:((Er p).funcs.map λf=>(f.params,f.result))=p.funcs.map λf=>(f.params,f.result):=by
   show (p.funcs.map _).map _=_;rw[nU];rfl
  have e2:((Er p).funcs.all λf=>Fw (Lv f.params f.F7) 0 f.F7)=true:=by
   rw[lh];intro f hf;obtain⟨q,hq,rfl⟩:=mA.1 (show f∈p.funcs.map _ from hf);rfl
  rw[e1,e2];simp
 ·rw[ld (by rw[lq,AM];omega)];have:O3 p.decls (p.funcs.map λf=>(f.params,f.result))=false:=by
   unfold O3;simp[h4]
  rw[this]
def Gs (p:AP)(T:List Int->AE->Int)(f:Ac):Bool:=decide (en f.body<=30)&&decide (T f.params f.body=f.result)
theorem G9 {p:AP}(S:D9 p){N:Nat}(hN:2000000<=N):∃b,Be N p=some b/\Cw N p=some b/\(b=true->EP p.decls p.funcs/\∀f∈p.funcs,en f.body<=30):=by
 unfold Be Cw;rw[Mj S hN,WW S hN];simp only[lS];cases hs:Lt p with
 | false=>exact⟨false,rfl,rfl,λh=>nomatch h⟩
 | true=>
  have SO:=EP.of hs;have hl:=S.KK;obtain⟨T,hT⟩:=N1 SO hN 31;have vp:∀f∈p.funcs,en f.body<=30->Jc N p f.params f.body=some (T f.params f.body)/\H4 N f.params (Er p) f.body=some (T f.params f.body)/\(T f.params f.body=-1∨DL p.decls (T f.params f.body)=true):=λf hf he=>by
   obtain⟨q1,q2,q3⟩:=SO.OS f hf;exact hT f.params f.body (S.fin hf).body (by omega) (by omega) q2 N N (by omega) (by omega)
  have vK:∀f∈p.funcs,CQ f.params=some f.params:=λf hf=>by
   obtain⟨q1,q2,q3⟩:=SO.OS f hf;unfold CQ;rw[EC [] f.params 8 (by simp;omega) (by simp;omega)];rfl
  have L1:=E0 (l:=p.funcs) (Bp N p) (λ_ f=>Gs p T f) (λn=>by rw[Bp,la (by simp[AM])]) (λn i f hi=>by
   have rv:=(lV.1 hi).1;have hf:=lT hi;rw[Bp,ld (by simp[AM];omega),BG hi];simp only[lS];rw[GG (S.fz hf).2 hN,BJ (by omega) (by omega),show ((i:Int)+1)=((i+1:Nat):Int) by omega];simp only[lS];unfold Gs;by_cases he:en f.body<=30
   ·rw[ld he,la (by simp),(vp f hf he).1];by_cases hr:T f.params f.body=f.result<;>simp[he,hr]
   ·rw[la he];simp[he]) (by omega:p.funcs.length<N)
  have L2:=E0 (l:=p.funcs) (Dt N p) (λ_ f=>Gs p T f) (λn=>by rw[Dt,la (by simp[AM])]) (λn i f hi=>by
   have rv:=(lV.1 hi).1;have hf:=lT hi;obtain⟨q1,q2,q3⟩:=SO.OS f hf;have q4:f.params.all (DL p.decls)=true:=lh.2 q2;rw[Dt,ld (by simp[AM];omega),BG hi];simp only[lS];unfold MD;rw[WW S hN,hs,N8 (S.fz hf).2 hN,Ka (by omega) (by omega),q4,bk hl hN,vK f hf,BJ (by omega) (by omega),show ((i:Int)+1)=((i+1:Nat):Int) by omega];simp only[lS];unfold Gs;by_cases he:en f.body<=30
   ·rw[ld he,(vp f hf he).2.1];have xD:¬ ((en f.body:Int)<0):=by omega
    by_cases hr:T f.params f.body=f.result<;>simp[he,hr,xD]
   ·rw[la he];have hr:¬ ((-1:Int)=f.result):=λq=>by have:=(Jk q3).1;omega
    simp[he,hr]) (by omega:p.funcs.length<N)
  rw[Ft]at L1 L2;refine⟨p.funcs.all (Gs p T),?_,?_,λh=>⟨SO,λf hf=>?_⟩⟩
  ·simp only[nA,lY,mC];rw[L1,E6];cases p.funcs.all (Gs p T)<;>rfl
  ·simp only[nA,lY,mC];rw[L2,E6];cases p.funcs.all (Gs p T)<;>rfl
  ·have:=lh.1 h f hf;unfold Gs at this;simp only[mE,lq]at this;exact this.1
end RC
namespace RC
open Go
def Ag {α:Type}(x:Option α)(Q:α->Prop):Prop:=∃v,x=some v/\Q v
theorem Ag.some {α:Type}{v:α}{Q:α->Prop}(h:Q v):Ag (some v) Q:=⟨v,rfl,h⟩
theorem Ag.mono {α:Type}{x:Option α}{Q R:α->Prop}(h:Ag x Q)(g :∀v,Q v->R v):Ag x R:=
 let ⟨v,e,q⟩:=h;⟨v,e,g v q⟩
theorem Ag.bind {α β:Type}{x:Option α}{f:α->Option β}{R:α->Prop}{Q:β->Prop}(h:Ag x R)(k :∀v,R v->Ag (f v) Q):Ag (Option.bind x f) Q:=by
 obtain⟨v,rfl,hv⟩:=h;exact k v hv
theorem AU {α β:Type}{x:Option α}{f:α->Option β}{v:α}{Q:β->Prop}(h:x=Option.some v)(k:Ag (f v) Q):Ag (Option.bind x f) Q:=by
 subst h;exact k
theorem Cn {α:Type}{b:Bool}{x y:Option α}{Q:α->Prop}(h1:b=true->Ag x Q)(h2:b=false->Ag y Q):Ag (if b=true then x else y) Q:=by
 cases b
 ·exact h2 rfl
 ·exact h1 rfl
theorem BD {α:Type}{p:Prop}[Decidable p]{x y:Option α}{Q:α->Prop}(h1:p->Ag x Q)(h2:¬ p->Ag y Q):Ag (if decide p=true then x else y) Q:=by
 by_cases h:p
 ·rw[ld (by simpa using h)];exact h1 h
 ·rw[la (by simpa using h)];exact h2 h
theorem Ag.cont {ρ σ β:Type}{o:Option (ρ ⊕ σ)}{g:ρ->β}{f:σ->Option β}{R:ρ->Prop}{S:σ->Prop}{Q:β->Prop}(h:Ag o λv=>match v with|.inl r=>R r|.inr s=>S s)(h1 :∀r,R r->Q (g r))(h2 :∀s,S s->Ag (f s) Q):Ag (Sh.cont o g f) Q:=by
 obtain⟨v,rfl,hv⟩:=h;cases v with
 | inl r=>exact⟨g r,rfl,h1 r hv⟩
 | inr s=>exact h2 s hv
theorem Ag.get {α β:Type}{l:List α}{j:Int}{f:α->Option β}{Q:β->Prop}(h0:0<=j)(h1:j<l.length)(k :∀x,l[j.toNat]?=Option.some x->x∈l->Ag (f x) Q):Ag (Option.bind (Sh.get l j) f) Q:=by
 obtain⟨x,e,hx⟩:=Py h0 h1;exact AU e (k x hx (lT hx))
theorem Ag.app {α β:Type}{l m:List α}{b:Nat}{f:List α->Option β}{Q:β->Prop}(h:(l.length+m.length)*b<=140737488355328)(h2:l.length+m.length<=9223372036854775807)(k:Ag (f (l++m)) Q):Ag (Option.bind (Sh.app l m b) f) Q:=AU (EC l m b h h2) k
theorem bH {n:Int}(h1:-9223372036854775808<=n)(h2:n<=9223372036854775807):Sh.wk .i64 n=n:=Abs.wrap_i64 h1 h2
theorem iG {a b:Int}(ha:0<=a)(ha':a<4611686018427387904)(hb:0<=b)(rO:b<4611686018427387904):0<=Sh.xor a b/\Sh.xor a b<4611686018427387904:=by
 obtain⟨x,rfl⟩:=mS ha;obtain⟨y,rfl⟩:=mS hb;have e:Sh.xor (x:Int) (y:Int)=((x ^^^ y:Nat):Int):=by
  unfold Sh.xor;have h1:(BitVec.ofInt 64 (x:Int) ^^^ BitVec.ofInt 64 (y:Int)).toNat=x ^^^ y:=by
   rw[BitVec.toNat_xor];simp only[BitVec.ofInt_natCast,BitVec.toNat_ofNat];rw[oQ (by omega),oQ (by omega)]
  rw[h1];have h2:x ^^^ y<2 ^ 62:=Nat.xor_lt_two_pow (by omega) (by omega);exact Abs.wrap_i64 (by omega) (by omega)
 have h2:x ^^^ y<2 ^ 62:=Nat.xor_lt_two_pow (by omega) (by omega);rw[e];omega
end RC
namespace RC
open Go
inductive Yc:Step->Prop where
 | mk {s:Step}:G3 s.op->G3 s.num->G3 s.cY->IU G3 s.args->s.kids.length<=9223372036854775807->(∀b∈s.kids,b.steps.length<=9223372036854775807)->(∀b∈s.kids,G3 b.result)->(∀b∈s.kids,∀t∈b.steps,Yc t)->Yc s
structure kN (b:Block):Prop where
 steps:IU Yc b.steps
 result:G3 b.result
def lf (left:Int)(s:Nat):Int:=if left-s<0 then -1 else left-s
end RC
namespace RC
open Go
end RC
namespace RC
open Go
def kL (o:Int):Bool:=decide (14<=o)&&decide (o<=17)
mutual
def us (v:Int):Step->Nat|.mk o _ _ a k=>if kL o then 0 else a.countP (λx=>decide (x=v))+uk v k
def uk (v:Int):List (Ll Step)->Nat|[]=>0|b::k=>ub v b+uk v k
def ub (v:Int):Ll Step->Nat|⟨ss,r⟩=>(if r=v then 1 else 0)+ul v ss
def ul (v:Int):List Step->Nat|[]=>0|s::l=>us v s+ul v l
end
def ua (v:Int)(a:List Int):Nat:=a.countP λx=>decide (x=v)
theorem ky (v:Int)(a:List Int):ua v a<=a.length:=List.countP_le_length
end RC
namespace RC
open Go
section
variable {D : List AN} {G : List Bv} {ks : List Int} {op num : Int} {N : Nat}
end
end RC
namespace RC
open Go
section
variable {n : Ih} {R1 : Ih -> List Int -> Block -> Option Int} {R2 : BQ -> List Int -> Block -> Option Int} {T : List Int -> Block -> Int} {s : Step} {v : List Int} {N : Nat}
end
end RC
namespace RC
open Go
section
variable {n : Ih} {R1 : Ih -> List Int -> Block -> Option Int} {R2 : BQ -> List Int -> Block -> Option Int} {T : List Int -> Block -> Int} {s : Step} {v : List Int} {N : Nat}
end
end RC
namespace RC
open Go
section
variable {n : Ih} {R1 : Ih -> List Int -> Block -> Option Int} {R2 : BQ -> List Int -> Block -> Option Int} {T : List Int -> Block -> Int} {s : Step} {v : List Int} {N : Nat} {b : Bool}
end
end RC
namespace RC
open Go
section
variable {n : Ih} {R1 : Ih -> List Int -> Block -> Option Int} {R2 : BQ -> List Int -> Block -> Option Int} {T : List Int -> Block -> Int} {s : Step} {v : List Int} {N : Nat} {b : Bool}
end
end RC
namespace RC
open Go
section
variable {n : Ih} {R1 : Ih -> List Int -> Block -> Option Int} {R2 : BQ -> List Int -> Block -> Option Int} {T : List Int -> Block -> Int} {s : Step} {v : List Int} {N : Nat} {b : Bool}
end
end RC
namespace RC
open Go
section
variable {n : Ih} {R1 : Ih -> List Int -> Block -> Option Int} {R2 : BQ -> List Int -> Block -> Option Int} {T : List Int -> Block -> Int} {b : Block} {v : List Int} {N : Nat}
end
end RC
namespace RC
open Go
end RC
namespace RC
open Go
end RC
namespace RC
open Go
theorem Zq {α:Type}(A B:List α)(x:α):Sh.get (A++x::B) (A.length:Int)=some x:=BG (by simp)
theorem aP {α:Type}(A B:List α)(x y:α):Sh.put (A++x::B) (A.length:Int) y=A++y::B:=by rw[OA];simp
theorem SJ {α:Type}{f g:α->Nat}{a b:Nat}:∀{l:List α},(∀x∈l,f x<=a+b*g x)->(l.map f).sum<=a*l.length+b*(l.map g).sum
 | [],_=>by simp
 | x::r,h=>by
  have h1:=h x (by simp);have h2:=SJ (l:=r) λy hy=>h y (by simp[hy]);simp only[mF,oJ,mN,Nat.mul_add];omega
mutual
def ms:Step->Nat|.mk _ _ _ a k=>3+a.length+kQ k
def kQ:List (Ll Step)->Nat|[]=>0|b::k=>mb b+kQ k
def mb:Ll Step->Nat|⟨ss,_⟩=>kT ss+1
def kT:List Step->Nat|[]=>0|s::l=>ms s+kT l
end
end RC
namespace RC
open Go
theorem Xw {α β:Type}{l:List α}(L:Nat->Int->List β->Option (List β))(g:α->β)(h0 :∀n acc,L (n+1) ((l.length:Nat):Int) acc=some acc)
  (hs :∀n i x acc,l[i]?=some x->acc.length=i->L (n+1) ((i:Nat):Int) acc=L n ((i+1:Nat):Int) (acc++[g x])) {N:Nat} (hN:l.length<N):L N 0 []=some (l.map g):=by
 have key:∀{N i:Nat},i<=l.length->l.length-i<N->L N (i:Int) ((l.take i).map g)=some (l.map g):=by
  intro N i hi hN;refine Bh l.length (λN i=>L N (i:Int) ((l.take i).map g)=some (l.map g)) ?_ ?_ hi hN
  ·intro n;rw[h0,nL]
  ·intro n i hi ih;obtain⟨x,hx,_⟩:=Bz hi;rw[hs n i x _ hx (by simp;omega),<- ih,D8 hx,nI];rfl
 have:=key (mB _) (by omega:l.length-0<N);simpa using this
theorem Xp {α:Type}{l:List α}(L:Nat->Int->List α->Option (List α))(g:α->α)(h0 :∀n acc,L (n+1) ((l.length:Nat):Int) acc=some acc)
  (hs :∀n (A:List α) (x:α) (C:List α),A.length+C.length<l.length->l[A.length]?=some x->L (n+1) ((A.length:Nat):Int) (A++x::C)=L n ((A.length+1:Nat):Int) (A++g x::C)) {N:Nat} (hN:l.length<N):L N 0 l=some (l.map g):=by
 have key:∀(C A:List α) (n:Nat),C.length<n->A.length<=l.length->C=l.drop A.length->L n ((A.length:Nat):Int) (A++C)=some (A++C.map g):=by
  intro C
  induction C with
  | nil=>
   intro A n hn h1 h2;obtain⟨n,rfl⟩ :∃m,n=m+1:=⟨n-1,by simp at hn;omega⟩
   have h3:=mc List.length h2;simp at h3;rw[show A.length=l.length by omega,h0];simp
  | cons x C ih=>
   intro A n hn h1 h2;have h3:=mc List.length h2;simp only[mN,oE]at hn h3;obtain⟨n,rfl⟩ :∃m,n=m+1:=⟨n-1,by omega⟩
   have hx:l[A.length]?=some x:=by
    have:=mc (λz=>z[0]?) h2;simpa using this.symm
   rw[hs n A x C (by omega) hx];have:=ih (A++[g x]) n (by omega) (by simp;omega) (by
    rw[drop_cons hx]at h2;simpa using (List.cons.inj h2).2)
   simpa using this
 have:=key l [] N hN (by simp) (by simp);simpa using this
theorem Yt {i:Nat}(h:i<=1048576):Sh.w ((i:Int)+1)=((i+1:Nat):Int):=by rw[BJ (by omega) (by omega)];rfl
theorem lK {l:List Int}(hl:l.length<=1048576):FN l=some l:=by
 unfold FN;rw[EC [] l 8 (by simp;omega) (by simp;omega)];rfl
theorem lL {l:List Int}(hl:l.length<=1048576):CQ l=some l:=by
 unfold CQ;rw[EC [] l 8 (by simp;omega) (by simp;omega)];rfl
theorem XC {D:List AN}{i:Nat}{d:AN}(hd:D[i]?=some d)(hz:dz d<=1048576){N:Nat}(hN:2000000<=N):EE i D N 0 []=some d.cons:=by
 unfold dz at hz;rw[Xw (l:=d.cons) (EE i D) id (λn acc=>by rw[EE,BG hd];simp only[lS];rw[la (by simp[AM])]) (λn j c acc hc ha=>?_) (by omega)]
 ·simp
 ·have hj:=(lV.1 hc).1;have hcz:=Ld cz (lT hc);rw[EE,BG hd];simp only[lS];rw[ld (by simp[AM];omega),BG hc];simp only[lS];rw[lK (show cz c<=1048576 by omega)];simp only[lS];rw[EC acc _ 24 (by simp;omega) (by simp;omega)];simp only[lS];rw[Yt (by omega)];rfl
theorem W9 {D:List AN}(hl:D.length<=1048576)(hz :∀d∈D,dz d<=1048576){N:Nat}(hN:2000000<=N):Ii N D=some D:=by
 unfold Ii;rw[Xw (l:=D) (Es N D) id (λn acc=>by rw[Es,la (by simp[AM])]) (λn j c acc hc ha=>?_) (by omega)]
 ·simp
 ·have hj:=(lV.1 hc).1;rw[Es,ld (by simp[AM];omega),XC hc (hz c (lT hc)) hN,BG hc];simp only[lS];rw[EC acc _ 40 (by simp;omega) (by simp;omega)];simp only[lS];rw[Yt (by omega)];rfl
theorem WM {D:List AN}(hl:D.length<=1048576)(hz :∀d∈D,dz d<=1048576){N:Nat}(hN:2000000<=N):IL N D=some D:=by
 unfold IL Da;rw[EC [] D 40 (by simp;omega) (by simp;omega)];simp only[lS,nJ];rw[Xp (l:=D) (EY N (Sh.len D)) id (λn acc=>by rw[EY,la (by simp[AM])]) (λn A d C hA hd=>?_) (by omega)]
 ·simp
 ·have h1:=hz d (lT hd);unfold dz at h1;rw[EY,ld (by simp[AM];omega),Zq];simp only[lS];unfold DA;rw[EC [] d.cons 24 (by simp;omega) (by simp;omega)];simp only[lS,nJ];rw[Xp (l:=d.cons) (EZ d.cons) id (λn acc=>by rw[EZ,la (by simp[AM])]) (λn B c E hB hc=>?_) (by omega)]
  ·simp only[lS,aP,nH];rw[Yt (by omega)];rfl
  ·have hcz:=Ld cz (lT hc);have hl:=(lV.1 hc).1;rw[EZ,ld (by simp[AM];omega),BG hc];simp only[lS];rw[lL (show cz c<=1048576 by omega),Zq];simp only[lS];rw[aP,Yt (by omega)];rfl
end RC
namespace RC
open Go
end RC
namespace RC
end RC
namespace RC
open Go
mutual
def vs:Step->List Int|.mk o _ _ a k=>if kL o then [] else a++kD k
def kD:List (Ll Step)->List Int|[]=>[]|b::k=>lE b++kD k
def lE:Ll Step->List Int|⟨ss,r⟩=>ko ss++[r]
def ko:List Step->List Int|[]=>[]|s::l=>vs s++ko l
end
end RC
namespace RC
open Go
def rowOf {α:Type}(n:Nat)(f:Nat->α):List α:=(List.range n).map f
theorem KA {α:Type}{n:Nat}{f:Nat->α}:(rowOf n f).length=n:=by simp[rowOf]
theorem Mv {α:Type}{n:Nat}{f:Nat->α}{j:Nat}(h:j<n):(rowOf n f)[j]?=some (f j):=by simp[rowOf,h]
theorem Yn {α:Type}{n:Nat}{f g:Nat->α}(h :∀j,j<n->f j=g j):rowOf n f=rowOf n g:=mH λj hj=>h j (na.1 hj)
theorem bL {α:Type}{n:Nat}{f:Nat->α}{j:Nat}{v:α}:(rowOf n f).set j v=rowOf n (λk=>if k=j then v else f k):=by
 apply nO;intro k;rw[List.getElem?_set];by_cases hk:k<n
 ·rw[Mv hk,Mv hk,KA];by_cases e:j=k
  ·subst e;simp[hk]
  ·have e':¬ k=j:=λh=>e h.symm;simp[e,e']
 ·rw[mV (by rw[KA];omega),mV (by rw[KA];omega),KA];by_cases e:j=k
  ·subst e;simp[hk]
  ·simp[e]
def kI (h:List Cell)(j:Nat)(w:Int):Bool:=jZ h w&&decide ((w-1000).toNat=j)
def lI (h:List Cell)(ws:List Int)(j:Nat):Nat:=ws.countP (kI h j)
theorem kW (h:List Cell)(j:Nat):lI h [] j=0:=rfl
def Ny (l:List Nat):List Int:=List.map (λn:Nat=>(n:Int)) l
end RC
namespace RC
open Go
theorem ZE (a b:List Nat):Ny (a++b)=Ny a++Ny b:=by simp[Ny]
theorem TE (a:List Nat):(Ny a).length=a.length:=by simp[Ny]
def mk (m:Nat->Bool)(n i:Nat):List Nat:=(List.range' i (n-i)).filter m
theorem gz (m:Nat->Bool)(n:Nat):mk m n n=[]:=by simp[mk]
theorem gO {m:Nat->Bool}{n i:Nat}(hi:i<n):mk m n i=(if m i then [i] else [])++mk m n (i+1):=by
 unfold mk;obtain⟨k,hk⟩ :∃k,n-i=k+1:=⟨n-i-1,by omega⟩
 rw[hk,List.range'_succ,List.filter_cons,show n-(i+1)=k by omega];cases m i<;>simp
theorem cX {m:Nat->Bool}{n j:Nat}:j∈mk m n 0↔j<n/\m j=true:=by simp[mk]
theorem iM (m:Nat->Bool)(n i:Nat):(mk m n i).length<=n-i:=by
 have:=List.length_filter_le m (List.range' i (n-i));simpa [mk] using this
def WK (m:Nat->Bool)(j:Nat):Nat->Bool:=λk=>m k || decide (k=j)
def IK (m:Nat->Bool)(l:List Int):Nat->Bool:=λk=>m k || decide ((k:Int)∈l)
theorem Rn (m:Nat->Bool):IK m []=m:=by funext k;simp[IK]
theorem ZS (m:Nat->Bool)(j:Nat)(l:List Int):IK m ((j:Int)::l)=IK (WK m j) l:=by
 funext k;simp only[IK,WK,lk,Bool.decide_or,Bool.or_assoc];congr 2;exact oF.2 (by omega)
theorem Ti {m:Nat->Bool}{n0:Nat}(hl:n0<=1048576){N i:Nat}(hi:i<=n0)(hN:n0-i<N):∀acc:List Nat,acc.length<=i->EH (rowOf n0 m) N i (Ny acc)=some (Ny (acc++mk m n0 i)):=by
 refine Bh n0 (λN i=>∀acc:List Nat,acc.length<=i->EH (rowOf n0 m) N i (Ny acc)=some (Ny (acc++mk m n0 i))) ?_ ?_ hi hN
 ·intro n acc _;rw[EH,la (by simp[AM,KA]),gz,mn]
 ·intro n i hi ih acc ha;rw[EH,ld (by simp[AM,KA];omega),BG (Mv hi)];simp only[lS];rw[BJ (by omega) (by omega),show ((i:Int)+1)=((i+1:Nat):Int) by omega,gO hi];cases m i with
  | false=>simp only[lY,mC,lS,nJ];exact ih acc (by omega)
  | true=>
   simp only[mL];rw[EC _ _ 8 (by rw[TE];simp;omega) (by rw[TE];simp;omega)];simp only[lS];have:=ih (acc++[i]) (by simp;omega);rw[ZE,my]at this;exact this
theorem WG {m:Nat->Bool}{n:Nat}(hn:n<=1048576){N:Nat}(hN:2000000<=N):HR N (rowOf n m)=some (Ny (mk m n 0)):=by
 unfold HR;have:=Ti (m:=m) hn (mB n) (by omega:n-0<N) [] (by simp);rw[qU,show Ny []=[] from rfl]at this;rw[this];rfl
theorem Wg (m:Nat->Bool)(a b:List Int):IK (IK m a) b=IK m (a++b):=by
 funext k;simp only[IK,lz,Bool.decide_or,Bool.or_assoc]
mutual
def KL:AE->List Int|.mk o n k=>(if o=9∨o=10 then [n] else [])++HA k
def HA:List AE->List Int|[]=>[]|e::l=>KL e++HA l
end
def OR (e:AE):List Int:=if e.op=9∨e.op=10 then [e.num] else []
theorem JK (e:AE):KL e=OR e++HA e.kids:=by
 obtain⟨o,n,k⟩:=e;by_cases h:o=9∨o=10
 ·have h':(AE.mk o n k).op=9∨(AE.mk o n k).op=10:=h;unfold KL OR;rw[ld h,ld h'];rfl
 ·have h':¬ ((AE.mk o n k).op=9∨(AE.mk o n k).op=10):=h;unfold KL OR;rw[la h,la h'];rfl
theorem Zd {k:List AE}{i:Nat}{e:AE}(h:k[i]?=some e):HA (k.drop i)=KL e++HA (k.drop (i+1)):=by rw[drop_cons h];simp[HA]
theorem ay {k:List AE}{e:AE}(h:e∈k){x:Int}(hx:x∈KL e):x∈HA k:=by
 induction k with
 | nil=>cases h
 | cons a r ih=>
  simp only[HA,lz];rcases lk.1 h with rfl|h
  ·exact .inl hx
  ·exact .inr (ih h)
theorem eU {e:AE}:(if decide (e.op=9)=true then some true else some (decide (e.op=10)))=some (decide (e.op=9∨e.op=10)):=by
 by_cases h:e.op=9<;>simp[h]
def iY (F:Nat)(l:List Int):Prop:=∀x∈l,0<=x/\x<(F:Int)
theorem fU {F j:Nat}{m:Nat->Bool}:Sh.put (rowOf F m) (j:Int) true=rowOf F (WK m j):=by
 rw[OA,bL];refine Yn λk _=>?_;by_cases h:k=j<;>simp[WK,h]
theorem fN {N:Nat}(hN:2000000<=N){F:Nat}(hF:F<=1000):∀(n:Nat) (e:AE) (m:Nat->Bool),en e<=1000->en e<=n->iY F (KL e)->Ge N n (rowOf F m) e=some (rowOf F (IK m (KL e))):=by
 intro n
 induction n with
 | zero=>intro e _ _ h;have:=F8 e;omega
 | succ n ih=>
  intro e m hz hn re;have hk:e.kids.length<=1000:=by have:=Hi e.kids;have:=Fp e;omega
  rw[Ge];unfold Kh I5;have key:∀{M i:Nat},i<=e.kids.length->e.kids.length-i<M->∀m:Nat->Bool,Eb e (Ge N n) M i (rowOf F m)=some (rowOf F (IK m (HA (e.kids.drop i)))):=by
   intro M i hi hM;refine Bh e.kids.length (λM i=>∀m:Nat->Bool,Eb e (Ge N n) M i (rowOf F m)=some (rowOf F (IK m (HA (e.kids.drop i))))) ?_ ?_ hi hM
   ·intro q m;rw[Eb,la (by simp[AM]),ov];simp[HA,Rn]
   ·intro q i hi tv m;obtain⟨x,hx,te⟩:=Bz hi;have hxe:=Cs te;rw[Zd hx,Eb,ld (by simp[AM];omega),BG hx];simp only[lS];rw[ih x m (by omega) (by omega) (λy hy=>re y (by rw[JK];exact nm _ (ay te hy)))];simp only[lS];rw[BJ (n:=(i:Int)+1) (by omega) (by omega),show ((i:Int)+1)=((i+1:Nat):Int) by omega,tv,Wg]
  rw[eU];simp only[lS];have e1:(if decide (e.op=9∨e.op=10)=true then (Sh.get (rowOf F m) e.num).bind λ_=>some (Sh.put (rowOf F m) e.num true) else some (rowOf F m))=some (rowOf F (IK m (OR e))):=by
   unfold OR;by_cases h:e.op=9∨e.op=10
   ·rw[ld (by simpa using h),ld h];have:=re e.num (by rw[JK];simp[OR,h]);obtain⟨j,hj⟩:=mS this.1;rw[hj,BG (Mv (by omega)),fU,ZS,Rn];rfl
   ·rw[la (by simpa using h),la h,Rn]
  rw[e1];simp only[lS];have:=key (mB _) (by omega:e.kids.length-0<N) (IK m (OR e));rw[nQ,qU,Wg,<- JK]at this;rw[this];rfl
end RC
namespace RC
open Go
def push:List Int->(Nat->Bool)->List Int->(Nat->Bool)×List Int
 | [],m,w=>(m,w)
 | x::q,m,w=>if m x.toNat then push q m w else push q (WK m x.toNat) (w++[x])
end RC
namespace RC
open Go
structure PO (p:AP) (F:Nat):Prop where
 len:p.funcs.length=F
 le:F<=4
 sz :∀f∈p.funcs,en f.body<=30
 kp :∀f∈p.funcs,iY F (KL f.body)
def VW (p:AP)(k:Nat):List Int:=match p.funcs[k]? with|some f=>KL f.body|none=>[]
theorem iK {p:AP}{F:Nat}(P:PO p F)(k:Nat):iY F (VW p k):=by
 unfold VW;cases h:p.funcs[k]? with
 | none=>intro x hx;cases hx
 | some f=>exact P.kp f (lT h)
def aB:Nat->Bool:=λ_=>false
def cl (p:AP)(F k:Nat):List Int:=Ny (mk (IK aB (VW p k)) F 0)
theorem dA {p:AP}{F k:Nat}(P:PO p F)(x:Int):x∈cl p F k↔x∈VW p k:=by
 unfold cl;constructor
 ·intro h;obtain⟨j,hj,rfl⟩:=mA.1 h;have:=(cX.1 hj).2;simpa [IK,aB] using this
 ·intro h;have re:=iK P k x h;obtain⟨j,rfl⟩:=mS re.1;exact mA.2 ⟨j,cX.2 ⟨by omega,by simpa [IK,aB] using h⟩,rfl⟩
theorem cZ {p:AP}{F k:Nat}:(cl p F k).length<=F:=by unfold cl;rw[TE];have:=iM (IK aB (VW p k)) F 0;omega
theorem fT (F:Nat):List.replicate F false=rowOf F aB:=by
 apply nO;intro k;by_cases h:k<F
 ·rw[Mv h,List.getElem?_replicate,ld h];rfl
 ·rw[mV (by simp;omega),mV (by rw[KA];omega)]
theorem XT {p:AP}{F k:Nat}(P:PO p F){f:Ac}(hf:p.funcs[k]?=some f){N:Nat}(hN:2000000<=N):Ie N p (k:Int)=some (rowOf F (IK aB (VW p k))):=by
 have hm:=lT hf;have hs:=P.sz f hm;have hF:=P.le;unfold Ie;rw[AM,P.len,OX _ F 1 (by omega) (by omega),fT,BG hf];simp only[lS];unfold OZ;rw[fN hN (by omega) N f.body aB (by omega) (by omega) (P.kp f hm)];unfold VW;rw[hf];rfl
theorem aA {p:AP}{F k:Nat}(P:PO p F){N:Nat}(hN:2000000<=N):HR N (rowOf F (IK aB (VW p k)))=some (cl p F k):=WG (by have:=P.le;omega) hN
end RC
namespace RC
open Go
end RC
namespace RC
open Go
end RC
namespace RC
open Go
section
variable {p : AP} {R1 : AP -> List Int -> AE -> Option Int} {R2 : List Int -> BQ -> AE -> Option Int} {T : List Int -> AE -> Int} {e : AE} {v : List Int} {N : Nat}
theorem iq (S:EP p.decls p.funcs){t:Int}(hB:Bo N R1 p v e=some t)(ht:t≠-1)(h:e.op=9∨e.op=10):0<=e.num/\e.num<(p.funcs.length:Int):=by
 have hF:=S.KK;by_cases hr:0<=e.num/\e.num<=(p.funcs.length:Int)-1
 ·omega
 ·exfalso;apply ht;have hb:(decide (0<=e.num)&&decide (e.num<=(p.funcs.length:Int)-1))=false:=by
   rw[<- Bool.decide_and];exact pF hr
  unfold Bo Fq at hB;rcases h with h|h;all_goals
   simp only[h,Int.reduceEq,lr,lx,lY,mL,mC,lS]at hB;rw[EX,AM p.funcs,BJ (n:=(p.funcs.length:Int)-1) (by omega) (by omega),hb]at hB;simpa [Sh.cont] using hB.symm
theorem T2 {l:List Int}(h:Lg l≠-1):∀x∈l,x≠-1:=by
 cases l with
 | nil=>exact absurd rfl h
 | cons a r=>
  simp only[Lg]at h;by_cases hr:r.all (λx=>decide (x=a))=true
  ·rw[ld hr]at h;intro x hx;rcases lk.1 hx with rfl|hx
   ·exact h
   ·have:=lh.1 hr x hx;simp only[lq]at this;rw[this];exact h
  ·rw[la hr]at h;exact absurd rfl h
theorem Z2 (H:KV p (Er p) R1 R2 T (en e))(V:IA p e v)(S:EP p.decls p.funcs)(hN:2000000<=N){t:Int}(hB:Ap N R2 v (Er p) e=some t)(ht:t≠-1):
  ∀k∈e.kids,∃m:List Int,m.length<=3/\(∀x∈m,DL p.decls x=true)/\T (v++m) k≠-1:=by
 have hv:v.length<=1000:=by have:=V.len;omega
 have nil:∀k,T v k≠-1->∃m:List Int,m.length<=3/\(∀x∈m,DL p.decls x=true)/\T (v++m) k≠-1:=λk h=>⟨[],by simp,λx hx=>(by cases hx),by simpa using h⟩;by_cases sk:e.op=12
 ·unfold Ap at hB;simp only[sk,lr,mL]at hB;intro k hk;have:0<Sh.len e.kids:=by rw[AM];have:=List.length_pos_of_mem hk;omega
  simp only[this,lr,mL,lS,lX]at hB;exact absurd hB.symm ht
 by_cases h13:e.op=13
 ·unfold Ap at hB;simp only[h13,Int.reduceEq,lr,lx,lY,mL,mC]at hB;by_cases hl:e.kids.length=2
  ·obtain⟨a,b,hk⟩ :∃a b,e.kids=[a,b]:=by
    match hk:e.kids,hl with
    | [a,b],_=>exact⟨a,b,rfl⟩
   have rZ:a∈e.kids:=by rw[hk];simp
   have tw:b∈e.kids:=by rw[hk];simp
   obtain⟨a1,a2,a3⟩:=H v a (V.CZ.kids a rZ) (Cs rZ) (V.JF rZ) V.H6;have g0:Sh.get e.kids 0=some a:=by rw[hk];rfl
   have g1:Sh.get e.kids 1=some b:=by rw[hk];rfl
   rw[g0,g1]at hB;simp only[lS,AM,hl]at hB;rw[a2]at hB;simp only[lS]at hB;by_cases hn:e.num=0
   ·by_cases h0:T v a<0
    ·simp[hn,h0]at hB;exact absurd hB.symm ht
    ·have vp:DL p.decls (T v a)=true:=a3.resolve_left (by omega);obtain⟨b1,b2,b3⟩:=H (v++[T v a]) b (V.CZ.kids b tw) (Cs tw) (V.more tw (by simp)) (V.V5 (by simp[vp]));rw[EC v [T v a] 8 (by simp;omega) (by simp;omega)]at hB;simp only[lS,b2]at hB;simp[hn,h0]at hB;intro k sy;rw[hk]at sy;simp only[lk,mK,mr]at sy;rcases sy with rfl|rfl
     ·exact nil _ (by omega)
     ·exact⟨[T v a],by simp,by simp[vp],by rw[hB];exact ht⟩
   ·simp[hn]at hB;exact absurd hB.symm ht
  ·have:¬ ((e.kids.length:Int)=2):=by omega
   simp[AM,this]at hB;exact absurd hB.symm ht
 by_cases h7:e.op=7
 ·unfold Ap at hB;simp only[h7,Int.reduceEq,lr,lx,lY,mL,mC]at hB;by_cases hl:e.kids.length=3
  ·obtain⟨a,b,c,hk⟩ :∃a b c,e.kids=[a,b,c]:=by
    match hk:e.kids,hl with
    | [a,b,c],_=>exact⟨a,b,c,rfl⟩
   have rZ:a∈e.kids:=by rw[hk];simp
   have tw:b∈e.kids:=by rw[hk];simp
   have hmc:c∈e.kids:=by rw[hk];simp
   obtain⟨a1,a2,a3⟩:=H v a (V.CZ.kids a rZ) (Cs rZ) (V.JF rZ) V.H6;have g0:Sh.get e.kids 0=some a:=by rw[hk];rfl
   have g3:Sh.sl e.kids 1 3=some [b,c]:=by rw[hk];rfl
   have o:=KQ (ks:=[b,c]) (ms:=[[],[]]) H V hN (by intro k hk;simp only[lk,mK,mr]at hk;rcases hk with rfl|rfl<;>assumption) (by simp) rfl (by simp);have mk2:Sh.mk ([]:List Int) 2 24=some [[],[]]:=OX [] 2 24 (by omega) (by omega);rw[g0]at hB;simp only[lS,AM,hl]at hB;rw[a2,show ((3:Nat):Int)=3 from rfl,g3,mk2]at hB;simp only[lS]at hB;rw[o]at hB;by_cases hn:e.num=0
   ·by_cases h0:T v a=0
    ·simp[hn,h0]at hB;have wV:=T2 (l:=[T v b,T v c]) (by rw[hB];exact ht);intro k sy;rw[hk]at sy;simp only[lk,mK,mr]at sy;rcases sy with rfl|rfl|rfl
     ·exact nil _ (by omega)
     ·exact nil _ (wV _ (by simp))
     ·exact nil _ (wV _ (by simp))
    ·simp[hn,h0]at hB;exact absurd hB.symm ht
   ·simp[hn]at hB;exact absurd hB.symm ht
  ·have:¬ ((e.kids.length:Int)=3):=by omega
   simp[AM,this]at hB;exact absurd hB.symm ht
 by_cases h8:e.op=8
 ·have tm:=V.LW;have hD:=S.NM;have hn:=S.nc;have zB:=KD S.Q6 e.num;unfold Ap at hB;simp only[h8,Int.reduceEq,lr,lx,lY,mL,mC]at hB;rw[show (Er p).decls=p.decls from rfl,HN (by omega) (by omega) hN]at hB;simp only[lS]at hB;generalize hCe:Bu p.decls e.num=C at zB hB;have xR:∀c∈C,Bw N p.decls c=some (Fg p.decls c)/\EO N p.decls c=some (Fg p.decls c)/\(Fg p.decls c).length<=3/\∀x∈Fg p.decls c,DL p.decls x=true:=λc hc=>Nb S (hCe▸hc) hN;rw[AM C,AM e.kids,BJ (n:=1+(C.length:Int)) (by omega) (by omega)]at hB;by_cases h0:C.length=0
  ·simp[h0]at hB;exact absurd hB.symm ht
  ·have uX:¬ ((C.length:Int)=0):=by omega
   have rE:¬ C=[]:=λq=>h0 (by rw[q];rfl);by_cases h1:e.kids.length=1+C.length
   ·have tC:((e.kids.length:Int)=1+(C.length:Int)):=by omega
    obtain⟨a,r,sj⟩ :∃a r,e.kids=a::r:=by
     cases hq:e.kids with
     | nil=>rw[hq]at h1;simp at h1;omega
     | cons a r=>exact⟨a,r,rfl⟩
    have uU:r.length=C.length:=by rw[sj]at h1;simp at h1;omega
    have rZ:a∈e.kids:=by rw[sj];simp
    have zC:∀k∈r,k∈e.kids:=λk hk=>by rw[sj];simp[hk]
    obtain⟨a1,a2,a3⟩:=H v a (V.CZ.kids a rZ) (Cs rZ) (V.JF rZ) V.H6;have g0:Sh.get e.kids 0=some a:=by rw[sj];rfl
    have g3:Sh.sl e.kids 1 (e.kids.length:Int)=some r:=by
     unfold Sh.sl;rw[ld ⟨by omega,by omega,by omega⟩,sj];simp
    have mkC:Sh.mk ([]:List Int) (C.length:Int) 24=some (List.replicate C.length []):=OX [] C.length 24 (by omega) (by omega);have o:=KQ (ks:=r) (ms:=C.map (Fg p.decls)) H V hN zC (by omega) (by simp[uU]) (by
     intro m hm;obtain⟨c,hc,rfl⟩:=mA.1 hm;exact (xR c hc).2.2)
    have FL:=Og (p:=p) S hN zB λc hc=>(xR c hc).2.1;rw[g0,g3,mkC]at hB;simp only[lS]at hB;rw[a2,FL]at hB;simp only[lS]at hB;rw[o]at hB;by_cases yQ:T v a=e.num
    ·simp[rE,tC,yQ]at hB;have wV:=T2 (by rw[hB];exact ht);intro k sy;rw[sj]at sy;rcases lk.1 sy with rfl|sy
     ·refine nil _ λhq=>?_;have hneg:e.num=-1:=by rw[<- yQ];exact hq
      rw[hneg]at hCe;exact h0 (by rw[<- hCe];simp[Bu])
     ·obtain⟨i,hi⟩:=lv.1 sy;have rv:=(lV.1 hi).1;obtain⟨c,hc,sL⟩:=Bz (l:=C) (i:=i) (by omega);refine⟨Fg p.decls c,(xR c sL).2.2.1,(xR c sL).2.2.2,wV _ (lv.2 ⟨i,?_⟩)⟩;rw[nN,lW,hc,hi];rfl
    ·simp[rE,tC,yQ]at hB;exact absurd hB.symm ht
   ·have tC:¬ ((e.kids.length:Int)=1+(C.length:Int)):=by omega
    simp[rE,tC]at hB;exact absurd hB.symm ht
 rw[FQ H V hN sk h13 h7 h8]at hB;by_cases h:(e.kids.map (T v)).any (λt=>decide (t<0))=true
 ·rw[ld h]at hB;simp at hB;exact absurd hB.symm ht
 ·intro k hk;refine nil k λhq=>h ?_;exact oC.2 ⟨T v k,nC hk,by rw[hq];rfl⟩
end
end RC
namespace RC
open Go
theorem TQ {x:Int}:∀{l:List AE},x∈HA l->∃k∈l,x∈KL k
 | [],h=>by cases h
 | a::r,h=>by
  simp only[HA,lz]at h;rcases h with h|h
  ·exact⟨a,by simp,h⟩
  ·obtain⟨k,hk,hx⟩:=TQ h;exact⟨k,by simp[hk],hx⟩
def TT (p:AP)(N:Nat)(T:List Int->AE->Int):Prop:=∀(v:List Int) (e:AE),An e->en e<31->v.length+3*en e<=1000->(∀x∈v,DL p.decls x=true)->
  ∀n1 n2,31<=n1->31<=n2->Cj N n1 p v e=some (T v e)/\Bf N n2 v (Er p) e=some (T v e)/\(T v e=-1∨DL p.decls (T v e)=true)
theorem ep {p:AP}(S:EP p.decls p.funcs){N:Nat}(hN:2000000<=N){T:List Int->AE->Int}(hT:TT p N T):∀(n:Nat) (e:AE) (v:List Int),en e<=n->n<=30->IA p e v->T v e≠-1->iY p.funcs.length (KL e):=by
 intro n
 induction n with
 | zero=>intro e _ h;have:=F8 e;omega
 | succ n ih=>
  intro e v he hn V ht x hx;have H:KV p (Er p) (Cj N 31) (Bf N 31) T (en e):=λv e a b c d=>hT v e a (by omega) c d 31 31 (ll _) (ll _);obtain⟨q1,q2,_⟩:=hT v e V.CZ (by omega) V.len V.H6 32 32 (by omega) (by omega);rw[Cj]at q1;rw[Bf]at q2;rw[JK,lz]at hx;rcases hx with hx|hx
  ·unfold OR at hx;by_cases h:e.op=9∨e.op=10
   ·rw[ld h]at hx;have:x=e.num:=by simpa using hx
    rw[this];exact iq S q1 ht h
   ·rw[la h]at hx;cases hx
  ·obtain⟨k,hk,hxk⟩:=TQ hx;have vf:=Cs hk;obtain⟨m,m1,m2,m3⟩:=Z2 H V S hN q2 ht k hk;exact ih k (v++m) (by omega) (by omega) ⟨V.more hk m1,V.V5 m2,by omega,V.CZ.kids k hk⟩ m3 x hxk
theorem Xq {p:AP}(S:D9 p){N:Nat}(hN:2000000<=N)(hv:Be N p=some true):PO p p.funcs.length:=by
 obtain⟨b,h1,_,h3⟩:=G9 S hN;rw[hv]at h1;cases h1;obtain⟨SO,wg⟩:=h3 rfl;obtain⟨T,hT⟩:=N1 SO hN 31;have hl:=S.KK;refine⟨rfl,SO.KK,wg,λf hf=>?_⟩;obtain⟨q1,q2,q3⟩:=SO.OS f hf;have he:=wg f hf;have V:IA p f.body f.params:=⟨by omega,q2,by omega,(S.fin hf).body⟩
 have L1:=E0 (l:=p.funcs) (Bp N p) (λ_ f=>Gs p T f) (λn=>by rw[Bp,la (by simp[AM])]) (λn i f hi=>by
  have rv:=(lV.1 hi).1;have hf:=lT hi;obtain⟨q1,q2,q3⟩:=SO.OS f hf;have he:=wg f hf;have ty:Jc N p f.params f.body=some (T f.params f.body):=(hT f.params f.body (S.fin hf).body (by omega) (by omega) q2 N N (by omega) (by omega)).1;rw[Bp,ld (by simp[AM];omega),BG hi];simp only[lS];rw[GG (S.fz hf).2 hN,BJ (by omega) (by omega),show ((i:Int)+1)=((i+1:Nat):Int) by omega];simp only[lS];unfold Gs;rw[ld he,la (by simp),ty];by_cases hr:T f.params f.body=f.result<;>simp[he,hr]) (by omega:p.funcs.length<N)
 rw[Ft]at L1;have hs:p.funcs.all (Gs p T)=true:=by
  unfold Be at hv;rw[Mj S hN]at hv;simp only[lS]at hv;cases uW:Lt p with
  | false=>rw[uW]at hv;simp at hv
  | true=>
   rw[uW]at hv;simp only[nA,lY,mC]at hv;rw[L1,E6]at hv;cases hb:p.funcs.all (Gs p T) with
   | true=>rfl
   | false=>rw[hb]at hv;simp at hv
 have hb:=lh.1 hs f hf;unfold Gs at hb;simp only[mE,lq]at hb;exact ep SO hN hT 30 f.body f.params he (ll _) V (by rw[hb.2];have:=(Jk q3).1;omega)
end RC
namespace RC
open Go
def lP (o n:Int):List AE->AE
 | c::d::k=>if o=11/\c.op=10 then .mk 9 c.num (c.kids++[d]) else .mk o n (c::d::k)
 | k=>.mk o n k
mutual
def kn:AE->AE|.mk o n k=>lP o n (kP k)
def kP:List AE->List AE|[]=>[]|e::l=>kn e::kP l
end
def K2 (e:AE):Prop:=e.op=11->2<=e.kids.length
theorem Yd {N:Nat}(hN:2000000<=N):∀(n:Nat) (k:List AE),CM k<n->CM k<=1000->DJ N n k=some k:=by
 intro n
 induction n with
 | zero=>intro k h;omega
 | succ n ih=>
  intro k hk hs;have hlen:=Hi k;rw[DJ];unfold Hc;have key:∀(M i:Nat),i<=k.length->k.length-i<M->CV k (DJ N n) M i (k.take i)=some k:=by
   intro M i hi hM;refine Bh k.length (λM i=>CV k (DJ N n) M i (k.take i)=some k) ?_ ?_ hi hM
   ·intro m;rw[CV,la (by simp[AM]),nL]
   ·intro m i hi tv;obtain⟨e,he,hem⟩:=Bz hi;have h1:=H7 hem;have h2:=Fp e;rw[CV,ld (by simp[AM];omega),BG he];simp only[lS,JL];rw[ih e.kids (by omega) (by omega)];simp only[lS];rw[<- HS,EC _ _ 40 (by simp;omega) (by simp;omega),BJ (by omega) (by omega),show ((i:Int)+1)=((i+1:Nat):Int) by omega];simp only[lS];rw[<- D8 he];exact tv
  have:=key N 0 (mB _) (by omega);rw[nE,qU]at this;rw[this];rfl
theorem W5 {N:Nat}(hN:2000000<=N){k:List AE}(hs:CM k<=1000):HQ N k=some k:=by
 unfold HQ;exact Yd hN N k (by omega) hs
theorem XW {N:Nat}(hN:2000000<=N){e:AE}(hs:CM e.kids<=1000):Hz N e=some e:=by
 unfold Hz;rw[W5 hN hs];simp only[lS];rw[<- HS]
end RC
namespace RC
open Go
end RC
namespace RC
open Go
end RC
namespace RC
open Go
theorem Z3 {N:Nat}(hN:2000000<=N):∀(n:Nat) (e:AE),en e<=n->en e<=1000->An e->D4 N n e 0 0=some e:=by
 intro n
 induction n with
 | zero=>intro e h;have:=F8 e;omega
 | succ n ih=>
  intro e hn hs hI;have hlen:=Hi e.kids;have he:=Fp e;obtain⟨n1,n2⟩:=hI.num;rw[D4];unfold Io;have key:∀(M i:Nat),i<=e.kids.length->e.kids.length-i<M->Co e 0 0 (D4 N n) M i (e.kids.take i)=some e.kids:=by
   intro M i hi hM;refine Bh e.kids.length (λM i=>Co e 0 0 (D4 N n) M i (e.kids.take i)=some e.kids) ?_ ?_ hi hM
   ·intro m;rw[Co,la (by simp[AM]),nL]
   ·intro m i hi tv;obtain⟨c,hc,sL⟩:=Bz hi;have h1:=H7 sL;rw[Co,ld (by simp[AM];omega),BG hc];simp only[lS];rw[ih c (by omega) (by omega) (hI.kids c sL)];simp only[lS];rw[EC _ _ 40 (by simp;omega) (by simp;omega),BJ (by omega) (by omega),show ((i:Int)+1)=((i+1:Nat):Int) by omega];simp only[lS];rw[<- D8 hc];exact tv
  have:=key N 0 (mB _) (by omega);rw[nE,qU]at this;rw[this,Int.add_zero,BJ (by omega) (by omega)];have hn:((
   Option.bind (
    if (decide (e.op=12))=true then
     some (decide (0<=e.num))
    else
     some false
   ) λt25=>
   if t25=true then
    some e.num
   else
    some e.num
  ).bind λf3=>(some e.kids).bind λl11=>some (AE.mk e.op f3 l11))=some (AE.mk e.op e.num e.kids):=by
   by_cases h:e.op=12
   ·rw[ld (by simpa using h)];simp
   ·rw[la (by simpa using h)];simp
  rw[hn,<- HS]
theorem Xb {N:Nat}(hN:2000000<=N){e:AE}(hs:en e<=1000)(hI:An e):Ik N e=some e:=by
 unfold Ik Gz;rw[Z3 hN N e (by omega) hs hI];rfl
end RC
namespace RC
open Go
theorem TN {N:Nat}(hN:2000000<=N){p:AP}(hd:p.decls.length<=1048576)(hz :∀d∈p.decls,dz d<=1048576)(hf:p.funcs.length<=1048576)(hb :∀f∈p.funcs,f.params.length<=1048576/\en f.body<=1000/\An f.body):HD N p=some p:=by
 unfold HD;rw[WM hd hz hN];simp only[lS];have key:∀(M i:Nat),i<=p.funcs.length->p.funcs.length-i<M->DQ N p M i (p.funcs.take i)=some p.funcs:=by
  intro M i hi hM;refine Bh p.funcs.length (λM i=>DQ N p M i (p.funcs.take i)=some p.funcs) ?_ ?_ hi hM
  ·intro m;rw[DQ,la (by simp[AM]),nL]
  ·intro m i hi ih;obtain⟨f,uD,hfm⟩:=Bz hi;obtain⟨b1,b2,b3⟩:=hb f hfm;rw[DQ,ld (by simp[AM];omega),BG uD];simp only[lS];have vK:CQ f.params=some f.params:=by
    unfold CQ;rw[EC _ _ _ (by simp;omega) (by simp;omega)];rfl
   rw[vK,Xb hN b2 b3];simp only[lS];rw[EC _ _ 72 (by simp;omega) (by simp;omega),BJ (by omega) (by omega),show ((i:Int)+1)=((i+1:Nat):Int) by omega];simp only[lS];have e:Ac.mk f.params f.result f.body=f:=by cases f;rfl
   rw[e,<- D8 uD];exact ih
 have:=key N 0 (mB _) (by omega);rw[nE,qU]at this;rw[this];cases p;rfl
end RC
namespace RC
open Go
end RC
namespace RC
open Go
end RC
namespace RC
open Go
end RC
namespace RC
open Go
section
variable {p : AP} {R1 : AP -> List Int -> AE -> Option Int} {R2 : List Int -> BQ -> AE -> Option Int} {T : List Int -> AE -> Int} {e : AE} {v : List Int} {N : Nat}
end
theorem gQ {p:AP}(S:D9 p){N:Nat}(hN:2000000<=N)(hv:Be N p=some true):EP p.decls p.funcs/\∃T,TT p N T/\∀f∈p.funcs,en f.body<=30/\IA p f.body f.params/\DL p.decls f.result=true/\T f.params f.body=f.result:=by
 obtain⟨b,h1,_,h3⟩:=G9 S hN;rw[hv]at h1;cases h1;obtain⟨SO,wg⟩:=h3 rfl;obtain⟨T,hT⟩:=N1 SO hN 31;have hl:=S.KK;refine⟨SO,T,hT,λf hf=>?_⟩;obtain⟨q1,q2,q3⟩:=SO.OS f hf;have he:=wg f hf;have V:IA p f.body f.params:=⟨by omega,q2,by omega,(S.fin hf).body⟩
 have L1:=E0 (l:=p.funcs) (Bp N p) (λ_ f=>Gs p T f) (λn=>by rw[Bp,la (by simp[AM])]) (λn i f hi=>by
  have rv:=(lV.1 hi).1;have hf:=lT hi;obtain⟨q1,q2,q3⟩:=SO.OS f hf;have he:=wg f hf;have ty:Jc N p f.params f.body=some (T f.params f.body):=(hT f.params f.body (S.fin hf).body (by omega) (by omega) q2 N N (by omega) (by omega)).1;rw[Bp,ld (by simp[AM];omega),BG hi];simp only[lS];rw[GG (S.fz hf).2 hN,BJ (by omega) (by omega),show ((i:Int)+1)=((i+1:Nat):Int) by omega];simp only[lS];unfold Gs;rw[ld he,la (by simp),ty];by_cases hr:T f.params f.body=f.result<;>simp[he,hr]) (by omega:p.funcs.length<N)
 rw[Ft]at L1;have hs:p.funcs.all (Gs p T)=true:=by
  unfold Be at hv;rw[Mj S hN]at hv;simp only[lS]at hv;cases uW:Lt p with
  | false=>rw[uW]at hv;simp at hv
  | true=>
   rw[uW]at hv;simp only[nA,lY,mC]at hv;rw[L1,E6]at hv;cases hb:p.funcs.all (Gs p T) with
   | true=>rfl
   | false=>rw[hb]at hv;simp at hv
 have hb:=lh.1 hs f hf;unfold Gs at hb;simp only[mE,lq]at hb;exact⟨he,V,q3,hb.2⟩
end RC
namespace RC
open Go
end RC
namespace RC
open Go
end RC
namespace RC
open Go
section
variable {p : AP} {R1 : AP -> List Int -> AE -> Option Int} {R2 : List Int -> BQ -> AE -> Option Int} {T : List Int -> AE -> Int} {e : AE} {v : List Int} {N : Nat}
theorem Wa (H:KV p (Er p) R1 R2 T (en e))(V:IA p e v)(h:e.op=13){a b:AE}(hk:e.kids=[a,b])(hn:e.num=0)(ha:T v a≠-1):
  Ap N R2 v (Er p) e=some (T (v++[T v a]) b)/\DL p.decls (T v a)=true:=by
 have hv:v.length<=1000:=by have:=V.len;omega
 have rZ:a∈e.kids:=by rw[hk];simp
 have tw:b∈e.kids:=by rw[hk];simp
 obtain⟨a1,a2,a3⟩:=H v a (V.CZ.kids a rZ) (Cs rZ) (V.JF rZ) V.H6;have vp:DL p.decls (T v a)=true:=a3.resolve_left ha;have h0:¬ T v a<0:=by have:=(Jk vp).1;omega
 have g0:Sh.get e.kids 0=some a:=by rw[hk];rfl
 have g1:Sh.get e.kids 1=some b:=by rw[hk];rfl
 obtain⟨b1,b2,b3⟩:=H (v++[T v a]) b (V.CZ.kids b tw) (Cs tw) (V.more tw (by simp)) (V.V5 (by simp[vp]));refine⟨?_,vp⟩;unfold Ap;simp only[h,Int.reduceEq,lr,lx,lY,mL,mC];rw[g0,g1];have hl:((e.kids.length:Int)=2):=by rw[hk];rfl
 simp only[lS,AM,hl,hn,lr,nA,lY,mC];rw[a2];simp only[lS,h0,lx,lY,mC];rw[EC v [T v a] 8 (by simp;omega) (by simp;omega)];simp only[lS,b2]
theorem Wp (H:KV p (Er p) R1 R2 T (en e))(V:IA p e v)(h:e.op=13){t:Int}(hB:Ap N R2 v (Er p) e=some t)(ht:t≠-1):
  ∃a b,e.kids=[a,b]/\e.num=0/\T v a≠-1/\DL p.decls (T v a)=true/\t=T (v++[T v a]) b:=by
 have hB0:=hB;unfold Ap at hB;simp only[h,Int.reduceEq,lr,lx,lY,mL,mC]at hB;by_cases hl:e.kids.length=2
 ·obtain⟨a,b,hk⟩ :∃a b,e.kids=[a,b]:=by
   match hk:e.kids,hl with
   | [a,b],_=>exact⟨a,b,rfl⟩
  have rZ:a∈e.kids:=by rw[hk];simp
  obtain⟨a1,a2,a3⟩:=H v a (V.CZ.kids a rZ) (Cs rZ) (V.JF rZ) V.H6;by_cases hn:e.num=0
  ·by_cases ha:T v a=-1
   ·exfalso;have g0:Sh.get e.kids 0=some a:=by rw[hk];rfl
    rw[g0]at hB;simp only[lS,AM,hl]at hB;rw[a2]at hB;simp[hn,ha]at hB;exact ht hB.symm
   ·obtain⟨q1,q2⟩:=Wa (N:=N) H V h hk hn ha;rw[hB0]at q1;exact⟨a,b,hk,hn,ha,q2,by simpa using q1⟩
  ·simp[hn]at hB;exact absurd hB.symm ht
 ·have:¬ ((e.kids.length:Int)=2):=by omega
  simp[AM,this]at hB;exact absurd hB.symm ht
theorem cd (H:KV p (Er p) R1 R2 T (en e))(V:IA p e v)(hN:2000000<=N)(h:e.op=7){a b c:AE}(hk:e.kids=[a,b,c])(hn:e.num=0)(ha:T v a=0):
  Ap N R2 v (Er p) e=some (Lg [T v b,T v c]):=by
 have rZ:a∈e.kids:=by rw[hk];simp
 have tw:b∈e.kids:=by rw[hk];simp
 have hmc:c∈e.kids:=by rw[hk];simp
 obtain⟨a1,a2,a3⟩:=H v a (V.CZ.kids a rZ) (Cs rZ) (V.JF rZ) V.H6;have hl:((e.kids.length:Int)=3):=by rw[hk];rfl
 have g0:Sh.get e.kids 0=some a:=by rw[hk];rfl
 have g3:Sh.sl e.kids 1 3=some [b,c]:=by rw[hk];rfl
 have o:=KQ (ks:=[b,c]) (ms:=[[],[]]) H V hN (by intro k hk;simp only[lk,mK,mr]at hk;rcases hk with rfl|rfl<;>assumption) (by simp) rfl (by simp);have mk2:Sh.mk ([]:List Int) 2 24=some [[],[]]:=OX [] 2 24 (by omega) (by omega);unfold Ap;simp only[h,Int.reduceEq,lr,lx,lY,mL,mC];rw[g0];simp only[lS,AM,hl];rw[a2,g3,mk2];simp only[lS];rw[o];simp[hn,ha]
theorem VJ (H:KV p (Er p) R1 R2 T (en e))(V:IA p e v)(hN:2000000<=N)(h:e.op=7){t:Int}(hB:Ap N R2 v (Er p) e=some t)(ht:t≠-1):
  ∃a b c,e.kids=[a,b,c]/\e.num=0/\T v a=0/\t=T v b/\t=T v c:=by
 have hB0:=hB;unfold Ap at hB;simp only[h,Int.reduceEq,lr,lx,lY,mL,mC]at hB;by_cases hl:e.kids.length=3
 ·obtain⟨a,b,c,hk⟩ :∃a b c,e.kids=[a,b,c]:=by
   match hk:e.kids,hl with
   | [a,b,c],_=>exact⟨a,b,c,rfl⟩
  have rZ:a∈e.kids:=by rw[hk];simp
  obtain⟨a1,a2,a3⟩:=H v a (V.CZ.kids a rZ) (Cs rZ) (V.JF rZ) V.H6;by_cases hn:e.num=0
  ·by_cases ha:T v a=0
   ·have q:=cd H V hN h hk hn ha;rw[hB0]at q;have q:t=Lg [T v b,T v c]:=by simpa using q
    have wV:=T2 (l:=[T v b,T v c]) (by rw[<- q];exact ht);rw[Tc]at q;by_cases hcb:T v c=T v b
    ·rw[ld hcb]at q;exact⟨a,b,c,hk,hn,ha,q,by rw[hcb];exact q⟩
    ·rw[la hcb]at q;exact absurd q ht
   ·exfalso;have g0:Sh.get e.kids 0=some a:=by rw[hk];rfl
    rw[g0]at hB;simp only[lS,AM,hl]at hB;rw[a2]at hB;simp[hn,ha]at hB;exact ht hB.symm
  ·simp[hn]at hB;exact absurd hB.symm ht
 ·have:¬ ((e.kids.length:Int)=3):=by omega
  simp[AM,this]at hB;exact absurd hB.symm ht
def ZX (D:List AN)(T:List Int->AE->Int)(v C:List Int)(r:List AE):List Int:=List.zipWith (λm k=>T (v++m) k) (C.map (Fg D)) r
theorem VM (H:KV p (Er p) R1 R2 T (en e))(V:IA p e v)(S:EP p.decls p.funcs)(hN:2000000<=N)(h8:e.op=8){a:AE}{r:List AE}(sj:e.kids=a::r)(h0:Bu p.decls e.num≠[])(uU:r.length=(Bu p.decls e.num).length)(yQ:T v a=e.num):
  Ap N R2 v (Er p) e=some (Lg (ZX p.decls T v (Bu p.decls e.num) r)):=by
 have tm:=V.LW;have hD:=S.NM;have hn:=S.nc;have zB:=KD S.Q6 e.num;unfold Ap;simp only[h8,Int.reduceEq,lr,lx,lY,mL,mC];rw[show (Er p).decls=p.decls from rfl,HN (by omega) (by omega) hN];simp only[lS];generalize hCe:Bu p.decls e.num=C at *;have xR:∀c∈C,Bw N p.decls c=some (Fg p.decls c)/\EO N p.decls c=some (Fg p.decls c)/\(Fg p.decls c).length<=3/\∀x∈Fg p.decls c,DL p.decls x=true:=λc hc=>Nb S (hCe▸hc) hN;have h1:e.kids.length=1+C.length:=by rw[sj];simp;omega
 have tC:((e.kids.length:Int)=1+(C.length:Int)):=by omega
 have rZ:a∈e.kids:=by rw[sj];simp
 have zC:∀k∈r,k∈e.kids:=λk hk=>by rw[sj];simp[hk]
 obtain⟨a1,a2,a3⟩:=H v a (V.CZ.kids a rZ) (Cs rZ) (V.JF rZ) V.H6;have g0:Sh.get e.kids 0=some a:=by rw[sj];rfl
 have g3:Sh.sl e.kids 1 (e.kids.length:Int)=some r:=by
  unfold Sh.sl;rw[ld ⟨by omega,by omega,by omega⟩,sj];simp
 have mkC:Sh.mk ([]:List Int) (C.length:Int) 24=some (List.replicate C.length []):=OX [] C.length 24 (by omega) (by omega);have o:=KQ (ks:=r) (ms:=C.map (Fg p.decls)) H V hN zC (by omega) (by simp[uU]) (by
  intro m hm;obtain⟨c,hc,rfl⟩:=mA.1 hm;exact (xR c hc).2.2)
 have FL:=Og (p:=p) S hN zB λc hc=>(xR c hc).2.1;rw[AM C,AM e.kids,BJ (n:=1+(C.length:Int)) (by omega) (by omega),g0,g3,mkC];simp only[lS];rw[a2,FL];simp only[lS];rw[o];simp[h0,tC,yQ,ZX]
theorem KI (H:KV p (Er p) R1 R2 T (en e))(V:IA p e v)(S:EP p.decls p.funcs)(hN:2000000<=N)(h8:e.op=8){t:Int}(hB:Ap N R2 v (Er p) e=some t)(ht:t≠-1):
  ∃a r,e.kids=a::r/\Bu p.decls e.num≠[]/\r.length=(Bu p.decls e.num).length/\T v a=e.num/\t=Lg (ZX p.decls T v (Bu p.decls e.num) r):=by
 have hB0:=hB;have tm:=V.LW;have hD:=S.NM;have hn:=S.nc;have zB:=KD S.Q6 e.num;unfold Ap at hB;simp only[h8,Int.reduceEq,lr,lx,lY,mL,mC]at hB;rw[show (Er p).decls=p.decls from rfl,HN (by omega) (by omega) hN]at hB;simp only[lS]at hB;have mv:=λa r=>VM (a:=a) (r:=r) H V S hN h8;rw[AM (Bu p.decls e.num),AM e.kids,BJ (n:=1+((Bu p.decls e.num).length:Int)) (by omega) (by omega)]at hB;by_cases h0:(Bu p.decls e.num)=[]
 ·simp[h0]at hB;exact absurd hB.symm ht
 ·have uX:¬ (((Bu p.decls e.num).length:Int)=0):=by
   intro q;exact h0 (mY (by omega))
  by_cases h1:e.kids.length=1+(Bu p.decls e.num).length
  ·have tC:((e.kids.length:Int)=1+((Bu p.decls e.num).length:Int)):=by omega
   obtain⟨a,r,sj⟩ :∃a r,e.kids=a::r:=by
    cases hq:e.kids with
    | nil=>rw[hq]at h1;simp at h1;omega
    | cons a r=>exact⟨a,r,rfl⟩
   have uU:r.length=(Bu p.decls e.num).length:=by rw[sj]at h1;simp at h1;omega
   have rZ:a∈e.kids:=by rw[sj];simp
   obtain⟨a1,a2,a3⟩:=H v a (V.CZ.kids a rZ) (Cs rZ) (V.JF rZ) V.H6;by_cases yQ:T v a=e.num
   ·have q:=mv a r sj h0 uU yQ;rw[hB0]at q;exact⟨a,r,sj,h0,uU,yQ,by simpa using q⟩
   ·exfalso;have g0:Sh.get e.kids 0=some a:=by rw[sj];rfl
    rw[g0]at hB;simp only[lS]at hB;rw[a2]at hB;simp[h0,tC,yQ]at hB;exact ht hB.symm
  ·have tC:¬ ((e.kids.length:Int)=1+((Bu p.decls e.num).length:Int)):=by omega
   simp[h0,tC]at hB;exact absurd hB.symm ht
theorem TJ {l:List Int}{t:Int}(h:t=Lg l)(ht:t≠-1):∀x∈l,x=t:=by
 cases l with
 | nil=>intro x hx;cases hx
 | cons a r=>
  simp only[Lg]at h;by_cases hr:r.all (λx=>decide (x=a))=true
  ·rw[ld hr]at h;intro x hx;rcases lk.1 hx with rfl|hx
   ·exact h.symm
   ·have:=lh.1 hr x hx;simp only[lq]at this;rw[this,h]
  ·rw[la hr]at h;exact absurd h ht
def Ht (D:List AN)(o nu:Int)(i:Nat):Nat:=if o=13/\i=1 then 1 else if o=8/\0<i then (Fg D (((Bu D nu)[i-1]?).getD 0)).length else 0
theorem R3 {e':AE}{v':List Int}(H:KV p (Er p) R1 R2 T (en e))(H':KV p (Er p) R1 R2 T (en e'))(V:IA p e v)(V':IA p e' v')(S:EP p.decls p.funcs)(hN:2000000<=N){t:Int}(hB:Ap N R2 v (Er p) e=some t)(ht:t≠-1)
  (ho:e'.op=e.op) (hn:e'.num=e.num) (sk:e.op≠12) (hl:e'.kids.length=e.kids.length)
  (hf :∀(i:Nat) k k',e.kids[i]?=some k->e'.kids[i]?=some k'->∀m:List Int,m.length=Ht p.decls e.op e.num i->m.length<=3->(∀x∈m,DL p.decls x=true)->T (v++m) k≠-1->T (v'++m) k'=T (v++m) k) :
  Ap N R2 v' (Er p) e'=some t:=by
 have yR:∀(i:Nat) k k',e.kids[i]?=some k->e'.kids[i]?=some k'->Ht p.decls e.op e.num i=0->T v k≠-1->T v' k'=T v k:=λi k k' hk sS hx h=>by
  have:=hf i k k' hk sS [] (by rw[hx];rfl) (by simp) (λx hx=>(by cases hx)) (by simpa using h);simpa using this
 by_cases h13:e.op=13
 ·obtain⟨a,b,q1,q2,q3,q4,q5⟩:=Wp H V h13 hB ht;obtain⟨a',b',sS⟩ :∃a' b',e'.kids=[a',b']:=by
   match hq:e'.kids,hl with
   | [a',b'],_=>exact⟨a',b',rfl⟩
   | [],hl=>rw[q1]at hl;simp at hl
   | [_],hl=>rw[q1]at hl;simp at hl
   | _::_::_::_,hl=>rw[q1]at hl;simp at hl
  have e1:=yR 0 a a' (by rw[q1];rfl) (by rw[sS];rfl) (by simp[Ht,h13]) q3;have e2:=hf 1 b b' (by rw[q1];rfl) (by rw[sS];rfl) [T v a] (by simp[Ht,h13]) (by simp) (by simp[q4]) (by rw[<- q5];exact ht);have:=(Wa (N:=N) H' V' (by rw[ho];exact h13) sS (by rw[hn];exact q2) (by rw[e1];exact q3)).1;rw[this,e1,e2,<- q5]
 by_cases h7:e.op=7
 ·obtain⟨a,b,c,q1,q2,q3,q4,q5⟩:=VJ H V hN h7 hB ht;obtain⟨a',b',c',sS⟩ :∃a' b' c',e'.kids=[a',b',c']:=by
   match hq:e'.kids,hl with
   | [a',b',c'],_=>exact⟨a',b',c',rfl⟩
   | [],hl=>rw[q1]at hl;simp at hl
   | [_],hl=>rw[q1]at hl;simp at hl
   | [_,_],hl=>rw[q1]at hl;simp at hl
   | _::_::_::_::_,hl=>rw[q1]at hl;simp at hl
  have hx:∀i,Ht p.decls e.op e.num i=0:=λi=>by simp[Ht,h7]
  have e1:=yR 0 a a' (by rw[q1];rfl) (by rw[sS];rfl) (hx _) (by rw[q3];omega);have e2:=yR 1 b b' (by rw[q1];rfl) (by rw[sS];rfl) (hx _) (by rw[<- q4];exact ht);have e3:=yR 2 c c' (by rw[q1];rfl) (by rw[sS];rfl) (hx _) (by rw[<- q5];exact ht);have:=cd H' V' hN (by rw[ho];exact h7) sS (by rw[hn];exact q2) (by rw[e1];exact q3);rw[this,e2,e3,<- q4,<- q5,Tc,ld rfl]
 by_cases h8:e.op=8
 ·obtain⟨a,r,q1,q2,q3,q4,q5⟩:=KI H V S hN h8 hB ht;have tx:e.num≠-1:=λq=>q2 (by rw[q];simp[Bu]);obtain⟨a',r',sS⟩ :∃a' r',e'.kids=a'::r':=by
   match hq:e'.kids,hl with
   | a'::r',_=>exact⟨a',r',rfl⟩
   | [],hl=>rw[q1]at hl;simp at hl
  have uU:r'.length=r.length:=by rw[sS,q1]at hl;simpa using hl
  have e1:=yR 0 a a' (by rw[q1];rfl) (by rw[sS];rfl) (by simp[Ht,h8]) (by rw[q4];exact tx);have:=VM H' V' S hN (by rw[ho];exact h8) sS (by rw[hn];exact q2) (by rw[hn,uU];exact q3) (by rw[hn,e1];exact q4);rw[this,hn,q5];have al:=TJ q5 ht;congr 2;unfold ZX at al⊢;apply nO;intro i;rw[nN,nN,lW];cases hc:(Bu p.decls e.num)[i]? with
  | none=>rfl
  | some c=>
   cases hr:r[i]? with
   | none=>
    have:r'[i]?=none:=by rw[nz]at hr⊢;omega
    rw[this];rfl
   | some k=>
    have rv:=(lV.1 hr).1;have ry:r'[i]?=some r'[i]:=lZ (by omega);have sL:=lT hc;have F:=Nb S sL hN;have:=al (T (v++Fg p.decls c) k) (lv.2 ⟨i,by rw[nN,lW,hc,hr];rfl⟩);have g:=hf (i+1) k r'[i] (by rw[q1];exact hr) (by rw[sS];exact ry) (Fg p.decls c) (by simp[Ht,h8,hc]) F.2.2.1 F.2.2.2 (by rw[this];exact ht);rw[ry];show some (T (v'++Fg p.decls c) r'[i])=some (T (v++Fg p.decls c) k);rw[g]
 have hb:=hB;rw[FQ H V hN sk h13 h7 h8]at hb;rw[FQ H' V' hN (by rw[ho];exact sk) (by rw[ho];exact h13) (by rw[ho];exact h7) (by rw[ho];exact h8),ho,hn];have:e'.kids.map (T v')=e.kids.map (T v):=by
  apply nO;intro i;rw[lW,lW];cases hk:e.kids[i]? with
  | none=>
   have:e'.kids[i]?=none:=by rw[nz]at hk⊢;omega
   rw[this];rfl
  | some k=>
   have rv:=(lV.1 hk).1;have sS:e'.kids[i]?=some e'.kids[i]:=lZ (by omega);rw[sS];have:=yR i k _ hk sS (by simp[Ht,h13,h8]) λq=>by
    rw[ld (oC.2 ⟨T v k,nC (lT hk),by rw[q];rfl⟩)]at hb;simp at hb;exact ht hb.symm
   show some (T v' e'.kids[i])=some (T v k);rw[this]
 rw[this];exact hb
end
end RC
namespace RC
open Go
structure VX (p:AP) (e:AE) (v:List Int):Prop where
 len:v.length+3*en e<=900
 H6 :∀x∈v,DL p.decls x=true
 CZ:An e
theorem VX.N3 {p:AP}{e:AE}{v:List Int}(V:VX p e v):IA p e v:=⟨by have:=V.len;omega,V.H6,by have:=V.len;omega,V.CZ⟩
def TX (p:AP)(N:Nat)(T:List Int->AE->Int):Prop:=∀(v:List Int) (e:AE),An e->en e<340->v.length+3*en e<=1000->(∀x∈v,DL p.decls x=true)->
  ∀n1 n2,340<=n1->340<=n2->Cj N n1 p v e=some (T v e)/\Bf N n2 v (Er p) e=some (T v e)/\(T v e=-1∨DL p.decls (T v e)=true)
section
variable {p : AP} {N : Nat} {T : List Int -> AE -> Int} {e : AE} {v : List Int}
theorem TX.tok (hT:TX p N T){m:Nat}(hm:m<=340):KV p (Er p) (Cj N 340) (Bf N 340) T m:=λv e a b c d=>hT v e a (by omega) c d 340 340 (ll _) (ll _)
theorem TX.bi (hT:TX p N T)(V:VX p e v):Ap N (Bf N 340) v (Er p) e=some (T v e):=by
 have h:=V.len;have:=(hT v e V.CZ (by omega) (by omega) V.H6 341 341 (by omega) (by omega)).2.1;rwa [Bf]at this
theorem TX.bs (hT:TX p N T)(V:VX p e v):Bo N (Cj N 340) p v e=some (T v e):=by
 have h:=V.len;have:=(hT v e V.CZ (by omega) (by omega) V.H6 341 341 (by omega) (by omega)).1;rwa [Cj]at this
theorem TX.ty (hT:TX p N T)(V:VX p e v)(h:T v e≠-1):DL p.decls (T v e)=true:=by
 have h1:=V.len;exact ((hT v e V.CZ (by omega) (by omega) V.H6 341 341 (by omega) (by omega)).2.2).resolve_left h
theorem TX.H (hT:TX p N T)(V:VX p e v):KV p (Er p) (Cj N 340) (Bf N 340) T (en e):=hT.tok (by have:=V.len;omega)
theorem VX.JF (V:VX p e v){k:AE}(hk:k∈e.kids){m:List Int}(hm:m.length<=3)(ht :∀x∈m,DL p.decls x=true):VX p k (v++m):=by
 have h:=V.len;have vf:=Cs hk;refine⟨by rw[mD];omega,λx hx=>?_,V.CZ.kids k hk⟩;rcases lz.1 hx with hx|hx
 ·exact V.H6 x hx
 ·exact ht x hx
theorem VX.jE (V:VX p e v){k:AE}(hk:k∈e.kids):VX p k v:=by
 have:=V.JF hk (m:=[]) (by simp) (λx hx=>by cases hx);simpa using this
theorem TX.var (hT:TX p N T)(V:VX p e v)(h:e.op=12):T v e=if e.kids=[]/\0<=e.num/\e.num<(v.length:Int) then (v[e.num.toNat]?).getD (-1) else -1:=by
 have q:=hT.bi V;unfold Ap at q;simp only[h,lr,mL]at q;by_cases hk:e.kids=[]
 ·rw[hk]at q⊢;by_cases h0:e.num<0
  ·have:¬ (0<=e.num):=by omega
   simp[AM,h0]at q;simp[this,<- q]
  ·by_cases h1:(v.length:Int)<=e.num
   ·have:¬ (e.num<(v.length:Int)):=by omega
    simp[AM,h0,h1]at q;simp[this,<- q]
   ·obtain⟨x,hx1,xn⟩:=Py (l:=v) (j:=e.num) (by omega) (by omega);have a1:0<=e.num:=by omega
    have a2:e.num<(v.length:Int):=by omega
    simp only[AM,nD,h0,h1,lx,lY,mC,lS]at q;rw[hx1]at q;rw[ld ⟨rfl,a1,a2⟩,xn];simpa using q.symm
 ·have:0<Sh.len e.kids:=by rw[AM];have:=pG.2 hk;omega
  simp only[this,lr,mL,lS,lX]at q;simp[hk,<- q]
end
mutual
def sh (n k:Int):AE->AE|.mk o nu ks=>.mk o (if o=12/\n<=nu then nu+k else nu) (shl n k ks)
def shl (n k:Int):List AE->List AE|[]=>[]|e::l=>sh n k e::shl n k l
end
theorem cQ {n k:Int}:∀l,shl n k l=l.map (sh n k)
 | []=>by simp[shl]
 | e::l=>by simp[shl,cQ l]
theorem Tq {n k:Int}(e:AE):sh n k e=.mk e.op (if e.op=12/\n<=e.num then e.num+k else e.num) (e.kids.map (sh n k)):=by cases e;simp only[sh,cQ];rfl
theorem Ov {n k:Int}(e:AE):(sh n k e).op=e.op:=by rw[Tq];rfl
theorem O6 {n k:Int}(e:AE):(sh n k e).num=if e.op=12/\n<=e.num then e.num+k else e.num:=by rw[Tq];rfl
theorem Lm {n k:Int}(e:AE):(sh n k e).kids=e.kids.map (sh n k):=by rw[Tq];rfl
mutual
theorem bq {n k:Int}:∀e,en (sh n k e)=en e
 | .mk o nu ks=>by simp only[sh,en,Zo ks]
theorem Zo {n k:Int}:∀l,CM (shl n k l)=CM l
 | []=>rfl
 | e::l=>by simp only[shl,CM,bq e,Zo l]
end
section
variable {p : AP} {N : Nat} {T : List Int -> AE -> Int}
theorem eX (S:EP p.decls p.funcs)(hN:2000000<=N)(hT:TX p N T)(v d:List Int)(hd :∀x∈d,DL p.decls x=true):∀(c:Nat) (e:AE) (w:List Int),en e<=c->VX p e (v++w)->v.length+d.length+w.length+3*en e<=900->T (v++w) e≠-1->
  T (v++d++w) (sh v.length d.length e)=T (v++w) e/\An (sh v.length d.length e):=by
 intro c
 induction c with
 | zero=>intro e w h;have:=F8 e;omega
 | succ c ih=>
  intro e w hc V hl ht;have K:∀k∈e.kids,An (sh v.length d.length k):=λk hk=>by
   obtain⟨m,m1,m2,m3⟩:=Z2 (hT.H V) V.N3 S hN (hT.bi V) ht k hk;have vf:=Cs hk;have:=ih k (w++m) (by omega) (by rw[<- my];exact V.JF hk m1 m2) (by simp;omega) (by rw[<- my];exact m3);exact this.2
  have hI:=V.CZ;have Vt:∀x∈v++d++w,DL p.decls x=true:=λx hx=>by
   rcases lz.1 hx with hx|hx
   ·rcases lz.1 hx with hx|hx
    ·exact V.H6 x (by simp[hx])
    ·exact hd x hx
   ·exact V.H6 x (by simp[hx])
  have CZ:An (sh v.length d.length e):=by
   have yc:=hI.op;have tx:=hI.num;have tm:=hI.LW;refine .mk (by rw[Ov];exact yc) ?_ (by rw[Lm];simpa using tm) (λk hk=>?_)
   ·rw[O6];by_cases sk:e.op=12
    ·have q:=hT.var V sk;by_cases hr:e.kids=[]/\0<=e.num/\e.num<((v++w).length:Int)
     ·have hlv:=V.len;split
      ·have h1:=hr.2.2;have h2:=hr.2.1;unfold G3 at *;omega
      ·exact tx
     ·rw[la hr]at q;exact absurd q ht
    ·rw[la (λh=>sk h.1)];exact tx
   ·rw[Lm]at hk;obtain⟨k0,zD,rfl⟩:=mA.1 hk;exact K k0 zD
  have V':VX p (sh v.length d.length e) (v++d++w):=⟨by rw[bq];simp;omega,Vt,CZ⟩
  refine⟨?_,CZ⟩;by_cases sk:e.op=12
  ·have q:=hT.var V sk;have q':=hT.var V' (by rw[Ov];exact sk);by_cases hr:e.kids=[]/\0<=e.num/\e.num<((v++w).length:Int)
   ·obtain⟨r1,r2,r3⟩:=hr;rw[ld ⟨r1,r2,r3⟩]at q;rw[q,q'];rw[Lm,O6,r1,nV];simp only[sk,true_and];simp only[mD]at r3;by_cases hv:(v.length:Int)<=e.num
    ·rw[ld hv,ld ⟨by omega,by simp only[mD];omega⟩];have e1:(e.num+(d.length:Int)).toNat=e.num.toNat+d.length:=by omega
     rw[e1,ln (by simp;omega),ln (by omega)];congr 2;simp;omega
    ·rw[la hv,ld ⟨by omega,by simp only[mD];omega⟩];rw[my,lj (by omega),lj (by omega)]
   ·rw[la hr]at q;exact absurd q ht
  ·have hB:=R3 (e':=sh v.length d.length e) (v':=v++d++w) (hT.H V) (hT.H V') V.N3 V'.N3 S hN (hT.bi V) ht (Ov e) (by rw[O6,la (λh=>sk h.1)]) sk (by rw[Lm];simp) (λi k k' hk sS m _ hm3 hmt hkt=>by
    rw[Lm,lW,hk]at sS;obtain rfl:sh v.length d.length k=k':=by simpa using sS
    have sy:=lT hk;have vf:=Cs sy;rw[my v w m]at hkt⊢;rw[my (v++d) w m];exact (ih k (w++m) (by omega) (by rw[<- my];exact V.JF sy hm3 hmt) (by simp;omega) hkt).1)
   have:=hT.bi V';rw[hB]at this;exact (nT this).symm
def lt (n:Nat):Nat->List AE->AE->AE
 | _,[],b=>b
 | k,x::r,b=>.mk 13 0 [sh n k x,lt n (k+1) r b]
theorem bK {n:Nat}:∀(xs:List AE) (k:Nat) (b:AE),en (lt n k xs b)=xs.length+CM xs+en b
 | [],k,b=>by simp[lt,CM]
 | x::r,k,b=>by
  simp only[lt,en,CM,bq,bK r,mN];omega
theorem gU (S:EP p.decls p.funcs)(hN:2000000<=N)(hT:TX p N T)(v:List Int)(hv :∀x∈v,DL p.decls x=true):∀(xs:List AE) (d:List Int) (b:AE),(∀x∈d,DL p.decls x=true)->v.length+d.length+3*(xs.length+CM xs+en b)<=900->(∀x∈xs,An x/\T v x≠-1)->An b->
  T (v++d) (lt v.length d.length xs b)=T (v++d++xs.map (T v)) b/\An (lt v.length d.length xs b)
 | [],d,b,_,_,_,hb=>by simp[lt,hb]
 | x::r,d,b,hd,hl,hx,hb=>by
  obtain⟨x1,x2⟩:=hx x (by simp);simp only[mN,CM]at hl;have hep:=F8 x;have Vx:VX p x (v++[]):=⟨by simp;omega,by simpa using hv,x1⟩
  have s:=eX S hN hT v d hd (en x) x [] (ll _) Vx (by simp;omega) (by simpa using x2);rw[mn,mn]at s;have htx:DL p.decls (T v x)=true:=by
   have:=hT.ty Vx (by simpa using x2);simpa using this
  have hd' :∀y∈d++[T v x],DL p.decls y=true:=λy hy=>by
   rcases lz.1 hy with hy|hy
   ·exact hd y hy
   ·simp only[lu]at hy;rw[hy];exact htx
  have r1:=gU S hN hT v hv r (d++[T v x]) b hd' (by simp;omega) (λy hy=>hx y (by simp[hy])) hb;rw[mD,List.length_singleton]at r1;have CZ:An (lt v.length d.length (x::r) b):=by
   refine .mk (show G3 13 by unfold G3;omega) (show G3 0 by unfold G3;omega) (by simp[lt,AE.kids]) (λk hk=>?_);simp only[lt,AE.kids,lk,mK,mr]at hk;rcases hk with rfl|rfl
   ·exact s.2
   ·exact r1.2
  have wg:=bK (n:=v.length) (x::r) d.length b;simp only[mN,CM]at wg;have V:VX p (lt v.length d.length (x::r) b) (v++d):=⟨by rw[wg,mD];omega,λy hy=>by
   rcases lz.1 hy with hy|hy
   ·exact hv y hy
   ·exact hd y hy,CZ⟩
  refine⟨?_,CZ⟩;have q:=(Wa (N:=N) (hT.H V) V.N3 rfl (a:=sh v.length d.length x) (b:=lt v.length (d.length+1) r b) rfl rfl (by rw[s.1];exact x2)).1;rw[hT.bi V]at q;rw[nT q,s.1];have:=r1.1;rw[<- my]at this;rw[this];simp
end
end RC
namespace RC
open Go
def XP (x:Int):Int:=if x < -999 then -999 else if 999<x then 999 else x
def Vj (o a b:Int):Int:=if o=1 then XP (a+b) else if o=2 then XP (a-b) else if o=3 then XP (a*b) else if a<b then 1 else 0
def ci (D:List AN)(t c:Int):Nat:=(c-(nc (D.take (t-1).toNat):Int)).toNat
def Ho (D:List AN)(n:Nat)(o nu:Int)(l:List AE):AE:=
 if o=1∨o=2∨o=3∨o=4 then
  match l with
  | a::b::_=>if a.op=0/\b.op=0 then .mk 0 (Vj o a.num b.num) [] else .mk o nu l
  | _=>.mk o nu l
 else if o=7 then
  match l with
  | a::b::c::_=>if a.op=0 then (if a.num=0 then c else b) else .mk o nu l
  | _=>.mk o nu l
 else if o=8 then
  match l with
  | a::r=>if a.op=6 then (match r[ci D nu a.num]? with|some b=>lt n 0 a.kids b|none=>.mk o nu l) else .mk o nu l
  | _=>.mk o nu l
 else .mk o nu l
mutual
def fd (D:List AN)(n:Nat):AE->AE
 | .mk o nu k=>Ho D n o nu (KU D n o nu 0 k)
def KU (D:List AN)(n:Nat)(o nu:Int):Nat->List AE->List AE
 | _,[]=>[]
 | i,e::l=>fd D (n+Ht D o nu i) e::KU D n o nu (i+1) l
end
theorem Vo {D:List AN}{n:Nat}(e:AE):fd D n e=Ho D n e.op e.num (KU D n e.op e.num 0 e.kids):=by cases e;rw[fd];rfl
theorem SC {D:List AN}{n:Nat}{o nu:Int}:∀(l:List AE) (i:Nat),(KU D n o nu i l).length=l.length
 | [],_=>rfl
 | e::l,i=>by simp[KU,SC l]
theorem Mt {D:List AN}{n:Nat}{o nu:Int}:∀(l:List AE) (j i:Nat),(KU D n o nu j l)[i]?=(l[i]?).map (fd D (n+Ht D o nu (j+i)))
 | [],j,i=>by simp[KU]
 | e::l,j,0=>by simp[KU]
 | e::l,j,i+1=>by
  simp only[KU,mQ];rw[Mt l (j+1) i,show j+1+i=j+(i+1) by omega]
theorem iw (x:Int):-999<=XP x/\XP x<=999:=by unfold XP;split<;>(try split)<;>omega
theorem gl (o a b:Int):-999<=Vj o a b/\Vj o a b<=999:=by
 unfold Vj
 repeat' split
 all_goals first|exact iw _|omega
theorem ZI:∀(D:List AN) (k c t:Nat) (x:De),Gl D k c=some (t,x)->∃d i,D[t-1-k]?=some d/\d.cons[i]?=some x/\c=nc (D.take (t-1-k))+i/\k<t
 | [],k,c,t,x,h=>by simp[Gl]at h
 | d::r,k,c,t,x,h=>by
  unfold Gl at h;cases hx:d.cons[c]? with
  | some y=>
   rw[hx]at h;simp only[lX,pA]at h;obtain⟨rfl,rfl⟩:=h;refine⟨d,c,by simp,hx,?_,by omega⟩;rw[show k+1-1-k=0 by omega];simp[nc]
  | none=>
   rw[hx]at h;have hc:d.cons.length<=c:=by simpa using hx
   obtain⟨d',i,h1,h2,h3,h4⟩:=ZI r (k+1) (c-d.cons.length) t x h;have e:t-1-k=(t-1-(k+1))+1:=by omega
   refine⟨d',i,by rw[e];simpa using h1,h2,?_,by omega⟩;rw[e,List.take_succ_cons];simp only[nc,mF,oJ]at h3⊢;omega
theorem UB {D:List AN}{c t:Nat}{x:De}(h:Gl D 0 c=some (t,x)):(Bu D (t:Int))[ci D (t:Int) (c:Int)]?=some (c:Int)/\nc (D.take (t-1))+ci D (t:Int) (c:Int)=c:=by
 obtain⟨d,i,h1,h2,h3,h4⟩:=ZI D 0 c t x h;rw[pI]at h1 h3;have rv:=(lV.1 h2).1;have uL:=(lV.1 h1).1;have e:((t:Int)-1).toNat=t-1:=by omega
 have eci:ci D (t:Int) (c:Int)=i:=by unfold ci;rw[e];omega
 refine⟨?_,by rw[eci];omega⟩;rw[eci];unfold Bu;rw[ld ⟨by omega,by omega⟩,e,h1,lW];simp only[ny];rw[nM rv];show some ((nc (D.take (t-1)):Int)+(i:Int))=_;congr 1;omega
theorem Ya {D:List AN}{t:Int}{i j:Nat}{c:Int}(h1:(Bu D t)[i]?=some c)(h2:(Bu D t)[j]?=some c):i=j:=by
 unfold Bu at h1 h2;split at h1
 ·rename_i h;rw[ld h]at h2;rw[lW,lg]at h1 h2;obtain⟨a,ha,h1⟩:=h1;obtain⟨b,hb,h2⟩:=h2;have ha1:=(lV.1 ha).1;have zO:=(lV.1 hb).1;rw[pR]at ha1 zO;rw[nM ha1]at ha;rw[nM zO]at hb;cases ha;cases hb;omega
 ·simp at h1
section
variable {p : AP} {N : Nat} {T : List Int -> AE -> Int} {e : AE} {v : List Int}
theorem WI (S:EP p.decls p.funcs)(hN:2000000<=N)(hT:TX p N T)(V:VX p e v)(h:e.op=6)(ht:T v e≠-1):
  ∃(c t:Nat) (x:De),e.num=(c:Int)/\Gl p.decls 0 c=some (t,x)/\T v e=(t:Int)/\e.kids.map (T v)=x.fields/\Fg p.decls (c:Int)=x.fields/\c<nc p.decls:=by
 have hD:=S.NM;have hn:=S.nc;have q:=hT.bs V;unfold Bo at q;simp only[h,Int.reduceEq,lr,lx,lY,mL,mC,lS]at q;by_cases hr:0<=e.num/\e.num<(nc p.decls:Int)
 ·obtain⟨c,hc⟩:=mS hr.1;have hc2:c<nc p.decls:=by omega
  obtain⟨t,x,e1,e2⟩:=Kw (D:=p.decls) (by omega) (by omega) hc2 hN;obtain⟨t',x',xZ,e3⟩:=HC (D:=p.decls) (by omega) (by omega) hc2 hN;rw[e1]at xZ;cases xZ;obtain⟨g1,g2,d,g3,g4⟩:=LL e1;rw[hc,e2,e3]at q;simp only[lS]at q;rw[QN (hT.H V) V.N3 hN,ld (by simp;omega)]at q;by_cases b:e.kids.map (T v)=x.fields
  ·simp[b,Sh.cont]at q;exact⟨c,t,x,hc,e1,q.symm,b,by simp[Fg,e1],hc2⟩
  ·simp[b,Sh.cont]at q;exact absurd q.symm ht
 ·rw[NX (by omega) (by omega) (by omega) hN]at q;simp[Sh.cont]at q;exact absurd q.symm ht
theorem iQ (hN:2000000<=N)(hT:TX p N T){z:Int}(h:-999<=z/\z<=999)(hv:v.length<=894)(hvt :∀x∈v,DL p.decls x=true):T v (.mk 0 z [])=0/\An (.mk 0 z []):=by
 have CZ:An (.mk 0 z []):=.mk (show G3 0 by unfold G3;omega) (show G3 z by unfold G3;omega) (by simp[AE.kids]) (λk hk=>by simp[AE.kids]at hk);have V:VX p (.mk 0 z []) v:=⟨by simp[en,CM];omega,hvt,CZ⟩
 have q:=hT.bs V;unfold Bo at q;simp only[AE.op,AE.kids,AE.num,Int.reduceEq,lr,mL,AM,nD,lS]at q;rw[EX]at q;simp[h.1,h.2,Sh.cont]at q;exact⟨q.symm,CZ⟩
theorem Wn (hN:2000000<=N)(hT:TX p N T)(V:VX p e v)(h:e.op=1∨e.op=2∨e.op=3∨e.op=4)(ht:T v e≠-1):T v e=0/\∃a b,e.kids=[a,b]:=by
 have q:=hT.bs V;have h0:¬ e.op=0:=by omega
 have sk:¬ e.op=12:=by omega
 have uM:(if decide (e.op=1)=true then some true else if decide (e.op=2)=true then some true else if decide (e.op=3)=true then some true else some (decide (e.op=4)))=some true:=by
  rcases h with h|h|h|h<;>simp[h]
 unfold Bo at q;simp only[h0,sk,lx,lY,mC]at q;rw[uM]at q;simp only[lS,mL]at q;by_cases hn:e.num=0
 ·simp only[hn,lr,mL]at q;have aq:=PT (hT.H V) V.N3 hN 2;rw[show ((2:Nat):Int)=2 from rfl]at aq;rw[aq]at q;by_cases hk:e.kids.map (T v)=List.replicate 2 0
  ·simp[hk,Sh.cont]at q;refine⟨q.symm,?_⟩;have:=mc List.length hk
   match hq:e.kids,this with
   | [a,b],_=>exact⟨a,b,rfl⟩
   | [],h=>simp at h
   | [_],h=>simp at h
   | _::_::_::_,h=>simp at h
  ·have sS:¬ e.kids.map (T v)=[0,0]:=hk;simp[sS,Sh.cont]at q;exact absurd q.symm ht
 ·simp[hn,Sh.cont]at q;exact absurd q.symm ht
end
end RC
namespace RC
open Go
theorem ir {D:List AN}{n:Nat}{o nu:Int}{l:List AE}(h3:o=8->∀a∈l,a.op=6->a.kids.length<=3):en (Ho D n o nu l)<=CM l+2:=by
 unfold Ho;split
 ·split
  ·split
   ·simp[en,CM]
   ·rw[en];omega
  ·rw[en];omega
 ·split
  ·split
   ·rename_i a b c r;split
    ·simp only[CM];have:=F8 a;split<;>omega
    ·rw[en];omega
   ·rw[en];omega
  ·split
   ·rename_i h8;split
    ·rename_i a r;split
     ·rename_i ha;split
      ·rename_i b hb;rw[bK];have:=h3 h8 a (by simp) ha;have hbm:=H7 (lT hb);have:=Fp a;simp only[CM];omega
      ·rw[en];omega
     ·rw[en];omega
    ·rw[en];omega
   ·rw[en];omega
section
variable {p : AP} {N : Nat} {T : List Int -> AE -> Int}
structure VF (p:AP) (e:AE) (v:List Int):Prop where
 len:v.length+6*en e<=900
 H6 :∀x∈v,DL p.decls x=true
 CZ:An e
theorem VF.x {e:AE}{v:List Int}(V:VF p e v):VX p e v:=⟨by have:=V.len;omega,V.H6,V.CZ⟩
theorem VF.JF {e:AE}{v:List Int}(V:VF p e v){k:AE}(hk:k∈e.kids){m:List Int}(hm:m.length<=3)(ht :∀x∈m,DL p.decls x=true):VF p k (v++m):=by
 have h:=V.len;have vf:=Cs hk;exact⟨by rw[mD];omega,(V.x.JF hk hm ht).H6,V.CZ.kids k hk⟩
theorem Pc (S:EP p.decls p.funcs)(hN:2000000<=N)(hT:TX p N T){e:AE}{v:List Int}(V:VX p e v)(ht:T v e≠-1){i:Nat}{k:AE}(hk:e.kids[i]?=some k):
  ∃m:List Int,m.length=Ht p.decls e.op e.num i/\m.length<=3/\(∀x∈m,DL p.decls x=true)/\T (v++m) k≠-1:=by
 have hB:=hT.bi V;have nil:Ht p.decls e.op e.num i=0->T v k≠-1->∃m:List Int,m.length=Ht p.decls e.op e.num i/\m.length<=3/\(∀x∈m,DL p.decls x=true)/\T (v++m) k≠-1:=λhx h=>⟨[],by rw[hx];rfl,by simp,λx hx=>(by cases hx),by simpa using h⟩;by_cases sk:e.op=12
 ·have q:=hT.var V sk;by_cases hr:e.kids=[]/\0<=e.num/\e.num<(v.length:Int)
  ·rw[hr.1]at hk;simp at hk
  ·rw[la hr]at q;exact absurd q ht
 by_cases h13:e.op=13
 ·obtain⟨a,b,q1,q2,q3,q4,q5⟩:=Wp (hT.H V) V.N3 h13 hB ht;rw[q1]at hk
  match i,hk with
  | 0,hk=>simp at hk;subst hk;exact nil (by simp[Ht,h13]) q3
  | 1,hk=>simp at hk;subst hk;exact⟨[T v a],by simp[Ht,h13],by simp,by simp[q4],by rw[<- q5];exact ht⟩
 by_cases h7:e.op=7
 ·obtain⟨a,b,c,q1,q2,q3,q4,q5⟩:=VJ (hT.H V) V.N3 hN h7 hB ht;have hx:Ht p.decls e.op e.num i=0:=by simp[Ht,h7]
  rw[q1]at hk
  match i,hk with
  | 0,hk=>simp at hk;subst hk;exact nil hx (by rw[q3];omega)
  | 1,hk=>simp at hk;subst hk;exact nil hx (by rw[<- q4];exact ht)
  | 2,hk=>simp at hk;subst hk;exact nil hx (by rw[<- q5];exact ht)
 by_cases h8:e.op=8
 ·obtain⟨a,r,q1,q2,q3,q4,q5⟩:=KI (hT.H V) V.N3 S hN h8 hB ht;have tx:e.num≠-1:=λq=>q2 (by rw[q];simp[Bu]);rw[q1]at hk
  match i,hk with
  | 0,hk=>simp at hk;subst hk;exact nil (by simp[Ht,h8]) (by rw[q4];exact tx)
  | i+1,hk=>
   simp only[mQ]at hk;have rv:=(lV.1 hk).1;have hc:(Bu p.decls e.num)[i]?=some (Bu p.decls e.num)[i]:=lZ (by omega);have F:=Nb S (lT hc) hN;have:=TJ q5 ht (T (v++Fg p.decls (Bu p.decls e.num)[i]) k) (lv.2 ⟨i,by unfold ZX;rw[nN,lW,hc,hk];rfl⟩);exact⟨_,by simp[Ht,h8,hc],F.2.2.1,F.2.2.2,by rw[this];exact ht⟩
 rw[FQ (hT.H V) V.N3 hN sk h13 h7 h8]at hB;by_cases h:(e.kids.map (T v)).any (λt=>decide (t<0))=true
 ·rw[ld h]at hB;simp at hB;exact absurd hB.symm ht
 ·exact nil (by simp[Ht,h13,h8]) λhq=>h (oC.2 ⟨T v k,nC (lT hk),by rw[hq];rfl⟩)
theorem iZ {e:AE}(h:An e){l:List AE}(hl:l.length=e.kids.length)(hk :∀k∈l,An k):An (.mk e.op e.num l):=
 .mk (show G3 e.op from h.op) (show G3 e.num from h.num) (by show l.length<=_;rw[hl];exact h.LW) hk
theorem gv (S:EP p.decls p.funcs)(hN:2000000<=N)(hT:TX p N T){v:List Int}{o nu:Int}{l:List AE}(V:VX p (.mk o nu l) v)(hl:v.length+3*(CM l+2)<=900)(ht:T v (.mk o nu l)≠-1):
  T v (Ho p.decls v.length o nu l)=T v (.mk o nu l)/\An (Ho p.decls v.length o nu l):=by
 have same:T v (.mk o nu l)=T v (.mk o nu l)/\An (.mk o nu l):=⟨rfl,V.CZ⟩
 have hlv:=V.len;unfold Ho;by_cases ha:o=1∨o=2∨o=3∨o=4
 ·rw[ld ha];split
  ·split
   ·obtain⟨h1,h2⟩:=iQ (v:=v) hN hT (gl o _ _) (by omega) V.H6;exact⟨by rw[h1,(Wn hN hT V ha ht).1],h2⟩
   ·exact same
  ·exact same
 rw[la ha];by_cases h7:o=7
 ·rw[ld h7];obtain⟨a,b,c,q1,q2,q3,q4,q5⟩:=VJ (hT.H V) V.N3 hN h7 (hT.bi V) ht;have q1:l=[a,b,c]:=q1;subst q1;dsimp only;split
  ·split
   ·exact⟨q5.symm,V.CZ.kids c (by simp[AE.kids])⟩
   ·exact⟨q4.symm,V.CZ.kids b (by simp[AE.kids])⟩
  ·exact same
 rw[la h7];by_cases h8:o=8
 ·rw[ld h8];obtain⟨a,r,q1,q2,q3,q4,q5⟩:=KI (hT.H V) V.N3 S hN h8 (hT.bi V) ht;have q1:l=a::r:=q1;subst q1;dsimp only;by_cases h6:a.op=6
  ·rw[ld h6];have tx:nu≠-1:=λq=>q2 (by show Bu p.decls nu=[];rw[q];simp[Bu]);have q4:T v a=nu:=q4;have Va:VX p a v:=V.jE (by simp[AE.kids]);obtain⟨c,t,x,c1,c2,c3,c4,c5,c6⟩:=WI S hN hT Va h6 (by rw[q4];exact tx);obtain⟨d1,d2⟩:=UB c2;rw[<- c3,q4,<- c1]at d1;have q3:r.length=(Bu p.decls nu).length:=q3;have rv:=(lV.1 d1).1;have hb:r[ci p.decls nu a.num]?=some r[ci p.decls nu a.num]:=lZ (by omega);rw[hb];dsimp only;have F:=Nb S (lT d1) hN;have tb:=TJ q5 ht (T (v++Fg p.decls a.num) r[ci p.decls nu a.num]) (lv.2 ⟨ci p.decls nu a.num,by
    show (List.zipWith _ ((Bu p.decls nu).map (Fg p.decls)) r)[_]?=_;rw[nN,lW,d1,hb];rfl⟩)
   have hbm:=H7 (lT hb);have hae:=Fp a;have uI:a.kids.length=(Fg p.decls a.num).length:=by
    rw[c1,c5,<- c4,ly]
   have hf3:=F.2.2.1;simp only[CM]at hl;have L:=gU S hN hT v V.H6 a.kids [] r[ci p.decls nu a.num] (by simp) (by simp;omega) (λy hy=>⟨Va.CZ.kids y hy,λhq=>by
    have hy2:T v y∈a.kids.map (T v):=nC hy;rw[c4,<- c5,<- c1]at hy2;have:=Jk (F.2.2.2 _ hy2);rw[hq]at this;omega⟩) (V.CZ.kids _ (by simp[AE.kids,lT hb]))
   simp only[mn,nD]at L;rw[c4,<- c5,<- c1]at L;exact⟨by rw[L.1,tb],L.2⟩
  ·rw[la h6];exact same
 ·rw[la h8];exact same
theorem bF (S:EP p.decls p.funcs)(hN:2000000<=N)(hT:TX p N T):∀(c:Nat) (e:AE) (v:List Int),en e<=c->VF p e v->T v e≠-1->
  (T v (fd p.decls v.length e)=T v e/\An (fd p.decls v.length e)/\en (fd p.decls v.length e)<=2*en e)/\
  (T v (.mk e.op e.num (KU p.decls v.length e.op e.num 0 e.kids))=T v e/\VX p (.mk e.op e.num (KU p.decls v.length e.op e.num 0 e.kids)) v/\CM (KU p.decls v.length e.op e.num 0 e.kids)<=2*CM e.kids):=by
 intro c
 induction c with
 | zero=>intro e _ h;have:=F8 e;omega
 | succ c ih=>
  intro e v hc V ht;have hlv:=V.len;have K:∀(i:Nat) k,e.kids[i]?=some k->An (fd p.decls (v.length+Ht p.decls e.op e.num i) k)/\en (fd p.decls (v.length+Ht p.decls e.op e.num i) k)<=2*en k:=λi k hk=>by
   obtain⟨m,m1,m2,m3,m4⟩:=Pc S hN hT V.x ht hk;have vf:=Cs (lT hk);have:=(ih k (v++m) (by omega) (V.JF (lT hk) m2 m3) m4).1;rw[mD,m1]at this;exact⟨this.2.1,this.2.2⟩
  have rC:∀(l:List AE) (j:Nat),(∀i k,l[i]?=some k->en (fd p.decls (v.length+Ht p.decls e.op e.num (j+i)) k)<=2*en k)->CM (KU p.decls v.length e.op e.num j l)<=2*CM l:=by
   intro l
   induction l with
   | nil=>intro j _;simp[KU,CM]
   | cons a l ihl=>
    intro j h;have h0:=h 0 a rfl;have h1:=ihl (j+1) (λi k hk=>by have:=h (i+1) k hk;rwa [show j+1+i=j+(i+1) by omega]);simp only[KU,CM];rw[nw]at h0;omega
  have sz:=rC e.kids 0 (λi k hk=>by rw[ml];exact (K i k hk).2);have he:=Fp e;have hkk:∀k∈KU p.decls v.length e.op e.num 0 e.kids,An k:=λk hk=>by
   obtain⟨i,hi⟩:=lv.1 hk;rw[Mt,ml,lg]at hi;obtain⟨k0,zD,rfl⟩:=hi;exact (K i k0 zD).1
  have CZ:An (.mk e.op e.num (KU p.decls v.length e.op e.num 0 e.kids)):=iZ V.CZ (SC _ _) hkk;have V1:VX p (.mk e.op e.num (KU p.decls v.length e.op e.num 0 e.kids)) v:=⟨by rw[en];omega,V.H6,CZ⟩
  have t1:T v (.mk e.op e.num (KU p.decls v.length e.op e.num 0 e.kids))=T v e:=by
   by_cases sk:e.op=12
   ·have q:=hT.var V.x sk;have q':=hT.var V1 sk;by_cases hr:e.kids=[]/\0<=e.num/\e.num<(v.length:Int)
    ·have hf:KU p.decls v.length e.op e.num 0 e.kids=[]:=by rw[hr.1];rfl
     rw[q,q',ld hr];exact ld ⟨hf,hr.2⟩
    ·rw[la hr]at q;exact absurd q ht
   ·have hB:=R3 (e':=.mk e.op e.num (KU p.decls v.length e.op e.num 0 e.kids)) (v':=v) (hT.H V.x) (hT.H V1) V.x.N3 V1.N3 S hN (hT.bi V.x) ht rfl rfl sk (SC _ _) (λi k k' hk sS m hm1 hm3 hmt hkt=>by
     have sS:(KU p.decls v.length e.op e.num 0 e.kids)[i]?=some k':=sS;rw[Mt,ml,hk]at sS;obtain rfl:fd p.decls (v.length+Ht p.decls e.op e.num i) k=k':=by simpa using sS
     have sy:=lT hk;have vf:=Cs sy;have:=(ih k (v++m) (by omega) (V.JF sy hm3 hmt) hkt).1.1;rwa [mD,hm1]at this)
    have:=hT.bi V1;rw[hB]at this;exact (nT this).symm
  have t2:=gv S hN hT V1 (by omega) (by rw[t1];exact ht);rw[Vo];refine⟨⟨by rw[t2.1,t1],t2.2,?_⟩,t1,V1,sz⟩;have:=ir (D:=p.decls) (n:=v.length) (o:=e.op) (nu:=e.num) (l:=KU p.decls v.length e.op e.num 0 e.kids) (λh8 a ha h6=>by
   obtain⟨a0,r,q1,q2,q3,q4,q5⟩:=KI (hT.H V1) V1.N3 S hN h8 (hT.bi V1) (by rw[t1];exact ht);obtain⟨i,hi⟩:=lv.1 ha;obtain⟨m,m1,m2,m3,m4⟩:=Pc S hN hT V1 (by rw[t1];exact ht) hi;have Vk:=V1.JF ha m2 m3;obtain⟨c,t,x,c1,c2,c3,c4,c5,c6⟩:=WI S hN hT Vk h6 m4;obtain⟨g1,g2,d,g3,g4⟩:=LL c2;have:=(S.Lc d g3 x g4).1;have h:=mc List.length c4;rw[ly]at h;omega)
  omega
end
end RC
