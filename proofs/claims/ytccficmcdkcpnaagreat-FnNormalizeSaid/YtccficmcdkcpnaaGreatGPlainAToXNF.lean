import Derived.Test.YtccficmcdkcpnaaGreatGHADefsToNODefs
set_option linter.all false
namespace RC
open Go
theorem Co {n:Int}(h1:-9223372036854775808<=n)(h2:n<=9223372036854775807):Sh.w n=n:=Abs.wrap_i64 h1 h2
theorem AK {α:Type}(l:List α):Sh.len l=(l.length:Int):=rfl
theorem X8 {α:Type}(l:List α)(i:Nat):Sh.get l (i:Int)=l[i]?:=by
 unfold Sh.get;rw[qF (tR i)];simp
theorem Av {α:Type}{l:List α}{i:Nat}{x:α}(h:l[i]?=some x):Sh.get l (i:Int)=some x:=by rw[X8,h]
theorem wI {n:Int}(h1:-9223372036854775808<=n:=by omega)(h2:n<=9223372036854775807:=by omega):Sh.w n=n:=Co h1 h2
theorem wN {i:Nat}(h:i<=1048576:=by omega):Sh.w ((i:Int)+1)=((i+1:Nat):Int):=by rw[Co (by omega) (by omega)];rfl
theorem Gp {α β:Type}{l:List α}{i:Nat}{a b:β}(h:i<l.length:=by omega):(if decide ((i:Int)<Sh.len l)=true then a else b)=a:=qF (by simp[AK];omega)
theorem G7 {α β:Type}{l:List α}{a b:β}:(if decide ((l.length:Int)<Sh.len l)=true then a else b)=b:=qG (by simp[AK])
theorem Lf {α:Type}{l:List α}{j:Int}(h0:0<=j)(h1:j<l.length):∃x,Sh.get l j=some x/\l[j.toNat]?=some x:=by
 have h:l[j.toNat]?=some (l[j.toNat]'(by omega)):=qD (by omega);exact⟨_,by unfold Sh.get;rw[qF h0,h],h⟩
theorem P9 {α:Type}{l:List α}{j:Int}(h0:0<=j):Sh.get l j=l[j.toNat]?:=by unfold Sh.get;rw[qF h0]
theorem T5 {α:Type}(l:List α)(i:Nat)(x:α):Sh.put l (i:Int) x=l.set i x:=by simp[Sh.put]
theorem Mz {α:Type}(x:α)(n b:Nat)(h:n*b<=281474976710656)(h2:n<=9223372036854775807):Sh.mk x (n:Int) b=some (List.replicate n x):=by
 unfold Sh.mk;rw[qF ⟨by omega,by rw[<- sq];omega,by omega⟩];simp
theorem Cp {α:Type}(l m:List α)(b:Nat)(h:(l.length+m.length)*b<=140737488355328)(h2:l.length+m.length<=9223372036854775807):Sh.app l m b=some (l++m):=by
 unfold Sh.app;rw[qF ⟨h,h2⟩]
theorem de {α:Type}{l:List α}{j:Nat}(h:j<=l.length):Sh.hi l (j:Int)=some (l.take j):=by
 unfold Sh.hi;rw[qF ⟨by omega,by omega⟩];simp
theorem Bm (len:Nat)(P:Nat->Nat->Prop)(h0 :∀n,P (n+1) len)(hs :∀n i,i<len->P n (i+1)->P (n+1) i):∀{N i:Nat},i<=len->len-i<N->P N i:=by
 intro N i hi hN;obtain⟨k,hk⟩ :∃k,len-i=k:=⟨_,rfl⟩
 induction k generalizing N i with
 | zero=>
  obtain⟨n,rfl⟩ :∃n,N=n+1:=⟨N-1,by omega⟩
  have:i=len:=by omega
  subst this;exact h0 n
 | succ k ih=>
  obtain⟨n,rfl⟩ :∃n,N=n+1:=⟨N-1,by omega⟩
  exact hs n i (by omega) (ih (by omega) (by omega) (by omega))
theorem Ba {α:Type}{l:List α}{i:Nat}(h:i<l.length):∃x,l[i]?=some x/\x∈l:=⟨l[i],qD h,sR h⟩
theorem Gg {α:Type}{l:List α}{j:Nat}{x:α}(h:l[j]?=some x):l.take (j+1)=l.take j++[x]:=by rw[List.take_add_one,h];rfl
theorem drop_cons {α:Type}{l:List α}{j:Nat}{x:α}(h:l[j]?=some x):l.drop j=x::l.drop (j+1):=by
 obtain⟨hj,rfl⟩:=px.1 h;exact List.drop_eq_getElem_cons hj
def kv (h:List Cell):Nat:=(h.map λc=>c.fields.length).sum
def Hm (h:List Cell):Nat:=h.length+kv h
structure Hp (h:List Cell):Prop where
 size:Hm h<=1048576
 cells :∀c∈h,aV c
theorem jG {h:List Cell}{c:Cell}(hc:c∈h):c.fields.length<=kv h:=by
 induction h with
 | nil=>cases hc
 | cons d h ih=>
  simp only[kv,qj,sn]at ih⊢;rcases qH.1 hc with rfl|hc
  ·omega
  ·have:=ih hc;omega
theorem Hp.len {h:List Cell}(H:Hp h):h.length<=1048576:=by have:=H.size;unfold Hm at this;omega
theorem Hp.Na {h:List Cell}(H:Hp h){c:Cell}(hc:c∈h):c.fields.length<=1048576:=by have:=H.size;have:=jG hc;unfold Hm at *;omega
end RC
namespace RC
open Go
def E4 {α:Type}(f:Nat->α->Bool):Nat->List α->Bool
 | _,[]=>true
 | k,x::r=>f k x&&E4 f (k+1) r
theorem UZ {α:Type}{f g:Nat->α->Bool}:∀(l:List α) (k:Nat),(∀(i:Nat) x,l[i]?=some x->f (k+i) x=g (k+i) x)->E4 f k l=E4 g k l
 | [],_,_=>rfl
 | x::r,k,h=>by
  have h0:=h 0 x rfl;rw[tC]at h0;have h1:=UZ r (k+1) λi y hy=>(show k+(i+1)=k+1+i by omega)▸h (i+1) y hy;rw[E4,E4,h0,h1]
theorem Fg {α:Type}{p:α->Bool}:∀(l:List α) (k:Nat),E4 (λ_ x=>p x) k l=l.all p
 | [],_=>rfl
 | x::r,k=>by rw[E4,Fg r (k+1),sL]
theorem D5 {α:Type}{l:List α}(L:Nat->Int->Option (Bool ⊕ Unit))(f:Nat->α->Bool)(h0 :∀n,L (n+1) (l.length:Int)=some (.inr ()))
  (hs :∀n (i:Nat) x,l[i]?=some x->L (n+1) (i:Int)=if f i x=true then L n ((i+1:Nat):Int) else some (.inl false)) {N:Nat} (hN:l.length<N) :
  L N 0=some (if E4 f 0 l=true then .inr () else .inl false):=by
 have key:∀{N i:Nat},i<=l.length->l.length-i<N->L N (i:Int)=some (if E4 f i (l.drop i)=true then .inr () else .inl false):=by
  intro N i hi hN;refine Bm l.length (λN i=>L N (i:Int)=some (if E4 f i (l.drop i)=true then .inr () else .inl false)) ?_ ?_ hi hN
  ·intro n;rw[h0 n];simp[E4]
  ·intro n i hi ih;obtain⟨x,hx,_⟩:=Ba hi;rw[hs n i x hx,ih,drop_cons hx,E4];cases h:f i x<;>simp
 have:=key (qd _) (by omega:l.length-0<N);simpa using this
theorem D6 {β:Type}{b:Bool}{g:Bool->β}{K:Unit->Option β}:Sh.cont (some (if b=true then Sum.inr () else Sum.inl false)) g K=if b=true then K () else some (g false):=by
 cases b<;>rfl
theorem dC {α:Type}{l:List α}{j:Nat}(h:j<=l.length)(h2:l.length<=9223372036854775807):Sh.sl l 0 (j:Int)=some (l.take j):=by
 unfold Sh.sl;rw[qF ⟨by omega,by omega,by omega⟩];simp
end RC
namespace RC
open Go
end RC
namespace RC
open Go
def nW (h:List Cell)(w:Int):Bool:=decide (1000<=w)&&(match h[(w-1000).toNat]? with|some c=>decide (0<c.count)|none=>false)
theorem Cf (a b c:Int):Bv a b c=some (decide (b<=a)&&decide (a<=c)):=by
 unfold Bv;by_cases h:b<=a<;>simp[h]
end RC
namespace RC
open Go
def Cg (D:List AI)(t:Int):Bool:=decide (0<=t)&&decide (t<=(D.length:Int))
theorem PC {D:List AI}{x:Int}:Bv x 0 (Sh.len D)=some (Cg D x):=by rw[Cf];rfl
theorem PF {D:List AI}{l:List Int}(hl:l.length<=1048576){N:Nat}(hN:l.length<N):JI N D l=some (l.all (Cg D)):=by
 unfold JI;rw[D5 (l:=l) (Gd D l) (λ_ x=>Cg D x) (λn=>by rw[Gd,G7]) (λn i x hx=>?_) hN,D6,Fg]
 ·cases l.all (Cg D)<;>rfl
 ·have hi:=(px.1 hx).1;rw[Gd,Gp,Av hx,po,PC,wI,show ((i:Int)+1)=((i+1:Nat):Int) by omega,po];cases Cg D x<;>rfl
theorem Lt {D:List AI}{t:Int}:Iv D t=some (Cg D t):=by
 unfold Iv Cg;by_cases h:0<=t<;>by_cases h2:t<=(D.length:Int)<;>simp[h,h2,AK]
theorem MM {D:List AI}{l:List Int}(hl:l.length<=1048576){N:Nat}(hN:l.length<N):H4 N D l=some (l.all (Cg D)):=by
 unfold H4;rw[D5 (l:=l) (Gi D l) (λ_ x=>Cg D x) (λn=>by rw[Gi,G7]) (λn i x hx=>?_) hN,D6,Fg]
 ·cases l.all (Cg D)<;>rfl
 ·have hi:=(px.1 hx).1;rw[Gi,Gp,Av hx,po,Lt,wI,show ((i:Int)+1)=((i+1:Nat):Int) by omega,po];cases Cg D x<;>rfl
def TM (D:List AI)(c:EK):Bool:=decide (c.fields.length<=3)&&c.fields.all (Cg D)
def I2 (a b:AI):Bool:=decide (a.cons.length=0)&&(decide (a.from_=b.from_)&&decide (a.to=b.to))
def Nt (D:List AI)(i:Nat)(d:AI):Bool:=
 if 0<d.cons.length then (decide (d.cons.length<=3)&&(decide (d.from_=0)&&decide (d.to=0)))&&d.cons.all (TM D)
 else (D.take i).all (λe=>!I2 e d)&&(Cg D d.from_&&Cg D d.to)
def VQ (D:List AI)(i:Nat)(d:AI):Bool:=
 ((Cg D d.from_&&(Cg D d.to&&(decide (d.cons.length<=3)&&(!(decide (0<d.cons.length)&&(!decide (d.from_=0) || !decide (d.to=0)))))))&&d.cons.all (TM D))&&(D.take i).all (λe=>!(decide (d.cons.length=0)&&I2 e d))
theorem fP (D:List AI)(i:Nat)(d:AI):VQ D i d=Nt D i d:=by
 unfold VQ Nt;by_cases h:0<d.cons.length
 ·have h0:¬ d.cons.length=0:=by omega
  have ha:(D.take i).all (λe=>!(decide (d.cons.length=0)&&I2 e d))=true:=by simp[h0]
  rw[qF h,ha];by_cases h1:d.from_=0<;>by_cases h2:d.to=0<;>simp[h,h1,h2,Cg]
 ·have h0:d.cons.length=0:=by omega
  have hc:d.cons=[]:=qV h0;rw[qG h];simp only[hc,h0,qt,List.all_nil,qN,ta,Bool.and_true];cases Cg D d.from_<;>cases Cg D d.to<;>simp
structure RD (D:List AI):Prop where
 len:D.length<=1048576
 cons :∀d∈D,d.cons.length<=1048576
 N7 :∀d∈D,∀c∈d.cons,c.fields.length<=1048576
theorem Ty {D:List AI}(hD:RD D){i:Nat}{d:AI}(hd:D[i]?=some d){N:Nat}(hN:2000000<=N):Jq N D i=some (Nt D i d):=by
 have hm:=pt hd;have hi:=(px.1 hd).1;have hlen:=hD.len;have hc:=hD.cons d hm;unfold Jq Nt;rw[Av hd,po];by_cases h:0<d.cons.length
 ·rw[qF (by simp[AK];omega),qF h];rw[D5 (l:=d.cons) (GJ N d D) (λ_ c=>TM D c) (λn=>by rw[GJ,G7]) (λn j c hj=>?_) (by omega),D6,Fg]
  ·simp only[AK];by_cases h3:d.cons.length<=3
   ·have e3:¬ (3:Int)<(d.cons.length:Int):=by omega
    generalize d.cons.all (TM D)=z;cases z<;>by_cases h1:d.from_=0<;>by_cases h2:d.to=0<;>simp[h1,h2,h3,e3]
   ·have e3:(3:Int)<(d.cons.length:Int):=by omega
    simp[h3,e3]
  ·have hj':=(px.1 hj).1;have hf:=hD.N7 d hm c (pt hj);rw[GJ,Gp,Av hj,po,PF hf (by omega),wI,show ((j:Int)+1)=((j+1:Nat):Int) by omega];unfold TM;by_cases h3:c.fields.length<=3
   ·have e3:¬ (3:Int)<(c.fields.length:Int):=by omega
    simp only[AK];cases c.fields.all (Cg D)<;>simp[h3,e3]
   ·have e3:(3:Int)<(c.fields.length:Int):=by omega
    simp[h3,e3,AK]
 ·have h0:d.cons.length=0:=by omega
  have e0:¬ decide ((0:Int)<Sh.len d.cons)=true:=by rw[AK,h0];simp
  rw[qG e0,qG h];have vS:(D.take i).length=i:=by simp;omega
  rw[D5 (l:=D.take i) (GI d D i) (λ_ e=>!I2 e d) (λn=>by rw[GI,qG (by simp;omega)]) (λn j e hj=>?_) (by omega),D6,Fg]
  ·rw[PC,PC,po];cases (D.take i).all (λe=>!I2 e d)<;>cases Cg D d.from_<;>simp
  ·have hj':=(px.1 hj).1;have hje:D[j]?=some e:=by rw[ql]at hj;split at hj<;>first|exact hj|cases hj
   rw[GI,qF (by simp;omega),Av hje,po,wI,show ((j:Int)+1)=((j+1:Nat):Int) by omega];unfold I2;simp only[AK];by_cases a0:e.cons.length=0<;>by_cases a1:e.from_=d.from_<;>by_cases a2:e.to=d.to<;>simp[a0,a1,a2]
def PU (D:List AI):Bool:=decide (D.length<=4)&&E4 (Nt D) 0 D
theorem TD {D:List AI}(hD:RD D){N:Nat}(hN:2000000<=N):JH N D=some (PU D):=by
 have hlen:=hD.len;unfold JH PU;rw[D5 (l:=D) (Fh N D) (Nt D) (λn=>by rw[Fh,G7]) (λn i d hd=>?_) (by omega),D6]
 ·simp only[AK];by_cases h:D.length<=4
  ·have e4:¬ (4:Int)<(D.length:Int):=by omega
   cases E4 (Nt D) 0 D<;>simp[h,e4]
  ·have e4:(4:Int)<(D.length:Int):=by omega
   simp[h,e4]
 ·have hi:=(px.1 hd).1;rw[Fh,Gp,Ty hD hd hN,po,wI,show ((i:Int)+1)=((i+1:Nat):Int) by omega];cases Nt D i d<;>rfl
theorem S5 {D:List AI}(hD:RD D){N:Nat}(hN:2000000<=N):JM N D=some (PU D):=by
 have hlen:=hD.len;unfold JM PU;rw[<- UZ (f:=VQ D) D 0 (λi d _=>fP D _ d)];rw[D5 (l:=D) (Ff N D) (VQ D) (λn=>by rw[Ff,G7]) (λn i d hd=>?_) (by omega),D6]
 ·simp only[AK];by_cases h:D.length<=4
  ·have e4:¬ (4:Int)<(D.length:Int):=by omega
   cases E4 (VQ D) 0 D<;>simp[h,e4]
  ·have e4:(4:Int)<(D.length:Int):=by omega
   simp[h,e4]
 ·have hi:=(px.1 hd).1;have hm:=pt hd;have hc:=hD.cons d hm;have l2:Eo N d D N 0=some (if d.cons.all (TM D)=true then .inr () else .inl false):=by
   rw[D5 (l:=d.cons) (Eo N d D) (λ_ c=>TM D c) (λn=>by rw[Eo,G7]) (λn j c hj=>?_) (by omega),Fg];have hj':=(px.1 hj).1;have hf:=hD.N7 d hm c (pt hj);rw[Eo,Gp,Av hj,po,MM hf (by omega),wI,show ((j:Int)+1)=((j+1:Nat):Int) by omega];unfold TM;by_cases h3:c.fields.length<=3
   ·have e3:¬ (3:Int)<(c.fields.length:Int):=by omega
    simp only[AK];cases c.fields.all (Cg D)<;>simp[h3,e3]
   ·have e3:(3:Int)<(c.fields.length:Int):=by omega
    simp[h3,e3,AK]
  have vS:(D.take i).length=i:=by simp;omega
  have l3:En d (D.take i) N 0=some (if (D.take i).all (λe=>!(decide (d.cons.length=0)&&I2 e d))=true then .inr () else .inl false):=by
   rw[D5 (l:=D.take i) (En d (D.take i)) (λ_ e=>!(decide (d.cons.length=0)&&I2 e d)) (λn=>by rw[En,G7]) (λn j e hj=>?_) (by omega),Fg];have hj':=(px.1 hj).1;rw[En,qF (by simp only[AK];simp;omega),Av hj,po,wI,show ((j:Int)+1)=((j+1:Nat):Int) by omega];unfold I2;simp only[AK];by_cases b0:d.cons.length=0<;>by_cases a0:e.cons.length=0<;>by_cases a1:e.from_=d.from_<;>by_cases a2:e.to=d.to<;>simp[a0,a1,a2,b0]
  rw[Ff,Gp,Av hd];simp only[po];rw[Lt,Lt,l2,dC (by omega) (by omega),wI,show ((i:Int)+1)=((i+1:Nat):Int) by omega];simp only[po];rw[l3,D6,D6];unfold VQ;simp only[AK];generalize d.cons.all (TM D)=z1;generalize (D.take i).all (λe=>!(decide (d.cons.length=0)&&I2 e d))=z2;by_cases h3:d.cons.length<=3
  ·have e3:¬ (3:Int)<(d.cons.length:Int):=by omega
   by_cases h0:0<d.cons.length
   ·have e0:(0:Int)<(d.cons.length:Int):=by omega
    cases Cg D d.from_<;>cases Cg D d.to<;>cases z1<;>cases z2<;>by_cases h1:d.from_=0<;>by_cases h2:d.to=0<;>simp[h1,h2,h3,e3,h0]
   ·have e0:¬ (0:Int)<(d.cons.length:Int):=by omega
    cases Cg D d.from_<;>cases Cg D d.to<;>cases z1<;>cases z2<;>simp[h3,e3,h0]
  ·have e3:(3:Int)<(d.cons.length:Int):=by omega
   cases Cg D d.from_<;>cases Cg D d.to<;>simp[h3,e3]
end RC
namespace RC
open Go
def Jd (ps ls:List Int)(i:Nat)(v:Int):Bool:=
 (decide (0<=v)&&decide (v<(ps.length:Int)))&&(!decide (ps[v.toNat]?=some 0)&&!(decide (0<i)&&decide (v<=(ls[i-1]?).getD 0)))
theorem Zt {ls:List Int}{i:Nat}(h0:0<i)(hi:i<ls.length):∃x,ls[i-1]?=some x/\Sh.get ls (((i:Nat):Int)-1)=some x:=by
 obtain⟨x,hx,_⟩:=Ba (l:=ls) (i:=i-1) (by omega);exact⟨x,hx,by rw[show ((i:Int)-1)=((i-1:Nat):Int) by omega,Av hx]⟩
theorem Tf {ps ls:List Int}(hp:ps.length<=1048576)(hl:ls.length<=1048576){N:Nat}(hN:2000000<=N):Nx N ps ls=some (E4 (Jd ps ls) 0 ls):=by
 unfold Nx;rw[D5 (l:=ls) (H6 ps ls) (Jd ps ls) (λn=>by rw[H6,G7]) (λn i v hv=>?_) (by omega),D6]
 ·cases E4 (Jd ps ls) 0 ls<;>rfl
 ·have hi:=(px.1 hv).1;rw[H6,Gp,Av hv,po,Cf,AK,wI (n:=(ps.length:Int)-1),wI (n:=(i:Int)+1),wI (n:=(i:Int)-1),show ((i:Int)+1)=((i+1:Nat):Int) by omega,po];unfold Jd;by_cases h0:0<=v
  ·by_cases h1:v<(ps.length:Int)
   ·have xM:v<=(ps.length:Int)-1:=by omega
    obtain⟨c,e1,e2⟩:=Lf h0 h1;rw[e1,e2];by_cases hi0:0<i
    ·obtain⟨x,g1,g2⟩:=Zt hi0 hi;rw[g1,g2];by_cases hc:c=0<;>by_cases hx:v<=x<;>simp[h0,h1,xM,hc,hi0,hx]
    ·by_cases hc:c=0<;>simp[h0,h1,xM,hc,hi0]
   ·have xM:¬ v<=(ps.length:Int)-1:=by omega
    simp[h0,h1,xM]
  ·simp[h0]
theorem Yp {c:BX}(hp:c.params.length<=1048576)(hl:c.CE.length<=1048576){N:Nat}(hN:2000000<=N):E5 c N 0=some (if E4 (Jd c.params c.CE) 0 c.CE=true then .inr () else .inl false):=by
 refine D5 (l:=c.CE) (E5 c) (Jd c.params c.CE) (λn=>by rw[E5,G7]) (λn i v hv=>?_) (by omega);have hi:=(px.1 hv).1;rw[E5,Gp,Av hv,po,AK,wI (n:=(i:Int)+1),wI (n:=(i:Int)-1),show ((i:Int)+1)=((i+1:Nat):Int) by omega];unfold Jd;by_cases h0:0<=v
 ·have ye:¬ v<0:=by omega
  by_cases h1:v<(c.params.length:Int)
  ·have xM:¬ (c.params.length:Int)<=v:=by omega
   obtain⟨d,e1,e2⟩:=Lf h0 h1;rw[e1,e2];by_cases hi0:0<i
   ·obtain⟨x,g1,g2⟩:=Zt hi0 hi;rw[g1,g2];by_cases hc:d=0<;>by_cases hx:v<=x<;>simp[h0,ye,h1,xM,hc,hi0,hx]
   ·by_cases hc:d=0<;>simp[h0,ye,h1,xM,hc,hi0]
  ·have xM:(c.params.length:Int)<=v:=by omega
   simp[h0,ye,h1,xM]
 ·have ye:v<0:=by omega
  simp[h0,ye]
def QU (D:List AI)(ps:List Int)(r:Int):Bool:=decide (ps.length<=3)&&(ps.all (Cg D)&&Cg D r)
theorem VH {p:AP}(hf:p.funcs.length<=1048576)(hp :∀f∈p.funcs,f.params.length<=1048576){N:Nat}(hN:2000000<=N):FM N p N 0=some (if (p.funcs.all λf=>QU p.decls f.params f.result)=true then .inr () else .inl false):=by
 rw[<- Fg _ 0];refine D5 (l:=p.funcs) (FM N p) (λ_ f=>QU p.decls f.params f.result) (λn=>by rw[FM,G7]) (λn i f hi=>?_) (by omega);have xj:=(px.1 hi).1;have hpf:=hp f (pt hi);rw[FM,Gp,Av hi,po,PF hpf (by omega),PC,wI,show ((i:Int)+1)=((i+1:Nat):Int) by omega];unfold QU;simp only[AK];by_cases h3:f.params.length<=3
 ·have e3:¬ (3:Int)<(f.params.length:Int):=by omega
  generalize f.params.all (Cg p.decls)=z;cases z<;>cases Cg p.decls f.result<;>simp[h3,e3]
 ·have e3:(3:Int)<(f.params.length:Int):=by omega
  simp[h3,e3]
theorem Vj {D:List AI}{l:List BX}(hf:l.length<=1048576)(hp :∀f∈l,f.params.length<=1048576/\f.CE.length<=1048576){N:Nat}(hN:2000000<=N):FH N D l N 0=some (if (l.all λf=>QU D f.params f.result&&E4 (Jd f.params f.CE) 0 f.CE)=true then .inr () else .inl false):=by
 rw[<- Fg _ 0];refine D5 (l:=l) (FH N D l) (λ_ f=>QU D f.params f.result&&E4 (Jd f.params f.CE) 0 f.CE) (λn=>by rw[FH,G7]) (λn i f hi=>?_) (by omega);have xj:=(px.1 hi).1;have hpf:=hp f (pt hi);rw[FH,Gp,Av hi,po,MM hpf.1 (by omega),Lt,Yp hpf.1 hpf.2 hN,D6,wI,show ((i:Int)+1)=((i+1:Nat):Int) by omega];unfold QU;simp only[AK];generalize E4 (Jd f.params f.CE) 0 f.CE=y;by_cases h3:f.params.length<=3
 ·have e3:¬ (3:Int)<(f.params.length:Int):=by omega
  generalize f.params.all (Cg D)=z;cases z<;>cases Cg D f.result<;>cases y<;>simp[h3,e3]
 ·have e3:(3:Int)<(f.params.length:Int):=by omega
  simp[h3,e3]
end RC
namespace RC
open Go
def bP (D:List (List Int×Int)):Bool:=match D with|[]=>false|(ps,r)::_=>decide (ps.length=0)&&decide (r=0)
def N1 (D:List AI)(l:List (List Int×Int)):Bool:=PU D&&((decide (1<=l.length)&&decide (l.length<=4))&&(l.all (λs=>QU D s.1 s.2)&&bP l))
theorem Oj {p:AP}(hD:RD p.decls)(hf:p.funcs.length<=1048576)(hp :∀f∈p.funcs,f.params.length<=1048576){N:Nat}(hN:2000000<=N):HY N p=some (N1 p.decls (p.funcs.map λf=>(f.params,f.result))):=by
 unfold HY N1;rw[TD hD hN,VH hf hp hN,D6,Cf];simp only[po,qc,tk,tX];cases PU p.decls with
 | false=>simp
 | true=>
  cases hl:p.funcs with
  | nil=>simp[AK]
  | cons f r=>
   have e0:Sh.get (f::r) 0=some f:=rfl;rw[e0];generalize (f::r).all (λf=>QU p.decls f.params f.result)=z;simp only[qj,bP];have q1:decide ((1:Int)<=Sh.len (f::r))=true:=sE (by rw[AK,qa];omega);have q2:decide (1<=(f::r).length)=true:=by simp
   have q3:decide (Sh.len (f::r)<=4)=decide ((f::r).length<=4):=rP.2 (by rw[AK];omega);have q4:decide (Sh.len f.params=0)=decide (f.params.length=0):=rP.2 (by rw[AK];omega);simp only[q1,q2,q3,q4,po];cases decide ((f::r).length<=4)<;>cases z<;>by_cases a1:f.params.length=0<;>by_cases a2:f.result=0<;>simp[a1,a2]
theorem Oo {D:List AI}{l:List BX}(hD:RD D)(hf:l.length<=1048576)(hp :∀f∈l,f.params.length<=1048576/\f.CE.length<=1048576){N:Nat}(hN:2000000<=N):
  IQ N D l=some (N1 D (l.map λf=>(f.params,f.result))&&l.all (λf=>E4 (Jd f.params f.CE) 0 f.CE)):=by
 unfold IQ N1;rw[S5 hD hN,Vj hf hp hN,D6];have yK:(l.all λf=>QU D f.params f.result&&E4 (Jd f.params f.CE) 0 f.CE)=((l.all λf=>QU D f.params f.result)&&(l.all λf=>E4 (Jd f.params f.CE) 0 f.CE)):=by
  clear hf hp
  induction l with
  | nil=>rfl
  | cons f r ih=>
   simp only[sL,ih];cases QU D f.params f.result<;>cases E4 (Jd f.params f.CE) 0 f.CE<;>simp
 rw[yK];simp only[po,qc,tk,tX];cases PU D with
 | false=>simp
 | true=>
  cases hl:l with
  | nil=>simp[AK]
  | cons f r=>
   have e0:Sh.get (f::r) 0=some f:=rfl;rw[e0];generalize (f::r).all (λf=>QU D f.params f.result)=z;generalize (f::r).all (λf=>E4 (Jd f.params f.CE) 0 f.CE)=y;simp only[qj,bP];have q1:decide (Sh.len (f::r)<1)=false:=decide_eq_false (by rw[AK,qa];omega);have q2:decide (1<=(f::r).length)=true:=by simp
   have q3:decide ((4:Int)<Sh.len (f::r))=!decide ((f::r).length<=4):=by rw[<- decide_not];exact rP.2 (by rw[AK];omega)
   have q4:decide ((0:Int)<Sh.len f.params)=!decide (f.params.length=0):=by rw[<- decide_not];exact rP.2 (by rw[AK];omega)
   simp only[q1,q2,q3,q4,po];cases decide ((f::r).length<=4)<;>cases z<;>cases y<;>by_cases a1:f.params.length=0<;>by_cases a2:f.result=0<;>simp[a1,a2]
end RC
namespace RC
open Go
def nc (D:List AI):Nat:=(D.map (·.cons.length)).sum
theorem NV {D:List AI}{i:Nat}{d:AI}(h:D[i]?=some d):nc (D.take (i+1))=nc (D.take i)+d.cons.length:=by
 rw[Gg h];simp[nc]
theorem UX {D:List AI}{i:Nat}{d:AI}(h:D[i]?=some d):nc (D.drop i)=d.cons.length+nc (D.drop (i+1)):=by
 rw[drop_cons h];simp[nc]
theorem IP (D:List AI)(i:Nat):nc D=nc (D.take i)+nc (D.drop i):=by
 unfold nc;rw[<- List.sum_append_nat,<- rM,List.take_append_drop]
theorem KI {D:List AI}(hD:D.length<=1048576)(hn:nc D<=1048576){i:Nat}(hi:i<=D.length){N:Nat}(hN:2000000<=N):IA N D i=some (nc (D.take i):Int):=by
 unfold IA;have key:∀{N j:Nat},j<=i->i-j<N->Fl D i N (nc (D.take j)) j=some (nc (D.take i):Int):=by
  intro N j hj hN;refine Bm i (λN j=>Fl D i N (nc (D.take j)) j=some (nc (D.take i):Int)) ?_ ?_ hj hN
  ·intro n;rw[Fl,qG (by simp)]
  ·intro n j hj ih;obtain⟨d,hd,_⟩:=Ba (l:=D) (i:=j) (by omega);have hs:=IP D (j+1);have ht:=NV hd;rw[Fl,qF (by simp;omega),Av hd,po,AK,wI (n:=(j:Int)+1),wI,show ((nc (D.take j):Int)+(d.cons.length:Int))=((nc (D.take (j+1)):Nat):Int) by omega,show ((j:Int)+1)=((j+1:Nat):Int) by omega];exact ih
 have:=key (qd _) (by omega:i-0<N);rw[show (((nc (D.take 0):Nat):Int))=0 from rfl,show (((0:Nat):Int))=0 from rfl]at this;rw[this];rfl
theorem Ue {D:List AI}(hD:D.length<=1048576)(hn:nc D<=1048576){N:Nat}(hN:2000000<=N):Km N D=some (nc D:Int):=by
 unfold Km;have key:∀{N j:Nat},j<=D.length->D.length-j<N->Fm D N (nc (D.take j)) j=some (nc D:Int):=by
  intro N j hj hN;refine Bm D.length (λN j=>Fm D N (nc (D.take j)) j=some (nc D:Int)) ?_ ?_ hj hN
  ·intro n;rw[Fm,G7,ri]
  ·intro n j hj ih;obtain⟨d,hd,_⟩:=Ba hj;have hs:=IP D (j+1);have ht:=NV hd;rw[Fm,Gp,Av hd,po,AK,wI (n:=(j:Int)+1),wI,show ((nc (D.take j):Int)+(d.cons.length:Int))=((nc (D.take (j+1)):Nat):Int) by omega,show ((j:Int)+1)=((j+1:Nat):Int) by omega];exact ih
 have:=key (qd _) (by omega:D.length-0<N);rw[show (((nc (D.take 0):Nat):Int))=0 from rfl,show (((0:Nat):Int))=0 from rfl]at this;rw[this];rfl
def I8:List AI->Nat->Nat->Option (Nat×EK)
 | [],_,_=>none
 | d::r,k,c=>match d.cons[c]? with
  | some x=>some (k+1,x)
  | none=>I8 r (k+1) (c-d.cons.length)
theorem Oy {D:List AI}(hD:D.length<=1048576)(hn:nc D<=1048576){c:Nat}(hc:c<nc D){N:Nat}(hN:2000000<=N):∃t x,I8 D 0 c=some (t,x)/\JW N D c=some ((t:Int),x):=by
 have key:∀(m j N c:Nat),D.length-j=m->j<=D.length->m<N->c<nc (D.drop j)->∃t x,I8 (D.drop j) j c=some (t,x)/\Ge D N c j=some (.inl ((t:Int),x)):=by
  intro m
  induction m with
  | zero=>
   intro j N c h1 h2 _ h3;rw[sJ (by omega)]at h3;simp[nc]at h3
  | succ m ih=>
   intro j N c h1 h2 h3 h4;obtain⟨N,rfl⟩ :∃n,N=n+1:=⟨N-1,by omega⟩
   obtain⟨d,hd,_⟩:=Ba (l:=D) (i:=j) (by omega);have hs:=IP D j;rw[UX hd]at h4 hs;rw[drop_cons hd];unfold I8;rw[Ge,Gp,Av hd,po,qF (by simp),AK,wI (n:=(j:Int)+1),wI];cases hx:d.cons[c]? with
   | some x=>
    have vS:=(px.1 hx).1;refine⟨j+1,x,rfl,?_⟩;have e:((c:Int)<(d.cons.length:Int)):=by omega
    simp[e,Av hx]
   | none=>
    have hle:d.cons.length<=c:=by simpa using hx
    obtain⟨t,x,g1,g2⟩:=ih (j+1) N (c-d.cons.length) (by omega) (by omega) (by omega) (by omega);refine⟨t,x,g1,?_⟩;have e:¬ ((c:Int)<(d.cons.length:Int)):=by omega
    rw[<- g2,show ((c:Int)-(d.cons.length:Int))=((c-d.cons.length:Nat):Int) by omega,show ((j:Int)+1)=((j+1:Nat):Int) by omega];simp[e]
 obtain⟨t,x,g1,g2⟩:=key D.length 0 N c (by omega) (by omega) (by omega) (by simpa using hc);refine⟨t,x,by simpa using g1,?_⟩;unfold JW;rw[show (((0:Nat):Int))=0 from rfl]at g2;rw[g2];rfl
end RC
namespace RC
open Go
theorem Mr {D:List AI}(hD:D.length<=1048576)(hn:nc D<=1048576){c:Nat}(hc:c<nc D){N:Nat}(hN:2000000<=N):∃t x,I8 D 0 c=some (t,x)/\DU N D c=some (t:Int):=by
 have key:∀(m j M c:Nat),D.length-j=m->j<=D.length->m<M->c<nc (D.drop j)->∃t x,I8 (D.drop j) j c=some (t,x)/\Ei N D ((nc (D.take j)+c:Nat):Int) M j=some (.inl (t:Int)):=by
  intro m
  induction m with
  | zero=>
   intro j M c h1 h2 _ h3;rw[sJ (by omega)]at h3;simp[nc]at h3
  | succ m ih=>
   intro j M c h1 h2 h3 h4;obtain⟨M,rfl⟩ :∃n,M=n+1:=⟨M-1,by omega⟩
   obtain⟨d,hd,_⟩:=Ba (l:=D) (i:=j) (by omega);have hs:=IP D j;rw[UX hd]at h4 hs;have ht:=NV hd;rw[drop_cons hd];unfold I8;rw[Ei,Gp,KI hD hn (by omega) hN,Av hd];simp only[po];rw[AK,wI (n:=(j:Int)+1),wI (n:=(nc (D.take j):Int)+(d.cons.length:Int)),wI,Cf];simp only[po];cases hx:d.cons[c]? with
   | some x=>
    have vS:=(px.1 hx).1;refine⟨j+1,x,rfl,?_⟩;rw[qF (by simp;omega)];rfl
   | none=>
    have hle:d.cons.length<=c:=by simpa using hx
    obtain⟨t,x,g1,g2⟩:=ih (j+1) M (c-d.cons.length) (by omega) (by omega) (by omega) (by omega);refine⟨t,x,g1,?_⟩;rw[qG (by simp;omega),<- g2,show nc (D.take j)+c=nc (D.take (j+1))+(c-d.cons.length) by omega];rfl
 obtain⟨t,x,g1,g2⟩:=key D.length 0 N c (by omega) (by omega) (by omega) (by simpa using hc);refine⟨t,x,by simpa using g1,?_⟩;unfold DU;rw[show nc (D.take 0)+c=c by simp[nc],show (((0:Nat):Int))=0 from rfl]at g2;rw[g2];rfl
theorem PR {D:List AI}(hD:D.length<=1048576)(hn:nc D<=1048576){c:Int}(hc:c<0∨(nc D:Int)<=c){N:Nat}(hN:2000000<=N):DU N D c=some (-1):=by
 unfold DU;have key:∀{M j:Nat},j<=D.length->D.length-j<M->Ei N D c M j=some (.inr ()):=by
  intro M j hj hM;refine Bm D.length (λM j=>Ei N D c M j=some (.inr ())) ?_ ?_ hj hM
  ·intro n;rw[Ei,G7]
  ·intro n j hj ih;obtain⟨d,hd,_⟩:=Ba hj;have hs:=IP D (j+1);have ht:=NV hd;rw[Ei,Gp,KI hD hn (by omega) hN,Av hd];simp only[po];rw[AK,wI (n:=(j:Int)+1),wI (n:=(nc (D.take j):Int)+(d.cons.length:Int)),wI,Cf];simp only[po];rw[qG (by simp;omega)];exact ih
 have:=key (qd _) (by omega:D.length-0<N);rw[show (((0:Nat):Int))=0 from rfl]at this;rw[this];rfl
end RC
namespace RC
open Go
theorem eM {D:List AI}:∀(m j c t:Nat) (x:EK),D.length-j=m->j<=D.length->I8 (D.drop j) j c=some (t,x)->∃d,1<=t/\D[t-1]?=some d/\nc (D.take (t-1))<=nc (D.take j)+c/\d.cons[nc (D.take j)+c-nc (D.take (t-1))]?=some x:=by
 intro m
 induction m with
 | zero=>
  intro j c t x h1 h2 h;rw[sJ (by omega)]at h;simp[I8]at h
 | succ m ih=>
  intro j c t x h1 h2 h;obtain⟨d,hd,_⟩:=Ba (l:=D) (i:=j) (by omega);have ht:=NV hd;rw[drop_cons hd]at h;unfold I8 at h;cases hx:d.cons[c]? with
  | some y=>
   rw[hx]at h;simp only[pz,rL]at h;obtain⟨rfl,rfl⟩:=h;exact⟨d,by omega,by simpa using hd,by simp,by simpa using hx⟩
  | none=>
   rw[hx]at h;have hle:d.cons.length<=c:=by simpa using hx
   obtain⟨e,g1,g2,g3,g4⟩:=ih (j+1) (c-d.cons.length) t x (by omega) (by omega) h;rw[show nc (D.take (j+1))+(c-d.cons.length)=nc (D.take j)+c by omega]at g3 g4;exact⟨e,g1,g2,g3,g4⟩
theorem H3 {D:List AI}(hD:D.length<=1048576)(hn:nc D<=1048576){c:Nat}(hc:c<nc D){N:Nat}(hN:2000000<=N):∃t x,I8 D 0 c=some (t,x)/\BV N D c=some x.fields:=by
 obtain⟨t,x,e1,e2⟩:=Mr hD hn hc hN;obtain⟨d,g1,g2,g3,g4⟩:=eM (D:=D) D.length 0 c t x (by omega) (by omega) (by simpa using e1);have vS:=(px.1 g2).1;have hs:=IP D (t-1);rw[show nc (D.take 0)+c=c by simp[nc]]at g3 g4;refine⟨t,x,e1,?_⟩;unfold BV;rw[e2];simp only[po];rw[qG (by simp;omega),wI (n:=(t:Int)-1),show ((t:Int)-1)=((t-1:Nat):Int) by omega,Av g2,KI hD hn (by omega) hN];simp only[po];rw[wI,show ((c:Int)-(nc (D.take (t-1)):Int))=((c-nc (D.take (t-1)):Nat):Int) by omega,Av g4];rfl
theorem Uw {D:List AI}(hD:D.length<=1048576)(hn:nc D<=1048576){c:Nat}(hc:c<nc D){N:Nat}(hN:2000000<=N):∃t x,I8 D 0 c=some (t,x)/\Dy N D c=some x.fields:=by
 obtain⟨t,x,e1,e2⟩:=Oy hD hn hc hN;exact⟨t,x,e1,by unfold Dy;rw[e2];rfl⟩
end RC
namespace RC
open Go
def CB (D:List AI)(t:Int):List Int:=
 if 1<=t/\t<=(D.length:Int) then (List.range ((D[(t-1).toNat]?).elim 0 (·.cons.length))).map λ(i:Nat)=>(nc (D.take (t-1).toNat):Int)+(i:Int) else []
theorem WT {f:Nat->Int}{i:Nat}:(List.range (i+1)).map f=(List.range i).map f++[f i]:=by rw[List.range_succ,rM];rfl
theorem Lm {D:List AI}(hD:D.length<=1048576)(hn:nc D<=1048576){t:Int}{N:Nat}(hN:2000000<=N):Gj N D t=some (CB D t):=by
 unfold Gj CB;rw[Cf,AK,po];by_cases h:1<=t/\t<=(D.length:Int)
 ·obtain⟨a,ha⟩ :∃a:Nat,t=(a:Int)+1:=⟨(t-1).toNat,by omega⟩
  subst ha;obtain⟨d,hd,_⟩:=Ba (l:=D) (i:=a) (by omega);have hs:=IP D (a+1);have ht:=NV hd;rw[qG (by simp;omega),qF h,show (((a:Int)+1)-1).toNat=a by omega,hd];simp only[rJ];have key:∀{M i:Nat},i<=d.cons.length->d.cons.length-i<M->Gq N D ((a:Int)+1) M i ((List.range i).map λ(i:Nat)=>(nc (D.take a):Int)+(i:Int))=some ((List.range d.cons.length).map λ(i:Nat)=>(nc (D.take a):Int)+(i:Int)):=by
   intro M i hi hM;refine Bm d.cons.length (λM i=>Gq N D ((a:Int)+1) M i ((List.range i).map λ(i:Nat)=>(nc (D.take a):Int)+(i:Int))=some ((List.range d.cons.length).map λ(i:Nat)=>(nc (D.take a):Int)+(i:Int))) ?_ ?_ hi hM
   ·intro n;rw[Gq,wI,show ((a:Int)+1-1)=((a:Nat):Int) by omega,Av hd,po,G7]
   ·intro n i hi ih;rw[Gq,wI (n:=(a:Int)+1-1),show ((a:Int)+1-1)=((a:Nat):Int) by omega,Av hd,po,Gp,KI hD hn (by omega) hN,po,Cp _ _ _ (by simp;omega) (by simp;omega),wI (n:=(i:Int)+1),wI,show ((i:Int)+1)=((i+1:Nat):Int) by omega,po,<- ih,WT]
  have:=key (qd _) (by omega:d.cons.length-0<N);rw[show (((0:Nat):Int))=0 from rfl,List.range_zero,rf]at this;rw[this];rfl
 ·rw[qF (by simp;omega),qG h]
theorem Jp {D:List AI}(hD:D.length<=1048576)(hn:nc D<=1048576){t:Int}{N:Nat}(hN:2000000<=N):Ji N D t=some (CB D t):=by
 unfold Ji CB;rw[AK];by_cases h:1<=t/\t<=(D.length:Int)
 ·obtain⟨a,ha⟩ :∃a:Nat,t=(a:Int)+1:=⟨(t-1).toNat,by omega⟩
  subst ha;obtain⟨d,hd,_⟩:=Ba (l:=D) (i:=a) (by omega);have hs:=IP D (a+1);have hs0:=IP D a;have ht:=NV hd;have e1:¬ ((a:Int)+1<1):=by omega
  have e2:¬ ((D.length:Int)<(a:Int)+1):=by omega
  rw[qF h,show (((a:Int)+1)-1).toNat=a by omega,hd,wI,show ((a:Int)+1-1)=((a:Nat):Int) by omega,dC (by omega) (by omega),Av hd];simp only[rJ,e1,e2,qM,py,qR,po];rw[Ue (by simp;omega) (by omega) hN,po];have key:∀{M i:Nat},i<=d.cons.length->d.cons.length-i<M->Gu d (nc (D.take a):Int) M i ((List.range i).map λ(i:Nat)=>(nc (D.take a):Int)+(i:Int))=some ((List.range d.cons.length).map λ(i:Nat)=>(nc (D.take a):Int)+(i:Int)):=by
   intro M i hi hM;refine Bm d.cons.length (λM i=>Gu d (nc (D.take a):Int) M i ((List.range i).map λ(i:Nat)=>(nc (D.take a):Int)+(i:Int))=some ((List.range d.cons.length).map λ(i:Nat)=>(nc (D.take a):Int)+(i:Int))) ?_ ?_ hi hM
   ·intro n;rw[Gu,G7]
   ·intro n i hi ih;rw[Gu,Gp];rw[Cp _ _ _ (by simp;omega) (by simp;omega),wI (n:=(i:Int)+1),wI,show ((i:Int)+1)=((i+1:Nat):Int) by omega,po,<- ih,WT]
  have:=key (qd _) (by omega:d.cons.length-0<N);rw[show (((0:Nat):Int))=0 from rfl,List.range_zero,rf]at this;rw[this];rfl
 ·rw[qG h];by_cases e1:t<1
  ·simp[e1]
  ·have e2:(D.length:Int)<t:=by omega
   simp[e1,e2]
end RC
namespace RC
open Go
end RC
namespace RC
open Go
def nb (left:Int)(s:Nat):Int:=if left-s<0 then -1 else left-s
theorem UC {left:Int}{s:Nat}(h:left-s<0):nb left s=-1:=qF h
theorem Ya {left:Int}{s:Nat}(h:¬ left-s<0):nb left s=left-s:=qG h
def cz (c:EK):Nat:=c.fields.length
def dz (d:AI):Nat:=d.cons.length+(d.cons.map cz).sum
end RC
namespace RC
open Go
end RC
namespace RC
open Go
end RC
namespace RC
open Go
def oC (op:Int):Bool:=(decide (0<=op)&&decide (op<=11)&&!decide (op=7)&&!decide (op=8)) || decide (op=18) || decide (op=19)
def preB (p:fZ)(i:aO):Bool:=
 (decide (0<=i.dst)&&decide (i.dst<p.pG))&&(decide (i.dst=0) || oC i.op)&&(decide (i.Ed=0) || decide (i.op=6))&&(decide (i.op=21) || decide (i.jumps.length=0))
end RC
namespace RC
open Go
section
variable {im : lU} {p : fZ} {at_ : Nat} {i : aO} {N : Nat}
end
end RC
namespace RC
open Go
theorem Jl {α:Type}(f:α->Nat){l:List α}{x:α}(h:x∈l):f x<=(l.map f).sum:=by
 induction l with
 | nil=>cases h
 | cons y r ih=>
  rw[qj,sn];rcases qH.1 h with rfl|h
  ·omega
  ·have:=ih h;omega
end RC
namespace RC
open Go
end RC
namespace RC
open Go
end RC
namespace RC
open Go
mutual
def en:AG->Nat|.mk _ _ k=>1+CN k
def CN:List AG->Nat|[]=>0|e::l=>en e+CN l
end
theorem LL (e:AG):en e=1+CN e.kids:=by cases e;simp[en,AG.kids]
theorem ZS {k:List AG}{i:Nat}{e:AG}(h:k[i]?=some e):CN (k.drop i)=en e+CN (k.drop (i+1)):=by rw[drop_cons h];simp[CN]
theorem Qb (e:AG):1<=en e:=by rw[LL];omega
theorem Kk {k:List AG}{e:AG}(h:e∈k):en e<=CN k:=by
 induction k with
 | nil=>cases h
 | cons c k ih=>
  simp only[CN];rcases qH.1 h with rfl|h
  ·omega
  ·have:=ih h;omega
theorem LZ (k:List AG):k.length<=CN k:=by
 induction k with
 | nil=>simp
 | cons c k ih=>have:=Qb c;simp only[CN,qa];omega
theorem FX {e k:AG}(h:k∈e.kids):en k<en e:=by have:=Kk h;rw[LL e];omega
def lV (f:Ar):Nat:=f.params.length+CN f.body.kids
def dG (p:AP):Nat:=(p.decls.length+(p.decls.map dz).sum)+(p.funcs.length+(p.funcs.map lV).sum)
theorem Wo {N:Nat}(hN:2000000<=N):∀(n:Nat) (e:AG) (left:Int),left<=1000->0<=left->left<n->CN e.kids<=1048576->Fs N n e left=some (nb left (en e)):=by
 intro n
 induction n with
 | zero=>intro e left _ _ h;omega
 | succ n ih=>
  intro e left h0 hl0 h1 hz;rw[Fs];unfold KJ;have hp:=LL e;have hle:=LZ e.kids;by_cases h2:left<1
  ·rw[qF (by simpa using h2),UC (by omega)]
  ·rw[qG (by simpa using h2),wI];have key:∀{M i:Nat},i<=e.kids.length->e.kids.length-i<M->∀l:Int,0<=l->l<left->EU e (Fs N n) M l i=some (if l-(CN (e.kids.drop i):Int)<0 then .inl (-1) else .inr (l-(CN (e.kids.drop i):Int))):=by
    intro M i hi hM;refine Bm e.kids.length (λM i=>∀l:Int,0<=l->l<left->EU e (Fs N n) M l i=some (if l-(CN (e.kids.drop i):Int)<0 then .inl (-1) else .inr (l-(CN (e.kids.drop i):Int)))) ?_ ?_ hi hM
    ·intro m l l0 l1;rw[EU,G7];simp[CN];omega
    ·intro m i hi ih2 l l0 l1;obtain⟨x,hx,zG⟩:=Ba hi;have hz2:=Kk zG;have e1:=LL x;rw[EU,Gp,Av hx,po,ih x l (by omega) l0 (by omega) (by omega),ZS hx,po];by_cases h3:l-(en x:Int)<0
     ·rw[UC h3,qF (by simp),qF (by omega)]
     ·rw[Ya h3,qG (by simpa using h3),wI,show ((i:Int)+1)=((i+1:Nat):Int) by omega,ih2 (l-(en x:Int)) (by omega) (by omega)];rw[show l-(en x:Int)-(CN (e.kids.drop (i+1)):Int)=l-((en x+CN (e.kids.drop (i+1)):Nat):Int) by omega]
   have:=key (qd _) (by omega:e.kids.length-0<N) (left-1) (by omega) (by omega);rw[uS,rG]at this;rw[this];by_cases h3:left-1-(CN e.kids:Int)<0
   ·rw[qF h3,UC (by omega)];rfl
   ·rw[qG h3,Ya (by omega)];simp only[Sh.JO];congr 1;omega
theorem LD {e:AG}(hz:CN e.kids<=1048576){N:Nat}(hN:2000000<=N):I5 N e=some (if en e<=30 then (en e:Int) else -1):=by
 unfold I5 Ny;rw[Wo hN N e 30 (by omega) (by omega) (by omega) hz,po];by_cases h:en e<=30
 ·rw[Ya (by omega),qF h,qG (by simp;omega),wI];congr 1;omega
 ·rw[UC (by omega),qG h];rfl
theorem Vc {N:Nat}(hN:2000000<=N):∀(n:Nat) (e:AG) (c:Nat),c<=30->31-c<n->CN e.kids<=1048576->E3 N n c e=some (if c+en e<=30 then (true,((c+en e:Nat):Int)) else (false,31)):=by
 intro n
 induction n with
 | zero=>intro e c _ h;omega
 | succ n ih=>
  intro e c h0 h1 hz;rw[E3];unfold Jg;have hp:=LL e;have hle:=LZ e.kids;rw[wI];by_cases h2:c=30
  ·subst h2;rw[qF (by simp),qG (by omega)];rfl
  ·rw[qG (by simp;omega)];have key:∀{M i:Nat},i<=e.kids.length->e.kids.length-i<M->∀d:Nat,c<d->d<=30->EF e (E3 N n) M i d=some (if d+CN (e.kids.drop i)<=30 then .inr ((d+CN (e.kids.drop i):Nat):Int) else .inl (false,31)):=by
    intro M i hi hM;refine Bm e.kids.length (λM i=>∀d:Nat,c<d->d<=30->EF e (E3 N n) M i d=some (if d+CN (e.kids.drop i)<=30 then .inr ((d+CN (e.kids.drop i):Nat):Int) else .inl (false,31))) ?_ ?_ hi hM
    ·intro m d l0 l1;rw[EF,G7];simp[CN,l1]
    ·intro m i hi ih2 d l0 l1;obtain⟨x,hx,zG⟩:=Ba hi;have hz2:=Kk zG;have e1:=LL x;rw[EF,Gp,Av hx,po,ih x d l1 (by omega) (by omega),ZS hx,po];by_cases h3:d+en x<=30
     ·rw[qF h3];simp only[rA,py,qR];rw[wI,show ((i:Int)+1)=((i+1:Nat):Int) by omega,ih2 (d+en x) (by omega) h3,rF]
     ·have h4:¬ (d+(en x+CN (List.drop (i+1) e.kids))<=30):=by omega
      rw[qG h3,qG h4];rfl
   have:=key (qd _) (by omega:e.kids.length-0<N) (c+1) (by omega) (by omega);rw[uS,rG,show ((c+1:Nat):Int)=(c:Int)+1 by omega]at this;rw[this];by_cases h3:c+1+CN e.kids<=30
   ·rw[qF h3,qF (by omega)];simp only[Sh.JO];rw[show c+1+CN e.kids=c+en e by omega]
   ·rw[qG h3,qG (by omega)];rfl
theorem VA {e:AG}(hz:CN e.kids<=1048576){N:Nat}(hN:2000000<=N):Lg N e=some (if en e<=30 then (en e:Int) else -1):=by
 unfold Lg NI;have:=Vc hN N e 0 (by omega) (by omega) hz;rw[uS,rT]at this;rw[this,po];by_cases h:en e<=30
 ·rw[qF h,qF h];rfl
 ·rw[qG h,qG h];rfl
end RC
namespace RC
open Go
theorem PE {α:Type}{g:Nat->α->Bool}:∀(l:List α) (k:Nat),E4 g k l=true↔∀(i:Nat) x,l[i]?=some x->g (k+i) x=true
 | [],_=>by simp[E4]
 | x::r,k=>by
  rw[E4,qP,PE r (k+1)];constructor
  ·rintro⟨h1,h2⟩ i y hy;cases i with
   | zero=>simp only[qg,pz]at hy;subst hy;exact h1
   | succ i=>have:=h2 i y hy;rw[show k+(i+1)=k+1+i by omega];exact this
  ·intro h;exact⟨h 0 x rfl,λi y hy=>by have:=h (i+1) y hy;rw[show k+(i+1)=k+1+i by omega]at this;exact this⟩
theorem T4 {a b:List Int}(h:a.length=b.length):E4 (λi x=>decide (b[i]?=some x)) 0 a=decide (a=b):=by
 rw[tn,PE,sD];constructor
 ·intro g;refine sX λi=>?_;by_cases hi:i<a.length
  ·obtain⟨x,hx,_⟩:=Ba hi;have:=g i x hx;rw[sD,rT]at this;rw[hx,this]
  ·rw[rR (by omega),rR (by omega)]
 ·rintro rfl i x hx;rw[sD,rT,hx]
theorem J4 {a b:List Int}(ha:a.length<=1048576){N:Nat}(hN:2000000<=N):DF N a b=some (decide (a=b)):=by
 unfold DF;by_cases h:a.length=b.length
 ·rw[qG (by simp[AK,h]),D5 (l:=a) (D3 a b) (λi x=>decide (b[i]?=some x)) (λn=>by rw[D3,G7]) (λn i x hx=>?_) (by omega),D6,T4 h]
  ·cases decide (a=b)<;>rfl
  ·have hi:=(px.1 hx).1;obtain⟨y,hy,_⟩:=Ba (l:=b) (i:=i) (by omega);rw[D3,Gp,Av hx,po,Av hy,hy,wI,show ((i:Int)+1)=((i+1:Nat):Int) by omega,po];by_cases e:x=y
   ·simp[e]
   ·have e':¬ y=x:=λq=>e q.symm;simp[e,e']
 ·have vZ:¬ a=b:=λe=>h (by rw[e]);have h':¬ ((a.length:Int)=(b.length:Int)):=by omega
  simp[AK,h',vZ]
structure FN (D:List AI) (F:List Ar):Prop where
 MY:D.length<=4
 RJ :∀d∈D,d.cons.length<=3
 N7 :∀d∈D,∀c∈d.cons,c.fields.length<=3/\∀t∈c.fields,Cg D t=true
 gJ :∀d∈D,Cg D d.from_=true/\Cg D d.to=true
 Na:F.length<=4
 Nf :∀f∈F,f.params.length<=3/\(∀t∈f.params,Cg D t=true)/\Cg D f.result=true
theorem YL {D:List AI}(h :∀d∈D,d.cons.length<=3):nc D<=3*D.length:=by
 induction D with
 | nil=>simp[nc]
 | cons d r ih=>
  have h1:=h d (by simp);have h2:=ih λe he=>h e (by simp[he]);simp only[nc,qj,sn,qa]at h2⊢;omega
theorem FN.nc {D:List AI}{F:List Ar}(S:FN D F):nc D<=12:=by have:=YL S.RJ;have:=S.MY;omega
theorem IH {D:List AI}{t:Int}(h:Cg D t=true):0<=t/\t<=(D.length:Int):=by
 unfold Cg at h;simpa using h
theorem FN.of {p:AP}(h:N1 p.decls (p.funcs.map λf=>(f.params,f.result))=true):FN p.decls p.funcs:=by
 unfold N1 at h;simp only[qP,qc,tk,qJ]at h;obtain⟨h1,⟨_,h2⟩,h3,_⟩:=h;unfold PU at h1;simp only[qP,qJ]at h1;obtain⟨h4,h5⟩:=h1;rw[PE]at h5;have hd:∀d∈p.decls,∃i,Nt p.decls i d=true:=λd hd=>by
  obtain⟨i,hi⟩:=qf.1 hd;exact⟨_,h5 i d hi⟩
 refine⟨h4,λd hm=>?_,λd hm c hc=>?_,λd hm=>?_,h2,λf hf=>?_⟩
 ·obtain⟨i,hi⟩:=hd d hm;unfold Nt at hi;split at hi
  ·simp only[qP,qJ]at hi;exact hi.1.1
  ·omega
 ·obtain⟨i,hi⟩:=hd d hm;unfold Nt at hi;split at hi
  ·simp only[qP,qJ,qC]at hi;have:=hi.2 c hc;unfold TM at this;simp only[qP,qJ,qC]at this;exact this
  ·have:=sS hc;omega
 ·obtain⟨i,hi⟩:=hd d hm;unfold Nt at hi;split at hi
  ·simp only[qP,qJ]at hi;rw[hi.1.2.1,hi.1.2.2];have:Cg p.decls 0=true:=by unfold Cg;simp
   exact⟨this,this⟩
  ·simp only[qP]at hi;exact hi.2
 ·have:=qC.1 h3 f hf;simp only[Function.comp,QU,qP,qJ,qC]at this;exact this
def Ou (p:AP)(sg:Ah)(R1:AP->List Int->AG->Option Int)(R2:List Int->Ah->AG->Option Int)(T:List Int->AG->Int)(m:Nat):Prop:=
 ∀(v:List Int) (e:AG),BF e->en e<m->v.length+3*en e<=1000->(∀x∈v,Cg p.decls x=true)->R1 p v e=some (T v e)/\R2 v sg e=some (T v e)/\(T v e=-1∨Cg p.decls (T v e)=true)
section
variable {p : AP} {sg : Ah} {R1 : AP -> List Int -> AG -> Option Int} {R2 : List Int -> Ah -> AG -> Option Int} {T : List Int -> AG -> Int} {e : AG} {v : List Int} {N : Nat}
structure Jj (p:AP) (e:AG) (v:List Int):Prop where
 len:v.length+3*en e<=1000
 Ni :∀x∈v,Cg p.decls x=true
 small:en e<=340
 Ch:BF e
theorem Jj.OG (V:Jj p e v){k:AG}(hk:k∈e.kids):v.length+3*en k<=1000:=by have:=V.len;have:=FX hk;omega
theorem Jj.more (V:Jj p e v){k:AG}(hk:k∈e.kids){m:List Int}(hm:m.length<=3):(v++m).length+3*en k<=1000:=by have:=V.len;have:=FX hk;rw[qQ];omega
theorem Jj.UL (V:Jj p e v){m:List Int}(hm :∀x∈m,Cg p.decls x=true):∀x∈v++m,Cg p.decls x=true:=λx hx=>by
 rcases qb.1 hx with h|h
 ·exact V.Ni x h
 ·exact hm x h
theorem Jj.LY (V:Jj p e v):e.kids.length<=340:=by have:=LZ e.kids;have:=V.small;have:=LL e;omega
theorem WG (H:Ou p sg R1 R2 T (en e))(V:Jj p e v)(hN:2000000<=N)(m:Nat):J2 N R1 p v e.kids m=some (decide (e.kids.map (T v)=List.replicate m 0)):=by
 unfold J2;have hk:=V.LY;by_cases h:e.kids.length=m
 ·subst h;rw[qG (by simp[AK]),D5 (l:=e.kids) (G8 p v e.kids e.kids.length R1) (λ_ x=>decide (T v x=0)) (λn=>by rw[G8,qG (by simp)]) (λn i x hx=>?_) (by omega),D6,Fg]
  ·have e1:e.kids.all (λx=>decide (T v x=0))=decide (e.kids.map (T v)=List.replicate e.kids.length 0):=by
    rw[tn,sD,qC,List.eq_replicate_iff];simp
   rw[e1];cases decide (e.kids.map (T v)=List.replicate e.kids.length 0)<;>rfl
  ·have hi:=(px.1 hx).1;have hm:=pt hx;rw[G8,qF (by simp;omega),Av hx,po,(H v x (V.Ch.kids x hm) (FX hm) (V.OG hm) V.Ni).1,wI,show ((i:Int)+1)=((i+1:Nat):Int) by omega,po];by_cases e1:T v x=0<;>simp[e1]
 ·have h1:¬ ((e.kids.length:Int)=(m:Int)):=by omega
  have h2:¬ e.kids.map (T v)=List.replicate m 0:=λq=>h (by have:=rC List.length q;simpa using this);simp[AK,h1,h2]
theorem Vv (H:Ou p sg R1 R2 T (en e))(V:Jj p e v)(hN:2000000<=N)(l:List Int):Ki N R1 p v e.kids l=some (decide (e.kids.map (T v)=l)):=by
 unfold Ki;have hk:=V.LY;by_cases h:e.kids.length=l.length
 ·rw[qG (by simp[AK,h]),D5 (l:=l) (IB p v e.kids l R1) (λi x=>decide ((e.kids.map (T v))[i]?=some x)) (λn=>by rw[IB,G7]) (λn i x hx=>?_) (by omega),D6,T4 (by simp[h])]
  ·by_cases q:l=e.kids.map (T v)
   ·simp[q]
   ·have q':¬ e.kids.map (T v)=l:=λz=>q z.symm;simp[q,q']
  ·have hi:=(px.1 hx).1;obtain⟨y,hy,hm⟩:=Ba (l:=e.kids) (i:=i) (by omega);rw[IB,Gp,Av hy,po,(H v y (V.Ch.kids y hm) (FX hm) (V.OG hm) V.Ni).1,Av hx,wI,show ((i:Int)+1)=((i+1:Nat):Int) by omega,po,qA,hy,qx];by_cases e1:T v y=x<;>simp[e1]
 ·have h1:¬ ((e.kids.length:Int)=(l.length:Int)):=by omega
  have h2:¬ e.kids.map (T v)=l:=λq=>h (by have:=rC List.length q;simpa using this);simp[AK,h1,h2]
theorem bW (H:Ou p sg R1 R2 T (en e))(V:Jj p e v)(hN:2000000<=N):
  CV v sg e R2 N 0 (List.replicate e.kids.length 0)=some (if (e.kids.map (T v)).any (λt=>decide (t<0))=true then .inl (-1) else .inr (e.kids.map (T v))):=by
 have hk:=V.LY;have key:∀{N i:Nat},i<=e.kids.length->e.kids.length-i<N->∀m:List Int,m.length=e.kids.length->m.take i=(e.kids.map (T v)).take i->
   CV v sg e R2 N i m=some (if ((e.kids.map (T v)).drop i).any (λt=>decide (t<0))=true then .inl (-1) else .inr (e.kids.map (T v))):=by
  intro N i hi hN;refine Bm e.kids.length (λN i=>∀m:List Int,m.length=e.kids.length->m.take i=(e.kids.map (T v)).take i->
   CV v sg e R2 N i m=some (if ((e.kids.map (T v)).drop i).any (λt=>decide (t<0))=true then .inl (-1) else .inr (e.kids.map (T v)))) ?_ ?_ hi hN
  ·intro n m a b;rw[CV,G7];rw[rj (by omega),rj (by simp)]at b;rw[b,tA (by simp)];simp
  ·intro n i hi ih m a b;obtain⟨x,hx,zG⟩:=Ba hi;obtain⟨y,hy,_⟩:=Ba (l:=m) (i:=i) (by omega);have hx2:(e.kids.map (T v))[i]?=some (T v x):=by rw[qA,hx];rfl
   have xj:(m.set i (T v x))[i]?=some (T v x):=by rw[qI (by omega)]
   rw[CV,Gp,Av hx,po,(H v x (V.Ch.kids x zG) (FX zG) (V.OG zG) V.Ni).2.1,Av hy,po,T5,Av xj,drop_cons hx2];simp only[po,List.any_cons];by_cases h:T v x<0
   ·simp[h]
   ·rw[qG (by simpa using h),wI,show ((i:Int)+1)=((i+1:Nat):Int) by omega,ih (m.set i (T v x)) (by simp[a]) (by rw[Gg xj,Gg hx2,<- b,tN (qU _)])];simp[h]
 have:=key (qd _) (by omega:e.kids.length-0<N) (List.replicate e.kids.length 0) (by simp) rfl;simpa using this
theorem I6 {a b:List Int}(ha:a.length<=1000)(hb:b.length<=1000):DP a b=some (a++b):=by
 unfold DP EP;rw[Cp [] a 8 (by simp;omega) (by simp;omega)];simp only[po,rN];rw[Cp a b 8 (by omega) (by omega)];rfl
theorem eZ {a b:List Int}(ha:a.length<=1000)(hb:b.length<=1000)(hN:2000000<=N):DT N [a,b]=some (a++b):=by
 obtain⟨n,rfl⟩ :∃n,N=n+3:=⟨N-3,by omega⟩
 unfold DT;have e1:CA [a,b] (n+3) 0 0=some ((a.length+b.length:Nat):Int):=by
  rw[CA,qF (by simp[AK]),show Sh.get [a,b] 0=some a from rfl,po,AK,wI (n:=(0:Int)+1),wI,qG (by rw[qJ];omega)];rw[CA,qF (by simp[AK]),show Sh.get [a,b] (0+1)=some b from rfl,po,AK,wI (n:=(0:Int)+1+1),wI,qG (by rw[qJ];omega)];rw[CA,qG (by simp[AK])];congr 1;omega
 have e2:Bz [a,b] (n+3) 0 []=some (a++b):=by
  rw[Bz,qF (by simp[AK]),show Sh.get [a,b] 0=some a from rfl,po,Cp [] a 8 (by simp;omega) (by simp;omega),wI (n:=(0:Int)+1)];simp only[po,rN];rw[Bz,qF (by simp[AK]),show Sh.get [a,b] (0+1)=some b from rfl,po,Cp a b 8 (by omega) (by omega),Co (n:=(0:Int)+1+1) (by omega) (by omega),po,Bz,qG (by simp[AK])]
 have e3:FI ((a.length+b.length:Nat):Int)=some []:=by
  unfold FI;rw[qG (by simp;omega),wI (n:=(0:Int)-0),wI];by_cases h:0<a.length+b.length
  ·rw[qF (by simp;omega),show (((a.length+b.length:Nat):Int)-(0-0))=((a.length+b.length:Nat):Int) by omega,Mz _ _ _ (by omega) (by omega),po];have:=de (l:=List.replicate (a.length+b.length) (0:Int)) (j:=0) (by omega);rw[uS]at this;rw[this];rfl
  ·rw[qG (by simp;omega)];rfl
 rw[e1,po,e3,po];rw[e2];rfl
def Fb:List Int->Int
 | []=>-1
 | t::r=>if r.all (λx=>decide (x=t))=true then t else -1
theorem MA (H:Ou p sg R1 R2 T (en e))(V:Jj p e v)(hN:2000000<=N){ks:List AG}{ms:List (List Int)}(vx :∀k∈ks,k∈e.kids)(xu:ks.length<=340)(hl:ms.length=ks.length)(hm :∀m∈ms,m.length<=3/\∀x∈m,Cg p.decls x=true):
  Ej N R2 sg v ks ms=some (Fb (List.zipWith (λm k=>T (v++m) k) ms ks)):=by
 unfold Ej;have hvl:v.length<=1000:=by have:=V.len;omega
 have step:∀(n i:Nat) (r:Int) k m,ks[i]?=some k->ms[i]?=some m->Br N sg v ks ms R2 (n+1) r i=if T (v++m) k<0∨(0<i/\T (v++m) k≠r) then some (.inl (-1)) else Br N sg v ks ms R2 n (T (v++m) k) ((i+1:Nat):Int):=by
  intro n i r k m hk hmm;have hi:=(px.1 hk).1;have hmo:=hm m (pt hmm);have hke:=vx k (pt hk);rw[Br,Gp,Av hk,po,Av hmm,po,eZ hvl (by omega) hN,po,(H (v++m) k (V.Ch.kids k hke) (FX hke) (V.more hke hmo.1) (V.UL hmo.2)).2.1,po,wI,show ((i:Int)+1)=((i+1:Nat):Int) by omega];by_cases h1:T (v++m) k<0
  ·simp[h1]
  ·by_cases h2:0<i
   ·by_cases h3:T (v++m) k=r
    ·have xM:¬ r<0:=h3▸h1;simp[xM,h2,h3]
    ·simp[h1,h2,h3]
   ·simp[h1,h2]
 have rest:∀(d i n:Nat) (r:Int),ks.length-i=d->0<i->i<=ks.length->d<n->Br N sg v ks ms R2 n r i=some (if ((List.zipWith (λm k=>T (v++m) k) ms ks).drop i).all (λx=>decide (x=r))=true then (if ((List.zipWith (λm k=>T (v++m) k) ms ks).drop i).any (λx=>decide (x<0))=true then .inl (-1) else .inr r) else .inl (-1)):=by
  intro d
  induction d with
  | zero=>
   intro i n r h1 h2 h3 h4;obtain⟨n,rfl⟩ :∃q,n=q+1:=⟨n-1,by omega⟩
   rw[Br,qG (by simp[AK];omega),tA (by simp;omega)];rfl
  | succ d ih=>
   intro i n r h1 h2 h3 h4;obtain⟨n,rfl⟩ :∃q,n=q+1:=⟨n-1,by omega⟩
   obtain⟨k,hk,_⟩:=Ba (l:=ks) (i:=i) (by omega);obtain⟨m,hmm,_⟩:=Ba (l:=ms) (i:=i) (by omega);have hz:(List.zipWith (λm k=>T (v++m) k) ms ks)[i]?=some (T (v++m) k):=by rw[sA,hk,hmm]
   rw[step n i r k m hk hmm,drop_cons hz,sL,List.any_cons];by_cases h5:T (v++m) k=r
   ·by_cases h6:T (v++m) k<0
    ·rw[qF (.inl h6)];have h6':r<0:=h5▸h6;simp[h5,h6']
    ·rw[qG (by rintro (h|h);exact h6 h;exact h.2 h5),ih (i+1) n _ (by omega) (by omega) (by omega) (by omega)];have h6':¬ r<0:=h5▸h6;simp[h5,h6']
   ·rw[qF (.inr ⟨h2,h5⟩)];simp[h5]
 cases hks0:ks with
 | nil=>
  obtain⟨n,rfl⟩ :∃q,N=q+1:=⟨N-1,by omega⟩
  rw[Br,qG (by simp[AK])];simp[Fb]
 | cons k r=>
  cases hms0:ms with
  | nil=>rw[hks0,hms0]at hl;simp at hl
  | cons m s=>
   rw[<- hks0,<- hms0];obtain⟨n,hn⟩ :∃q,N=q+1:=⟨N-1,by omega⟩
   have h0:=step n 0 (-1) k m (by rw[hks0];rfl) (by rw[hms0];rfl);rw[uS]at h0;have hke:=vx k (by rw[hks0];simp);have hmo:=hm m (by rw[hms0];simp);have hT:=(H (v++m) k (V.Ch.kids k hke) (FX hke) (V.more hke hmo.1) (V.UL hmo.2)).2.2;rw[show Br N sg v ks ms R2 N (-1) 0=Br N sg v ks ms R2 (n+1) (-1) 0 by rw[<- hn],h0];have hzc:List.zipWith (λm k=>T (v++m) k) ms ks=T (v++m) k::List.zipWith (λm k=>T (v++m) k) s r:=by rw[hks0,hms0];rfl
   rw[hzc];unfold Fb;by_cases h1:T (v++m) k<0
   ·rw[qF (.inl h1)];have:T (v++m) k=-1:=by
     rcases hT with h|h
     ·exact h
     ·have:=(IH h).1;omega
    rw[this];simp
   ·rw[qG (by rintro (h|h);exact h1 h;omega),rest _ 1 n _ rfl (by omega) (by rw[hks0];simp) (by omega),hzc,List.drop_succ_cons,rG];by_cases h2:(List.zipWith (λm k=>T (v++m) k) s r).all (λx=>decide (x=T (v++m) k))=true
    ·have h3:¬ (List.zipWith (λm k=>T (v++m) k) s r).any (λx=>decide (x<0))=true:=λh=>by
      obtain⟨x,hx,hx2⟩:=sd.1 h;have:=qC.1 h2 x hx;simp only[qJ]at this hx2;omega
     rw[qF h2,qG h3];dsimp only;rw[qF h2];rfl
    ·rw[qG h2];dsimp only;rw[qG h2];rfl
end
end RC
namespace RC
open Go
theorem gQ {n:Int}(h1:n < -9223372036854775808)(h2:-18446744073709551616<=n):Sh.w n=n+18446744073709551616:=by
 unfold Sh.w;rw[IntKind.wrap_i64];omega
theorem RL {D:List AI}(hD:D.length<=1048576)(hn:nc D<=1048576){c:Int}(hI:JC c)(hc:c<0∨(nc D:Int)<=c){N:Nat}(hN:2000000<=N):JW N D c=some (-1,⟨[]⟩):=by
 have key:∀(m j N:Nat) (c:Int),D.length-j=m->j<=D.length->m<N->JC c->(c<0∨(nc (D.drop j):Int)<=c)->Ge D N c j=some (.inr ()):=by
  intro m
  induction m with
  | zero=>
   intro j N c h1 h2 h3 _ _;obtain⟨N,rfl⟩ :∃n,N=n+1:=⟨N-1,by omega⟩
   rw[Ge,qG (by simp[AK];omega)]
  | succ m ih=>
   intro j N c h1 h2 h3 hI h4;obtain⟨N,rfl⟩ :∃n,N=n+1:=⟨N-1,by omega⟩
   obtain⟨d,hd,_⟩:=Ba (l:=D) (i:=j) (by omega);have hs:=IP D j;rw[UX hd]at h4 hs;rw[Ge,Gp,Av hd,po];have hlo:=hI.1;have hhi:=hI.2;have e1:¬ (0<=c/\c<(d.cons.length:Int)):=by omega
   have e2:(if decide (0<=c)=true then some (decide (c<Sh.len d.cons)) else some false)=some false:=by
    by_cases h0:0<=c
    ·have:¬ c<(d.cons.length:Int):=by omega
     simp[h0,AK,this]
    ·simp[h0]
   rw[wI (n:=(j:Int)+1),show ((j:Int)+1)=((j+1:Nat):Int) by omega,AK];rw[AK]at e2;by_cases h5:c-(d.cons.length:Int) < -9223372036854775808
   ·have:=ih (j+1) N (Sh.w (c-(d.cons.length:Int))) (by omega) (by omega) (by omega) (by rw[gQ h5 (by omega)];unfold JC;omega) (by rw[gQ h5 (by omega)];omega);rw[e2];simp only[po,py,qR];exact this
   ·have:=ih (j+1) N (Sh.w (c-(d.cons.length:Int))) (by omega) (by omega) (by omega) (by rw[wI];unfold JC;omega) (by rw[wI];omega);rw[e2];simp only[po,py,qR];exact this
 have:=key D.length 0 N c (by omega) (by omega) (by omega) hI (by simpa using hc);unfold JW;rw[show (((0:Nat):Int))=0 from rfl]at this;rw[this];rfl
theorem QS:∀{D:List AI} {k c t:Nat} {x:EK},I8 D k c=some (t,x)->k<t/\t<=k+D.length/\∃d∈D,x∈d.cons
 | [],_,_,_,_,h=>by simp[I8]at h
 | d::r,k,c,t,x,h=>by
  unfold I8 at h;cases hx:d.cons[c]? with
  | some y=>
   rw[hx]at h;simp only[pz,rL]at h;obtain⟨rfl,rfl⟩:=h;exact⟨by omega,by simp,d,by simp,pt hx⟩
  | none=>
   rw[hx]at h;obtain⟨h1,h2,e,h3,h4⟩:=QS h;exact⟨by omega,by simp;omega,e,by simp[h3],h4⟩
def Vk (a b:Int)(d:AI):Bool:=decide (d.cons.length=0)&&(decide (d.from_=a)&&decide (d.to=b))
def HW (a b:Int):List AI->Nat->Int
 | [],_=>-1
 | d::r,k=>if Vk a b d=true then (k:Int)+1 else HW a b r (k+1)
theorem XF {a b:Int}:∀(l:List AI) (k:Nat),HW a b l k=-1∨((k:Int)<HW a b l k/\HW a b l k<=k+l.length)
 | [],_=>.inl rfl
 | d::r,k=>by
  unfold HW;by_cases h:Vk a b d=true
  ·rw[qF h];right;simp only[qa];omega
  ·rw[qG h];rcases XF r (k+1) with h1|h1
   ·exact .inl h1
   ·right;simp only[qa];omega
theorem Zb {a b:Int}{d:AI}:(if decide ((Sh.len d.cons)=0)=true then if decide (d.from_=a)=true then some (decide (d.to=b)) else some false else some false)=some (Vk a b d):=by
 unfold Vk;by_cases h1:d.cons.length=0<;>by_cases h2:d.from_=a<;>simp[AK,h1,h2]
theorem NA {D:List AI}(hD:D.length<=1048576){a b:Int}{N:Nat}(hN:2000000<=N):Hr N D a b=some (HW a b D 0):=by
 unfold Hr;have key:∀{M i:Nat},i<=D.length->D.length-i<M->Sh.cont (GR D a b M i) id (λ()=>some (-1))=some (HW a b (D.drop i) i):=by
  intro M i hi hM;refine Bm D.length (λM i=>Sh.cont (GR D a b M i) id (λ()=>some (-1))=some (HW a b (D.drop i) i)) ?_ ?_ hi hM
  ·intro n;rw[GR,G7];simp[HW,Sh.cont]
  ·intro n i hi ih;obtain⟨d,hd,_⟩:=Ba hi;rw[GR,Gp,Av hd,drop_cons hd,po,Zb,wI,show ((i:Int)+1)=((i+1:Nat):Int) by omega];simp only[po,HW];by_cases h:Vk a b d=true
   ·rw[qF h,qF h];simp[Sh.cont]
   ·rw[qG h,qG h,ih]
 have:=key (qd _) (by omega:D.length-0<N);simpa using this
theorem Py {D:List AI}(hD:D.length<=1048576){a b:Int}{N:Nat}(hN:2000000<=N):Lj N D a b=some (HW a b D 0):=by
 unfold Lj;have key:∀{M i:Nat},i<=D.length->D.length-i<M->Sh.cont (GU D a b M i) id (λ()=>some (-1))=some (HW a b (D.drop i) i):=by
  intro M i hi hM;refine Bm D.length (λM i=>Sh.cont (GU D a b M i) id (λ()=>some (-1))=some (HW a b (D.drop i) i)) ?_ ?_ hi hM
  ·intro n;rw[GU,G7];simp[HW,Sh.cont]
  ·intro n i hi ih;obtain⟨d,hd,_⟩:=Ba hi;rw[GU,Gp,Av hd,drop_cons hd,po,Zb,wI,show ((i:Int)+1)=((i+1:Nat):Int) by omega];simp only[po,HW];by_cases h:Vk a b d=true
   ·rw[qF h,qF h];simp[Sh.cont]
   ·rw[qG h,qG h,ih]
 have:=key (qd _) (by omega:D.length-0<N);simpa using this
def KY (D:List AI)(t:Int):Option AI:=if 1<=t/\t<=(D.length:Int) then (D[(t-1).toNat]?).bind λd=>if d.cons.length=0 then some d else none else none
theorem QA {D:List AI}{t:Int}{d:AI}(h:KY D t=some d):d∈D/\1<=t/\t<=(D.length:Int)/\D[(t-1).toNat]?=some d:=by
 unfold KY at h;split at h
 ·rename_i h1;obtain⟨e,he,h2⟩:=qh.1 h;split at h2
  ·cases h2;exact⟨pt he,h1.1,h1.2,he⟩
  ·cases h2
 ·cases h
theorem NH {D:List AI}(hD:D.length<=1048576){t:Int}:Hs D t=some ((KY D t).elim (⟨0,0,[]⟩,false) λd=>(d,true)):=by
 unfold Hs KY;by_cases h:1<=t/\t<=(D.length:Int)
 ·obtain⟨a,ha⟩ :∃a:Nat,t=(a:Int)+1:=⟨(t-1).toNat,by omega⟩
  subst ha;obtain⟨d,hd,_⟩:=Ba (l:=D) (i:=a) (by omega);have e1:¬ ((a:Int)+1<1):=by omega
  have e2:¬ ((D.length:Int)<(a:Int)+1):=by omega
  rw[qF h,wI,show ((a:Int)+1-1)=((a:Nat):Int) by omega,Av hd,rv,hd];by_cases h2:d.cons.length=0
  ·have h2':d.cons=[]:=qV h2;simp[e1,e2,AK,h2']
  ·have h3:0<d.cons.length:=by omega
   have h2':¬ d.cons=[]:=λq=>h2 (by rw[q];rfl);simp[e1,e2,AK,h2',h3]
 ·rw[qG h];by_cases h1:t<1
  ·simp[h1]
  ·have h2:(D.length:Int)<t:=by omega
   simp[h1,AK,h2]
theorem Hy {D:List AI}(hD:D.length<=1048576){t:Int}:F7 D t=some (KY D t).isSome:=by
 unfold F7 KY;rw[Cf];by_cases h:1<=t/\t<=(D.length:Int)
 ·obtain⟨a,ha⟩ :∃a:Nat,t=(a:Int)+1:=⟨(t-1).toNat,by omega⟩
  subst ha;obtain⟨d,hd,_⟩:=Ba (l:=D) (i:=a) (by omega);have e1:((1:Int)<=(a:Int)+1):=by omega
  have e2:((a:Int)+1<=(D.length:Int)):=by omega
  rw[qF h,wI,show ((a:Int)+1-1)=((a:Nat):Int) by omega,Av hd,rv,hd];by_cases h2:d.cons=[]<;>simp[e1,e2,AK,h2]
 ·rw[qG h];have:(decide (1<=t)&&decide (t<=Sh.len D))=false:=by
   rw[AK];by_cases h1:1<=t
   ·have h2:¬ t<=(D.length:Int):=λq=>h ⟨h1,q⟩;simp[h1,h2]
   ·simp[h1]
  simp[this]
section
variable {p : AP} {sg : Ah} {R1 : AP -> List Int -> AG -> Option Int} {R2 : List Int -> Ah -> AG -> Option Int} {T : List Int -> AG -> Int} {e : AG} {v : List Int} {N : Nat}
theorem HD (H:Ou p sg R1 R2 T (en e))(V:Jj p e v)(hN:2000000<=N)(h1:¬ e.op=12)(h2:¬ e.op=13)(h3:¬ e.op=7)(h4:¬ e.op=8):
  BG N R2 v sg e=if (e.kids.map (T v)).any (λt=>decide (t<0))=true then some (-1) else (AS N sg e.op e.num (e.kids.map (T v))).bind λq=>if q.2=true then some q.1 else some (-1):=by
 unfold BG;have hk:=V.LY;simp only[h1,h2,h3,h4,qM,py,qR];rw[AK,Mz _ _ _ (by omega) (by omega),po,bW H V hN];by_cases h:(e.kids.map (T v)).any (λt=>decide (t<0))=true
 ·rw[qF h,qF h];rfl
 ·rw[qG h,qG h];simp only[Sh.JO];cases AS N sg e.op e.num (e.kids.map (T v)) with
  | none=>rfl
  | some q=>simp only[po];cases q.2<;>rfl
theorem Mm (H:Ou p sg R1 R2 T (en e))(V:Jj p e v)(hN:2000000<=N)(h1:¬ e.op=12)(h2:¬ e.op=13)(h3:¬ e.op=7)(h4:¬ e.op=8){want:List Int}{c:Bool}{t:Int}(hw :∀x∈want,0<=x)
  (hs:AS N sg e.op e.num (e.kids.map (T v))=some (t,c&&decide (e.kids.map (T v)=want))) :
  BG N R2 v sg e=some (if c=true/\e.kids.map (T v)=want then t else -1):=by
 rw[HD H V hN h1 h2 h3 h4,hs];by_cases h:e.kids.map (T v)=want
 ·have:¬ (e.kids.map (T v)).any (λt=>decide (t<0))=true:=λq=>by
   obtain⟨x,hx,hx2⟩:=sd.1 q;have:=hw x (h▸hx);simp only[qJ]at hx2;omega
  rw[qG this];cases c<;>simp[h]
 ·have hn:¬ (c=true/\e.kids.map (T v)=want):=λq=>h q.2;rw[qG hn];simp[h]
end
end RC
namespace RC
open Go
def G0 (p:AP):Ah:=⟨p.decls,p.funcs.map λf=>⟨f.params,[],f.result⟩⟩
section
variable {p : AP} {R1 : AP -> List Int -> AG -> Option Int} {R2 : List Int -> Ah -> AG -> Option Int} {T : List Int -> AG -> Int} {e : AG} {v : List Int} {N : Nat}
def Mh (p:AP)(R1:AP->List Int->AG->Option Int)(R2:List Int->Ah->AG->Option Int)(N:Nat)(v:List Int)(e:AG):Prop:=
 ∃t,CR N R1 p v e=some t/\BG N R2 v (G0 p) e=some t/\(t=-1∨Cg p.decls t=true)
theorem ix {D:List AI}:Cg D 0=true:=by unfold Cg;simp
theorem len_nil {α:Type}{l:List α}:decide ((Sh.len l)=0)=decide (l=[]):=by
 cases l with
 | nil=>rfl
 | cons x r=>exact rP.2 (by rw[AK,qa];exact⟨λh=>by omega,λh=>nomatch h⟩)
theorem iM (H:Ou p (G0 p) R1 R2 T (en e))(V:Jj p e v)(hN:2000000<=N)(h:e.op=0):Mh p R1 R2 N v e:=by
 have h1:=Mm H V hN (by omega) (by omega) (by omega) (by omega) (want:=[]) (c:=decide (-999<=e.num)&&decide (e.num<=999)) (t:=0) (by simp) (by
  unfold AS;simp only[h,qN,qe,len_nil];by_cases a:-999<=e.num<;>by_cases b:e.num<=999<;>simp[a,b,Sh.cont])
 refine⟨_,?_,h1,?_⟩
 ·unfold CR;simp only[h,qN,qe,len_nil,Cf];by_cases a:-999<=e.num<;>by_cases b:e.num<=999<;>by_cases c:e.kids=[]<;>simp[a,b,c,Sh.cont]
 ·split
  ·exact .inr ix
  ·exact .inl rfl
theorem cw (H:Ou p (G0 p) R1 R2 T (en e))(V:Jj p e v)(hN:2000000<=N)(h:e.op=1∨e.op=2∨e.op=3∨e.op=4):Mh p R1 R2 N v e:=by
 have hk:=V.LY;have h1:=Mm H V hN (by omega) (by omega) (by omega) (by omega) (want:=[0,0]) (c:=decide (e.num=0)) (t:=0) (by simp) (by
  unfold AS;have e3:DF N (e.kids.map (T v)) [0,0]=some (decide (e.kids.map (T v)=[0,0])):=J4 (by simp;omega) hN;rcases h with h|h|h|h<;>simp only[h,Int.reduceEq,qN,qM,py,qe,qR,po,Sh.JO]<;>rw[e3]<;>by_cases a:e.num=0<;>simp[a])
 refine⟨_,?_,h1,?_⟩
 ·unfold CR;have e2:=WG H V hN 2;rw[show ((2:Nat):Int)=2 from rfl,show List.replicate 2 (0:Int)=[0,0] from rfl]at e2;rcases h with h|h|h|h<;>simp only[h,Int.reduceEq,qN,qM,py,qe,qR,po]<;>rw[e2]<;>by_cases a:e.num=0<;>by_cases b:e.kids.map (T v)=[0,0]<;>simp[a,b,Sh.cont]
 ·split
  ·exact .inr ix
  ·exact .inl rfl
theorem ca (H:Ou p (G0 p) R1 R2 T (en e))(V:Jj p e v)(hN:2000000<=N)(h:e.op=5):Mh p R1 R2 N v e:=by
 have hk:=V.LY;have h1:=Mm H V hN (by omega) (by omega) (by omega) (by omega) (want:=[0]) (c:=decide (e.num=0)) (t:=0) (by simp) (by
  unfold AS;simp only[h,Int.reduceEq,qN,qM,py,qe,qR,po,Sh.JO];rw[J4 (by simp;omega) hN];by_cases a:e.num=0<;>simp[a])
 refine⟨_,?_,h1,?_⟩
 ·unfold CR;have e2:=WG H V hN 1;rw[show ((1:Nat):Int)=1 from rfl,show List.replicate 1 (0:Int)=[0] from rfl]at e2;simp only[h,Int.reduceEq,qN,qM,py,qe,qR,po];rw[e2];by_cases a:e.num=0<;>by_cases b:e.kids.map (T v)=[0]<;>simp[a,b,Sh.cont]
 ·split
  ·exact .inr ix
  ·exact .inl rfl
theorem jV (H:Ou p (G0 p) R1 R2 T (en e))(V:Jj p e v)(S:FN p.decls p.funcs)(hN:2000000<=N)(h:e.op=6):Mh p R1 R2 N v e:=by
 have hk:=V.LY;have hD:=S.MY;have hn:=S.nc;by_cases hr:0<=e.num/\e.num<(nc p.decls:Int)
 ·obtain⟨c,hc⟩:=qu hr.1;have hc2:c<nc p.decls:=by omega
  obtain⟨t,x,e1,e2⟩:=Mr (D:=p.decls) (by omega) (by omega) hc2 hN;obtain⟨t',x',e1',e3⟩:=H3 (D:=p.decls) (by omega) (by omega) hc2 hN;obtain⟨t'',x'',e1'',e4⟩:=Oy (D:=p.decls) (by omega) (by omega) hc2 hN;rw[e1]at e1' e1'';cases e1';cases e1'';obtain⟨g1,g2,d,g3,g4⟩:=QS e1;have hx:=S.N7 d g3 x g4;have h1:=Mm H V hN (by omega) (by omega) (by omega) (by omega) (want:=x.fields) (c:=true) (t:=(t:Int)) (λy hy=>(IH (hx.2 y hy)).1) (by
   unfold AS;simp only[h,Int.reduceEq,qN,qM,py,qe,qR,po];rw[hc,show (G0 p).decls=p.decls from rfl,e4,po,J4 (by simp;omega) hN,qF (by simp)];simp[Sh.cont])
  refine⟨_,?_,h1,?_⟩
  ·unfold CR;simp only[h,Int.reduceEq,qN,qM,py,qe,qR,po];rw[hc,e2,e3];simp only[po];rw[Vv H V hN,qF (by simp;omega)];by_cases b:e.kids.map (T v)=x.fields<;>simp[b,Sh.cont]
  ·split
   ·right;unfold Cg;simp;omega
   ·exact .inl rfl
 ·refine⟨-1,?_,?_,.inl rfl⟩
  ·unfold CR;simp only[h,Int.reduceEq,qN,qM,py,qe,qR,po];rw[PR (by omega) (by omega) (by omega) hN];simp[Sh.cont]
  ·rw[HD H V hN (by omega) (by omega) (by omega) (by omega)];unfold AS;simp only[h,Int.reduceEq,qN,qM,py,qe,qR,po];rw[show (G0 p).decls=p.decls from rfl,RL (by omega) (by omega) V.Ch.num (by omega) hN];simp[Sh.cont]
theorem cE (H:Ou p (G0 p) R1 R2 T (en e))(V:Jj p e v)(hN:2000000<=N)(h:e.op<0∨13<e.op):Mh p R1 R2 N v e:=by
 refine⟨-1,?_,?_,.inl rfl⟩
 ·unfold CR;simp only[show ¬ e.op=0 by omega,show ¬ e.op=12 by omega,show ¬ e.op=1 by omega,show ¬ e.op=2 by omega,show ¬ e.op=3 by omega,show ¬ e.op=4 by omega,show ¬ e.op=5 by omega,show ¬ e.op=6 by omega,show ¬ e.op=13 by omega,show ¬ e.op=7 by omega,show ¬ e.op=8 by omega,show ¬ e.op=9 by omega,show ¬ e.op=10 by omega,show ¬ e.op=11 by omega,qM,py,qR,po];simp[Sh.cont]
 ·rw[HD H V hN (by omega) (by omega) (by omega) (by omega)];unfold AS;simp only[show ¬ e.op=0 by omega,show ¬ e.op=12 by omega,show ¬ e.op=1 by omega,show ¬ e.op=2 by omega,show ¬ e.op=3 by omega,show ¬ e.op=4 by omega,show ¬ e.op=5 by omega,show ¬ e.op=6 by omega,show ¬ e.op=13 by omega,show ¬ e.op=7 by omega,show ¬ e.op=8 by omega,show ¬ e.op=9 by omega,show ¬ e.op=10 by omega,show ¬ e.op=11 by omega,qM,py,qR,po];simp[Sh.cont]
theorem gu (V:Jj p e v)(h:e.op=12):Mh p R1 R2 N v e:=by
 have hv:v.length<=1000:=by have:=V.len;omega
 unfold Mh CR BG;simp only[h,Int.reduceEq,qN,qM,py,qe,qR,po,len_nil,Cf];rw[AK,wI];cases vx:e.kids with
 | cons a r=>exact⟨-1,by simp[Sh.cont],by simp[AK],.inl rfl⟩
 | nil=>
  by_cases h1:0<=e.num
  ·by_cases h2:e.num<(v.length:Int)
   ·obtain⟨x,g1,g2⟩:=Lf h1 h2;have h3:e.num<=(v.length:Int)-1:=by omega
    have h4:¬ e.num<0:=by omega
    have h5:¬ (v.length:Int)<=e.num:=by omega
    refine⟨x,?_,?_,.inr (V.Ni x (pt g2))⟩
    ·simp[h1,h3,g1,Sh.cont]
    ·simp[h4,h5,g1,AK]
   ·have h3:¬ e.num<=(v.length:Int)-1:=by omega
    have h4:¬ e.num<0:=by omega
    have h5:(v.length:Int)<=e.num:=by omega
    exact⟨-1,by simp[h1,h3,Sh.cont],by simp[h4,h5,AK],.inl rfl⟩
  ·have h4:e.num<0:=by omega
   exact⟨-1,by simp[h1,Sh.cont],by simp[h4,AK],.inl rfl⟩
end
end RC
namespace RC
open Go
section
variable {p : AP} {R1 : AP -> List Int -> AG -> Option Int} {R2 : List Int -> Ah -> AG -> Option Int} {T : List Int -> AG -> Int} {e : AG} {v : List Int} {N : Nat}
theorem jT (H:Ou p (G0 p) R1 R2 T (en e))(V:Jj p e v)(h:e.op=13):Mh p R1 R2 N v e:=by
 have hv:v.length<=1000:=by have:=V.len;omega
 unfold Mh CR BG;simp only[h,Int.reduceEq,qN,qM,py,qe,qR,po];by_cases hl:e.kids.length=2
 ·obtain⟨a,b,hk⟩ :∃a b,e.kids=[a,b]:=by
   match hk:e.kids,hl with
   | [a,b],_=>exact⟨a,b,rfl⟩
  have wU:a∈e.kids:=by rw[hk];simp
  have yi:b∈e.kids:=by rw[hk];simp
  obtain⟨a1,a2,a3⟩:=H v a (V.Ch.kids a wU) (FX wU) (V.OG wU) V.Ni;have g0:Sh.get e.kids 0=some a:=by rw[hk];rfl
  have g1:Sh.get e.kids 1=some b:=by rw[hk];rfl
  rw[g0,g1];simp only[po,AK,hl];rw[a1,a2];simp only[po];by_cases hn:e.num=0
  ·by_cases ht:0<=T v a
   ·have ht':¬ T v a<0:=by omega
    have xe:Cg p.decls (T v a)=true:=by
     rcases a3 with q|q
     ·omega
     ·exact q
    obtain⟨b1,b2,b3⟩:=H (v++[T v a]) b (V.Ch.kids b yi) (FX yi) (V.more yi (by simp)) (V.UL (by simp[xe]));refine⟨T (v++[T v a]) b,?_,?_,b3⟩
    ·rw[I6 hv (by simp)];simp[hn,ht,b1,Sh.cont]
    ·rw[Cp v [T v a] 8 (by simp;omega) (by simp;omega)];simp[hn,ht',b2]
   ·have ht':T v a<0:=by omega
    exact⟨-1,by simp[hn,ht,Sh.cont],by simp[hn,ht'],.inl rfl⟩
  ·exact⟨-1,by simp[hn,Sh.cont],by simp[hn],.inl rfl⟩
 ·have yk:¬ ((e.kids.length:Int)=2):=by omega
  refine⟨-1,?_,?_,.inl rfl⟩
  ·by_cases hn:e.num=0<;>simp[hn,AK,yk,Sh.cont]
  ·simp[AK,yk]
theorem jW (x y:Int):Fb [x,y]=if y=x then x else -1:=by
 unfold Fb;by_cases h:y=x<;>simp[h]
theorem kr (H:Ou p (G0 p) R1 R2 T (en e))(V:Jj p e v)(hN:2000000<=N)(h:e.op=7):Mh p R1 R2 N v e:=by
 have hv:v.length<=1000:=by have:=V.len;omega
 unfold Mh CR BG;simp only[h,Int.reduceEq,qN,qM,py,qe,qR,po];by_cases hl:e.kids.length=3
 ·obtain⟨a,b,c,hk⟩ :∃a b c,e.kids=[a,b,c]:=by
   match hk:e.kids,hl with
   | [a,b,c],_=>exact⟨a,b,c,rfl⟩
  have wU:a∈e.kids:=by rw[hk];simp
  have yi:b∈e.kids:=by rw[hk];simp
  have hmc:c∈e.kids:=by rw[hk];simp
  obtain⟨a1,a2,a3⟩:=H v a (V.Ch.kids a wU) (FX wU) (V.OG wU) V.Ni;obtain⟨b1,b2,b3⟩:=H v b (V.Ch.kids b yi) (FX yi) (V.OG yi) V.Ni;obtain⟨c1,c2,c3⟩:=H v c (V.Ch.kids c hmc) (FX hmc) (V.OG hmc) V.Ni;have g0:Sh.get e.kids 0=some a:=by rw[hk];rfl
  have g1:Sh.get e.kids 1=some b:=by rw[hk];rfl
  have g2:Sh.get e.kids 2=some c:=by rw[hk];rfl
  have g3:Sh.sl e.kids 1 3=some [b,c]:=by rw[hk];rfl
  have o:=MA (ks:=[b,c]) (ms:=[[],[]]) H V hN (by intro k hk;simp only[qH,qi,rI]at hk;rcases hk with rfl|rfl<;>assumption) (by simp) rfl (by simp);have mk2:Sh.mk ([]:List Int) 2 24=some [[],[]]:=Mz [] 2 24 (by omega) (by omega);rw[g0,g1,g2];simp only[po,AK,hl];rw[a1,a2,b1,c1,show ((3:Nat):Int)=3 from rfl,g3,mk2];simp only[po];rw[o];simp only[po,List.zipWith,rY,jW];by_cases hn:e.num=0
  ·by_cases ht:T v a=0
   ·by_cases hq:T v c=T v b
    ·exact⟨T v b,by simp[hn,ht,hq,Sh.cont],by simp[hn,ht,hq],b3⟩
    ·exact⟨-1,by simp[hn,ht,hq,Sh.cont],by simp[hn,ht,hq],.inl rfl⟩
   ·exact⟨-1,by simp[hn,ht,Sh.cont],by simp[hn,ht],.inl rfl⟩
  ·exact⟨-1,by simp[hn,Sh.cont],by simp[hn],.inl rfl⟩
 ·have yk:¬ ((e.kids.length:Int)=3):=by omega
  refine⟨-1,?_,?_,.inl rfl⟩
  ·by_cases hn:e.num=0<;>simp[hn,AK,yk,Sh.cont]
  ·simp[AK,yk]
theorem gT {n:Int}:(∃f,0<=n/\n<(p.funcs.length:Int)/\p.funcs[n.toNat]?=some f/\f∈p.funcs/\Sh.get p.funcs n=some f/\Sh.get (G0 p).funcs n=some ⟨f.params,[],f.result⟩)∨(n<0∨(p.funcs.length:Int)<=n):=by
 by_cases h:0<=n/\n<(p.funcs.length:Int)
 ·obtain⟨f,h1,h2⟩:=Lf h.1 h.2;refine .inl ⟨f,h.1,h.2,h2,pt h2,h1,?_⟩;rw[P9 h.1];show ((p.funcs.map λf=>(⟨f.params,[],f.result⟩:BX)))[n.toNat]?=_;rw[qA,h2];rfl
 ·exact .inr (by omega)
theorem PG:(G0 p).funcs.length=p.funcs.length:=by show (p.funcs.map _).length=_;simp
theorem fN (H:Ou p (G0 p) R1 R2 T (en e))(V:Jj p e v)(S:FN p.decls p.funcs)(hN:2000000<=N)(h:e.op=9):Mh p R1 R2 N v e:=by
 have hk:=V.LY;have hF:=S.Na;rcases gT (p:=p) (n:=e.num) with ⟨f,f0,f1,f2,f3,f4,f5⟩|hr
 ·obtain⟨q1,q2,q3⟩:=S.Nf f f3;have f0':¬ e.num<0:=by omega
  have f1':¬ (p.funcs.length:Int)<=e.num:=by omega
  have f1'':e.num<=(p.funcs.length:Int)-1:=by omega
  have h1:=Mm H V hN (by omega) (by omega) (by omega) (by omega) (want:=f.params) (c:=true) (t:=f.result) (λy hy=>(IH (q2 y hy)).1) (by
   unfold AS;simp only[h,Int.reduceEq,qN,qM,py,qe,qR,po,AK,PG,f0',f1'];rw[f5,po,J4 (by simp;omega) hN];simp[Sh.cont])
  refine⟨_,?_,h1,?_⟩
  ·unfold CR HG;simp only[h,Int.reduceEq,qN,qM,py,qe,qR,po];rw[Cf,AK p.funcs,wI (n:=(p.funcs.length:Int)-1),f4];simp only[h,Int.reduceEq,qN,qM,py,qe,qR,po,f0,f1'',sU,rA];rw[Vv H V hN];by_cases b:e.kids.map (T v)=f.params<;>simp[b,Sh.cont]
  ·split
   ·exact .inr q3
   ·exact .inl rfl
 ·refine⟨-1,?_,?_,.inl rfl⟩
  ·unfold CR HG;simp only[h,Int.reduceEq,qN,qM,py,qe,qR,po];rw[Cf,AK p.funcs,wI (n:=(p.funcs.length:Int)-1)];have:(decide (0<=e.num)&&decide (e.num<=(p.funcs.length:Int)-1))=false:=by
    rw[qz,qW,qW];omega
   rw[this];simp only[h,Int.reduceEq,qN,qM,py,qe,qR,po];simp[Sh.cont]
  ·rw[HD H V hN (by omega) (by omega) (by omega) (by omega)];unfold AS;simp only[h,Int.reduceEq,qN,qM,py,qe,qR,po,AK,PG];rcases hr with hr|hr
   ·simp[hr,Sh.cont]
   ·have:¬ e.num<0:=by omega
    simp[hr,this,Sh.cont]
theorem UQ {α:Type}{l:List α}{m:Nat}(h:m<=l.length):Sh.sl l 0 (m:Int)=some (l.take m):=by
 unfold Sh.sl;rw[qF ⟨by omega,by omega,by omega⟩];simp
theorem cf (H:Ou p (G0 p) R1 R2 T (en e))(V:Jj p e v)(S:FN p.decls p.funcs)(hN:2000000<=N)(h:e.op=10):Mh p R1 R2 N v e:=by
 have hk:=V.LY;have hF:=S.Na;have hD:=S.MY;rcases gT (p:=p) (n:=e.num) with ⟨f,f0,f1,f2,f3,f4,f5⟩|hr
 ·obtain⟨q1,q2,q3⟩:=S.Nf f f3;have f0':¬ e.num<0:=by omega
  have f1':¬ (p.funcs.length:Int)<=e.num:=by omega
  have f1'':e.num<=(p.funcs.length:Int)-1:=by omega
  by_cases hp:f.params.length=0
  ·have zi:f.params=[]:=qV hp;refine⟨-1,?_,?_,.inl rfl⟩
   ·unfold CR HG;simp only[h,Int.reduceEq,qN,qM,py,qe,qR,po];rw[Cf,AK p.funcs,wI (n:=(p.funcs.length:Int)-1),f4];simp only[h,Int.reduceEq,qN,qM,py,qe,qR,po,f0,f1'',sU,rA,len_nil,zi];simp[Sh.cont]
   ·rw[HD H V hN (by omega) (by omega) (by omega) (by omega)];unfold AS;simp only[h,Int.reduceEq,qN,qM,py,qe,qR,po,AK,PG,f0',f1'];rw[f5];simp only[po,hp];rw[wI];simp[Sh.cont]
  ·obtain⟨m,hm⟩ :∃m,f.params.length=m+1:=⟨f.params.length-1,by omega⟩
   obtain⟨x,hx,zG⟩:=Ba (l:=f.params) (i:=m) (by omega);have zi:¬ f.params=[]:=λq=>hp (by rw[q];rfl);have hw:Sh.w ((f.params.length:Int)-1)=(m:Int):=by rw[wI];omega
   have hm0:¬ ((m:Int)<0):=by omega
   have xe:HW x f.result p.decls 0=-1∨Cg p.decls (HW x f.result p.decls 0)=true:=by
    rcases XF (a:=x) (b:=f.result) p.decls 0 with q|q
    ·exact .inl q
    ·right;unfold Cg;simp;omega
   have h1:=Mm H V hN (by omega) (by omega) (by omega) (by omega) (want:=f.params.take m) (c:=decide (0<=HW x f.result p.decls 0)) (t:=HW x f.result p.decls 0) (λy hy=>(IH (q2 y (rO hy))).1) (by
    unfold AS;simp only[h,Int.reduceEq,qN,qM,py,qe,qR,po,AK,PG,f0',f1'];rw[f5];simp only[po,hw,hm0,qM,py,qR];rw[Av hx];simp only[po];rw[show (G0 p).decls=p.decls from rfl,Py (by omega) hN,UQ (by omega)];simp only[po];rw[J4 (by simp;omega) hN];by_cases z:0<=HW x f.result p.decls 0<;>simp[z,Sh.cont])
   refine⟨_,?_,h1,?_⟩
   ·unfold CR HG;simp only[h,Int.reduceEq,qN,qM,py,qe,qR,po];rw[Cf,AK p.funcs,wI (n:=(p.funcs.length:Int)-1),f4];simp only[h,Int.reduceEq,qN,qM,py,qe,qR,po,f0,f1'',sU,rA,len_nil,zi];rw[AK,hw,UQ (by omega),Av hx];simp only[po];rw[Vv H V hN,NA (by omega) hN];by_cases b:e.kids.map (T v)=f.params.take m
    ·by_cases z:0<=HW x f.result p.decls 0
     ·simp[b,z,Sh.cont]
     ·have:HW x f.result p.decls 0=-1:=by
       rcases xe with q|q
       ·exact q
       ·exact absurd (IH q).1 z
      simp[b,this,Sh.cont]
    ·simp[b,Sh.cont]
   ·split
    ·exact xe
    ·exact .inl rfl
 ·refine⟨-1,?_,?_,.inl rfl⟩
  ·unfold CR HG;simp only[h,Int.reduceEq,qN,qM,py,qe,qR,po];rw[Cf,AK p.funcs,wI (n:=(p.funcs.length:Int)-1)];have:(decide (0<=e.num)&&decide (e.num<=(p.funcs.length:Int)-1))=false:=by
    rw[qz,qW,qW];omega
   rw[this];simp only[h,Int.reduceEq,qN,qM,py,qe,qR,po];simp[Sh.cont]
  ·rw[HD H V hN (by omega) (by omega) (by omega) (by omega)];unfold AS;simp only[h,Int.reduceEq,qN,qM,py,qe,qR,po,AK,PG];rcases hr with hr|hr
   ·simp[hr,Sh.cont]
   ·have:¬ e.num<0:=by omega
    simp[hr,this,Sh.cont]
theorem bn (H:Ou p (G0 p) R1 R2 T (en e))(V:Jj p e v)(S:FN p.decls p.funcs)(hN:2000000<=N)(h:e.op=11):Mh p R1 R2 N v e:=by
 have hk:=V.LY;have hD:=S.MY;by_cases hl:e.kids.length=2
 ·obtain⟨a,b,hk⟩ :∃a b,e.kids=[a,b]:=by
   match hk:e.kids,hl with
   | [a,b],_=>exact⟨a,b,rfl⟩
  have wU:a∈e.kids:=by rw[hk];simp
  have yi:b∈e.kids:=by rw[hk];simp
  obtain⟨a1,a2,a3⟩:=H v a (V.Ch.kids a wU) (FX wU) (V.OG wU) V.Ni;obtain⟨b1,b2,b3⟩:=H v b (V.Ch.kids b yi) (FX yi) (V.OG yi) V.Ni;have g0:Sh.get e.kids 0=some a:=by rw[hk];rfl
  have g1:Sh.get e.kids 1=some b:=by rw[hk];rfl
  have i1:Sh.get (e.kids.map (T v)) 0=some (T v a):=by rw[hk];rfl
  have i2:Sh.get (e.kids.map (T v)) 1=some (T v b):=by rw[hk];rfl
  have imp:BG N R2 v (G0 p) e=some ((KY p.decls (T v a)).elim (-1) λd=>if T v b=d.from_/\e.num=0 then d.to else -1):=by
   rw[HD H V hN (by omega) (by omega) (by omega) (by omega)];unfold AS;simp only[h,Int.reduceEq,qN,qM,py,qe,qR,po,AK,qc,hl];rw[i1,i2,po,show (G0 p).decls=p.decls from rfl,NH (by omega),po];cases hA:KY p.decls (T v a) with
   | none=>simp[Sh.cont]
   | some d=>
    obtain⟨m1,m2,m3,m4⟩:=QA hA;have m5:=S.gJ d m1;have n1:¬ T v a<0:=by omega
    by_cases c1:T v b=d.from_
    ·have n2:¬ T v b<0:=by rw[c1];have:=(IH m5.1).1;omega
     have n3:¬ d.from_<0:=c1▸n2;by_cases c2:e.num=0<;>simp[hk,n1,c1,n3,c2,Sh.cont]
    ·simp[c1,Sh.cont]
  refine⟨_,?_,imp,?_⟩
  ·unfold CR;simp only[h,Int.reduceEq,qN,qM,py,qe,qR,po,AK,hl];rw[g0,g1];simp only[po];rw[a1];simp only[po];rw[Hy (by omega),b1];simp only[po];cases hA:KY p.decls (T v a) with
   | none=>by_cases c2:e.num=0<;>simp[c2,Sh.cont]
   | some d=>
    obtain⟨m1,m2,m3,m4⟩:=QA hA;have g5:Sh.get p.decls (Sh.w (T v a-1))=some d:=by rw[wI,P9 (by omega),m4]
    rw[g5];by_cases c2:e.num=0<;>by_cases c1:T v b=d.from_<;>simp[c1,c2,Sh.cont]
  ·cases hA:KY p.decls (T v a) with
   | none=>exact .inl rfl
   | some d=>
    obtain⟨m1,_⟩:=QA hA;simp only[rJ];split
    ·exact .inr (S.gJ d m1).2
    ·exact .inl rfl
 ·have yk:¬ ((e.kids.length:Int)=2):=by omega
  refine⟨-1,?_,?_,.inl rfl⟩
  ·unfold CR;simp only[h,Int.reduceEq,qN,qM,py,qe,qR,po,AK,yk];by_cases c2:e.num=0<;>simp[c2,Sh.cont]
  ·rw[HD H V hN (by omega) (by omega) (by omega) (by omega)];unfold AS;simp only[h,Int.reduceEq,qN,qM,py,qe,qR,po,AK,qc,yk];simp[Sh.cont]
end
end RC
namespace RC
open Go
def E2 (D:List AI)(c:Int):List Int:=(I8 D 0 c.toNat).elim [] λx=>x.2.fields
theorem fg {D:List AI}{t c:Int}(h:c∈CB D t):∃k:Nat,c=(k:Int)/\k<nc D:=by
 unfold CB at h;split at h
 ·rename_i h1;obtain⟨a,ha⟩ :∃a:Nat,t=(a:Int)+1:=⟨(t-1).toNat,by omega⟩
  subst ha;obtain⟨d,hd,_⟩:=Ba (l:=D) (i:=a) (by omega);rw[show (((a:Int)+1)-1).toNat=a by omega,hd]at h;simp only[rJ,qT,rm]at h;obtain⟨i,hi,rfl⟩:=h;have hs:=IP D a;rw[UX hd]at hs;exact⟨nc (D.take a)+i,by omega,by omega⟩
 ·cases h
theorem L4 {D:List AI}(h :∀d∈D,d.cons.length<=3)(t:Int):(CB D t).length<=3:=by
 unfold CB;split
 ·rename_i h1;obtain⟨a,ha⟩ :∃a:Nat,t=(a:Int)+1:=⟨(t-1).toNat,by omega⟩
  subst ha;obtain⟨d,hd,hm⟩:=Ba (l:=D) (i:=a) (by omega);rw[show (((a:Int)+1)-1).toNat=a by omega,hd];simp only[rJ,qc,List.length_range];exact h d hm
 ·simp
theorem Kt {D:List AI}{F:List Ar}(S:FN D F){t c:Int}(h:c∈CB D t){N:Nat}(hN:2000000<=N):BV N D c=some (E2 D c)/\Dy N D c=some (E2 D c)/\(E2 D c).length<=3/\∀x∈E2 D c,Cg D x=true:=by
 obtain⟨k,rfl,hk⟩:=fg h;have hD:=S.MY;have hn:=S.nc;obtain⟨t,x,e1,e2⟩:=H3 (D:=D) (by omega) (by omega) hk hN;obtain⟨t',x',e1',e3⟩:=Uw (D:=D) (by omega) (by omega) hk hN;rw[e1]at e1';cases e1';obtain⟨_,_,d,g3,g4⟩:=QS e1;have hf:E2 D (k:Int)=x.fields:=by unfold E2;rw[rv,e1];rfl
 rw[hf];exact⟨e2,e3,S.N7 d g3 x g4⟩
section
variable {p : AP} {R1 : AP -> List Int -> AG -> Option Int} {R2 : List Int -> Ah -> AG -> Option Int} {T : List Int -> AG -> Int} {e : AG} {v : List Int} {N : Nat}
theorem Qv (S:FN p.decls p.funcs)(hN:2000000<=N){C:List Int}(hC:C.length<=3)(hc :∀c∈C,Dy N p.decls c=some (E2 p.decls c)):CU N (G0 p) C N 0 (List.replicate C.length [])=some (C.map (E2 p.decls)):=by
 have key:∀{M i:Nat},i<=C.length->C.length-i<M->∀m:List (List Int),m.length=C.length->m.take i=(C.map (E2 p.decls)).take i->CU N (G0 p) C M i m=some (C.map (E2 p.decls)):=by
  intro M i hi hM;refine Bm C.length (λM i=>∀m:List (List Int),m.length=C.length->m.take i=(C.map (E2 p.decls)).take i->CU N (G0 p) C M i m=some (C.map (E2 p.decls))) ?_ ?_ hi hM
  ·intro n m a b;rw[CU,G7];rw[rj (by omega),rj (by simp)]at b;rw[b]
  ·intro n i hi ih m a b;obtain⟨x,hx,zG⟩:=Ba hi;obtain⟨y,hy,_⟩:=Ba (l:=m) (i:=i) (by omega);have hx2:(C.map (E2 p.decls))[i]?=some (E2 p.decls x):=by rw[qA,hx];rfl
   have xj:(m.set i (E2 p.decls x))[i]?=some (E2 p.decls x):=by rw[qI (by omega)]
   rw[CU,Gp,Av hx,po,show (G0 p).decls=p.decls from rfl,hc x zG,Av hy,po,T5,wI,show ((i:Int)+1)=((i+1:Nat):Int) by omega];exact ih _ (by simp[a]) (by rw[Gg xj,Gg hx2,<- b,tN (qU _)])
 have:=key (qd _) (by omega:C.length-0<N) (List.replicate C.length []) (by simp) rfl;simpa using this
theorem cI (H:Ou p (G0 p) R1 R2 T (en e))(V:Jj p e v)(S:FN p.decls p.funcs)(hN:2000000<=N)(h:e.op=8):Mh p R1 R2 N v e:=by
 have hk:=V.LY;have hD:=S.MY;have hn:=S.nc;have hv:v.length<=1000:=by have:=V.len;omega
 have hCl:=L4 S.RJ e.num;unfold Mh CR BG Lq;simp only[h,Int.reduceEq,qN,qM,py,qe,qR,po];rw[show (G0 p).decls=p.decls from rfl,Lm (by omega) (by omega) hN,Jp (by omega) (by omega) hN];simp only[po];generalize hCe:CB p.decls e.num=C at hCl;have hCm:∀c∈C,BV N p.decls c=some (E2 p.decls c)/\Dy N p.decls c=some (E2 p.decls c)/\(E2 p.decls c).length<=3/\∀x∈E2 p.decls c,Cg p.decls x=true:=λc hc=>Kt S (hCe▸hc) hN;rw[AK C,AK e.kids,wI (n:=1+(C.length:Int))];by_cases h0:C.length=0
 ·exact⟨-1,by simp[h0,Sh.cont],by simp[h0],.inl rfl⟩
 ·have ye:¬ ((C.length:Int)=0):=by omega
  have vZ:¬ C=[]:=λq=>h0 (by rw[q];rfl);by_cases h1:e.kids.length=1+C.length
  ·have xM:((e.kids.length:Int)=1+(C.length:Int)):=by omega
   obtain⟨a,r,vx⟩ :∃a r,e.kids=a::r:=by
    cases hq:e.kids with
    | nil=>rw[hq]at h1;simp at h1;omega
    | cons a r=>exact⟨a,r,rfl⟩
   have hrl:r.length=C.length:=by rw[vx]at h1;simp at h1;omega
   have wU:a∈e.kids:=by rw[vx];simp
   have hmr:∀k∈r,k∈e.kids:=λk hk=>by rw[vx];simp[hk]
   obtain⟨a1,a2,a3⟩:=H v a (V.Ch.kids a wU) (FX wU) (V.OG wU) V.Ni;have g0:Sh.get e.kids 0=some a:=by rw[vx];rfl
   have gi:∀(i:Nat) k,r[i]?=some k->Sh.get e.kids ((1+i:Nat):Int)=some k:=λi k hk=>by
    rw[X8,vx,Nat.add_comm];simpa using hk
   have g3:Sh.sl e.kids 1 (e.kids.length:Int)=some r:=by
    unfold Sh.sl;rw[qF ⟨by omega,by omega,by omega⟩,vx];simp
   have mkC:Sh.mk ([]:List Int) (C.length:Int) 24=some (List.replicate C.length []):=Mz [] C.length 24 (by omega) (by omega);have o:=MA (ks:=r) (ms:=C.map (E2 p.decls)) H V hN hmr (by omega) (by simp[hrl]) (by
    intro m hm;obtain⟨c,hc,rfl⟩:=qT.1 hm;exact (hCm c hc).2.2)
   have F:=Qv (p:=p) S hN hCl λc hc=>(hCm c hc).2.1;generalize hts:List.zipWith (λm k=>T (v++m) k) (C.map (E2 p.decls)) r=ts at o;have tsl:ts.length=C.length:=by rw[<- hts];simp[hrl]
   have tsi:∀(i:Nat),i<C.length->∃c k,C[i]?=some c/\r[i]?=some k/\ts[i]?=some (T (v++E2 p.decls c) k)/\BV N p.decls c=some (E2 p.decls c)/\DP v (E2 p.decls c)=some (v++E2 p.decls c)/\R1 p (v++E2 p.decls c) k=some (T (v++E2 p.decls c) k)/\(T (v++E2 p.decls c) k=-1∨Cg p.decls (T (v++E2 p.decls c) k)=true):=λi hi=>by
    obtain⟨c,hc,xH⟩:=Ba (l:=C) (i:=i) hi;obtain⟨k,hk2,xE⟩:=Ba (l:=r) (i:=i) (by omega);obtain⟨q1,q2,q3,q4⟩:=hCm c xH;obtain⟨z1,z2,z3⟩:=H (v++E2 p.decls c) k (V.Ch.kids k (hmr k xE)) (FX (hmr k xE)) (V.more (hmr k xE) q3) (V.UL q4);refine⟨c,k,hc,hk2,?_,q1,I6 hv (by omega),z1,z3⟩;rw[<- hts,sA,qA,hc,hk2];rfl
   have L:∀(t:Int) {M i:Nat},i<=C.length->C.length-i<M->FJ N p v e t C R1 M i=some (if (ts.drop i).all (λx=>decide (x=t))=true then .inr () else .inl (-1)):=by
    intro t M i hi hM;refine Bm C.length (λM i=>FJ N p v e t C R1 M i=some (if (ts.drop i).all (λx=>decide (x=t))=true then .inr () else .inl (-1))) ?_ ?_ hi hM
    ·intro n;rw[FJ,G7,tA (by omega)];rfl
    ·intro n i hi ih;obtain⟨c,k,q1,q2,q3,q4,q5,q6,q7⟩:=tsi i hi;rw[FJ,Gp,Av q1];simp only[po];rw[q4];simp only[po];rw[q5,wI (n:=(1:Int)+(i:Int)),show ((1:Int)+(i:Int))=((1+i:Nat):Int) by omega,gi i k q2];simp only[po];rw[q6,wI,show ((i:Int)+1)=((i+1:Nat):Int) by omega,drop_cons q3,sL];simp only[po];by_cases z:T (v++E2 p.decls c) k=t
     ·simp only[z,qN,rA,py,qR,ta];exact ih
     ·simp[z]
   rw[g0,g3,mkC];simp only[po];rw[a1,a2];simp only[po];rw[F];simp only[po];rw[o];obtain⟨c,k,q1,q2,q3,q4,q5,q6,q7⟩:=tsi 0 (by omega);have g1:=gi 0 k q2;have c0:Sh.get C 0=some c:=by rw[show (0:Int)=((0:Nat):Int) from rfl,Av q1]
   rw[show ((1+0:Nat):Int)=1 from rfl]at g1;rw[c0];simp only[po];rw[q4];simp only[po];rw[q5,g1];simp only[po];rw[q6];simp only[po];have L1:=L (T (v++E2 p.decls c) k) (M:=N) (i:=1) (by omega) (by omega);rw[show ((1:Nat):Int)=1 from rfl]at L1;rw[L1];have hts2:ts=T (v++E2 p.decls c) k::ts.drop 1:=by
    have:=drop_cons q3;simpa using this
   by_cases z:T v a=e.num
   ·by_cases y:(ts.drop 1).all (λx=>decide (x=T (v++E2 p.decls c) k))=true
    ·have ho:Fb ts=T (v++E2 p.decls c) k:=by rw[hts2];unfold Fb;dsimp only;rw[if_pos y]
     refine⟨T (v++E2 p.decls c) k,?_,?_,q7⟩
     ·rw[qF y];simp[ye,vZ,xM,z,Sh.cont]
     ·rw[ho];simp[ye,vZ,xM,z]
    ·have ho:Fb ts=-1:=by rw[hts2];unfold Fb;dsimp only;rw[if_neg y]
     refine⟨-1,?_,?_,.inl rfl⟩
     ·rw[qG y];simp[ye,vZ,xM,z,Sh.cont]
     ·rw[ho];simp[ye,vZ,xM,z]
   ·exact⟨-1,by simp[ye,vZ,xM,z,Sh.cont],by simp[ye,vZ,xM,z],.inl rfl⟩
  ·have xM:¬ ((e.kids.length:Int)=1+(C.length:Int)):=by omega
   exact⟨-1,by simp[ye,vZ,xM,Sh.cont],by simp[ye,vZ,xM],.inl rfl⟩
theorem ef (H:Ou p (G0 p) R1 R2 T (en e))(V:Jj p e v)(S:FN p.decls p.funcs)(hN:2000000<=N):Mh p R1 R2 N v e:=by
 by_cases h0:e.op=0
 ·exact iM H V hN h0
 by_cases h1:e.op=1∨e.op=2∨e.op=3∨e.op=4
 ·exact cw H V hN h1
 by_cases h5:e.op=5
 ·exact ca H V hN h5
 by_cases h6:e.op=6
 ·exact jV H V S hN h6
 by_cases h7:e.op=7
 ·exact kr H V hN h7
 by_cases h8:e.op=8
 ·exact cI H V S hN h8
 by_cases h9:e.op=9
 ·exact fN H V S hN h9
 by_cases h10:e.op=10
 ·exact cf H V S hN h10
 by_cases h11:e.op=11
 ·exact bn H V S hN h11
 by_cases h12:e.op=12
 ·exact gu V h12
 by_cases h13:e.op=13
 ·exact jT H V h13
 exact cE H V hN (by omega)
end
theorem Zh {p:AP}(S:FN p.decls p.funcs){N:Nat}(hN:2000000<=N):∀(n:Nat),∃T:List Int->AG->Int,∀(v:List Int) (e:AG),BF e->en e<n->v.length+3*en e<=1000->(∀x∈v,Cg p.decls x=true)->
  ∀n1 n2,n<=n1->n<=n2->D1 N n1 p v e=some (T v e)/\Bo N n2 v (G0 p) e=some (T v e)/\(T v e=-1∨Cg p.decls (T v e)=true):=by
 intro n
 induction n with
 | zero=>exact⟨λ_ _=>0,λv e _ h=>by omega⟩
 | succ n ih=>
  obtain⟨T,hT⟩:=ih;refine⟨λv e=>(D1 N (n+1) p v e).getD 0,λv e hi hn hl ht n1 n2 h1 h2=>?_⟩;have step:∀n1 n2,n<=n1->n<=n2->Mh p (D1 N n1) (Bo N n2) N v e:=λn1 n2 h1 h2=>
   ef (T:=T) (λv e a b c d=>hT v e a (by omega) c d n1 n2 h1 h2) ⟨hl,ht,by have:=hl;omega,hi⟩ S hN
  obtain⟨m1,rfl⟩ :∃m,n1=m+1:=⟨n1-1,by omega⟩
  obtain⟨m2,rfl⟩ :∃m,n2=m+1:=⟨n2-1,by omega⟩
  obtain⟨t,q1,q2,q3⟩:=step n n (qU _) (qU _);obtain⟨t',r1,r2,_⟩:=step n m2 (qU _) (by omega);obtain⟨t'',s1,s2,_⟩:=step m1 n (by omega) (qU _);have e1:t'=t:=by rw[q1]at r1;cases r1;rfl
  have e2:t''=t:=by rw[q2]at s2;cases s2;rfl
  subst e1;subst e2;have e3:(D1 N (n+1) p v e).getD 0=t'':=by rw[D1,q1];rfl
  dsimp only;rw[e3];exact⟨by rw[D1];exact s1,by rw[Bo];exact r2,q3⟩
end RC
namespace RC
open Go
structure Hh (p:AP):Prop where
 Ch:cB p
 size:dG p<=1048576
theorem Hh.decls {p:AP}(S:Hh p):RD p.decls:=by
 have h:=S.size;unfold dG at h;have hd:∀d∈p.decls,dz d<=1048576:=λd hd=>by have:=Jl dz hd;omega
 refine⟨by omega,λd hm=>?_,λd hm c hc=>?_⟩
 ·have:=hd d hm;unfold dz at this;omega
 ·have:=hd d hm;unfold dz at this;have:=Jl cz hc;show cz c<=_;omega
theorem Hh.Na {p:AP}(S:Hh p):p.funcs.length<=1048576:=by have h:=S.size;unfold dG at h;omega
theorem Hh.fz {p:AP}(S:Hh p){f:Ar}(hf:f∈p.funcs):f.params.length<=1048576/\CN f.body.kids<=1048576:=by
 have h:=S.size;unfold dG at h;have h2:=Jl lV hf;have h3:lV f=f.params.length+CN f.body.kids:=rfl;omega
theorem Hh.fin {p:AP}(S:Hh p){f:Ar}(hf:f∈p.funcs):XL f:=S.Ch.funcs.1 f hf
def Rg (p:AP):Bool:=N1 p.decls (p.funcs.map λf=>(f.params,f.result))
theorem Tz {p:AP}(S:Hh p){N:Nat}(hN:2000000<=N):HY N p=some (Rg p):=Oj S.decls S.Na (λf hf=>(S.fz hf).1) hN
theorem eu {p:AP}(hl:p.funcs.length<=1048576){N:Nat}(hN:2000000<=N):Ea p N 0 []=some (G0 p).funcs:=by
 have key:∀{N i:Nat},i<=p.funcs.length->p.funcs.length-i<N->Ea p N i ((G0 p).funcs.take i)=some (G0 p).funcs:=by
  intro N i hi hN;refine Bm p.funcs.length (λN i=>Ea p N i ((G0 p).funcs.take i)=some (G0 p).funcs) ?_ ?_ hi hN
  ·intro n;rw[Ea,G7,rj (by rw[PG];omega)]
  ·intro n i hi ih;obtain⟨f,hf,_⟩:=Ba hi;have hf2:(G0 p).funcs[i]?=some ⟨f.params,[],f.result⟩:=by
    show (p.funcs.map _)[i]?=_;rw[qA,hf];rfl
   rw[Ea,Gp,Av hf,po,Cp _ _ _ (by simp;omega) (by simp;omega),wI,show ((i:Int)+1)=((i+1:Nat):Int) by omega,po,<- ih,Gg hf2]
 have:=key (qd _) (by omega:p.funcs.length-0<N);simpa using this
theorem eF {p:AP}(hl:p.funcs.length<=1048576){N:Nat}(hN:2000000<=N):MV N p=some (G0 p):=by
 have key:∀{N i:Nat},i<=p.funcs.length->p.funcs.length-i<N->Gt p N i ((G0 p).funcs.take i)=some (G0 p).funcs:=by
  intro N i hi hN;refine Bm p.funcs.length (λN i=>Gt p N i ((G0 p).funcs.take i)=some (G0 p).funcs) ?_ ?_ hi hN
  ·intro n;rw[Gt,G7,rj (by rw[PG];omega)]
  ·intro n i hi ih;obtain⟨f,hf,_⟩:=Ba hi;have hf2:(G0 p).funcs[i]?=some ⟨f.params,[],f.result⟩:=by
    show (p.funcs.map _)[i]?=_;rw[qA,hf];rfl
   rw[Gt,Gp,Av hf,po,Cp _ _ _ (by simp;omega) (by simp;omega),wI,show ((i:Int)+1)=((i+1:Nat):Int) by omega,po,<- ih,Gg hf2]
 have:=key (qd _) (by omega:p.funcs.length-0<N);rw[tV,uS]at this;unfold MV;rw[this];rfl
theorem X4 {p:AP}(S:Hh p){N:Nat}(hN:2000000<=N):IU N p=some (Rg p):=by
 have hl:=S.Na;unfold IU Rg;by_cases h4:p.funcs.length<=4
 ·rw[qG (by rw[qJ,AK];omega),eu hl hN,po,Oo S.decls (by rw[PG];exact hl) (λf hf=>by obtain⟨q,hq,rfl⟩:=qT.1 (show f∈p.funcs.map _ from hf);exact⟨(S.fz hq).1,by simp⟩) hN];have e1:((G0 p).funcs.map λf=>(f.params,f.result))=p.funcs.map λf=>(f.params,f.result):=by
   show (p.funcs.map _).map _=_;rw[ra];rfl
  have e2:((G0 p).funcs.all λf=>E4 (Jd f.params f.CE) 0 f.CE)=true:=by
   rw[qC];intro f hf;obtain⟨q,hq,rfl⟩:=qT.1 (show f∈p.funcs.map _ from hf);rfl
  rw[e1,e2];simp
 ·rw[qF (by rw[qJ,AK];omega)];have:N1 p.decls (p.funcs.map λf=>(f.params,f.result))=false:=by
   unfold N1;simp[h4]
  rw[this]
def NC (p:AP)(T:List Int->AG->Int)(f:Ar):Bool:=decide (en f.body<=30)&&decide (T f.params f.body=f.result)
theorem O1 {p:AP}(S:Hh p){N:Nat}(hN:2000000<=N):∃b,Ec N p=some b/\H7 N p=some b/\(b=true->FN p.decls p.funcs/\∀f∈p.funcs,en f.body<=30):=by
 unfold Ec H7;rw[Tz S hN,X4 S hN];simp only[po];cases hs:Rg p with
 | false=>exact⟨false,rfl,rfl,λh=>nomatch h⟩
 | true=>
  have SO:=FN.of hs;have hl:=S.Na;obtain⟨T,hT⟩:=Zh SO hN 31;have xe:∀f∈p.funcs,en f.body<=30->OJ N p f.params f.body=some (T f.params f.body)/\JP N f.params (G0 p) f.body=some (T f.params f.body)/\(T f.params f.body=-1∨Cg p.decls (T f.params f.body)=true):=λf hf he=>by
   obtain⟨q1,q2,q3⟩:=SO.Nf f hf;exact hT f.params f.body (S.fin hf).body (by omega) (by omega) q2 N N (by omega) (by omega)
  have yp:∀f∈p.funcs,Bx f.params=some f.params:=λf hf=>by
   obtain⟨q1,q2,q3⟩:=SO.Nf f hf;unfold Bx;rw[Cp [] f.params 8 (by simp;omega) (by simp;omega)];rfl
  have L1:=D5 (l:=p.funcs) (DE N p) (λ_ f=>NC p T f) (λn=>by rw[DE,G7]) (λn i f hi=>by
   have wz:=(px.1 hi).1;have hf:=pt hi;rw[DE,Gp,Av hi];simp only[po];rw[LD (S.fz hf).2 hN,wI,show ((i:Int)+1)=((i+1:Nat):Int) by omega];simp only[po];unfold NC;by_cases he:en f.body<=30
   ·rw[qF he,qG (by simp),(xe f hf he).1];by_cases hr:T f.params f.body=f.result<;>simp[he,hr]
   ·rw[qG he];simp[he]) (by omega:p.funcs.length<N)
  have L2:=D5 (l:=p.funcs) (Eu N p) (λ_ f=>NC p T f) (λn=>by rw[Eu,G7]) (λn i f hi=>by
   have wz:=(px.1 hi).1;have hf:=pt hi;obtain⟨q1,q2,q3⟩:=SO.Nf f hf;have q4:f.params.all (Cg p.decls)=true:=qC.2 q2;rw[Eu,Gp,Av hi];simp only[po];unfold OH;rw[X4 S hN,hs,VA (S.fz hf).2 hN,MM (by omega) (by omega),q4,eF hl hN,yp f hf,wI,show ((i:Int)+1)=((i+1:Nat):Int) by omega];simp only[po];unfold NC;by_cases he:en f.body<=30
   ·rw[qF he,(xe f hf he).2.1];have he0:¬ ((en f.body:Int)<0):=by omega
    by_cases hr:T f.params f.body=f.result<;>simp[he,hr,he0]
   ·rw[qG he];have hr:¬ ((-1:Int)=f.result):=λq=>by have:=(IH q3).1;omega
    simp[he,hr]) (by omega:p.funcs.length<N)
  rw[Fg]at L1 L2;refine⟨p.funcs.all (NC p T),?_,?_,λh=>⟨SO,λf hf=>?_⟩⟩
  ·simp only[rA,py,qR];rw[L1,D6];cases p.funcs.all (NC p T)<;>rfl
  ·simp only[rA,py,qR];rw[L2,D6];cases p.funcs.all (NC p T)<;>rfl
  ·have:=qC.1 h f hf;unfold NC at this;simp only[qP,qJ]at this;exact this.1
end RC
namespace RC
open Go
def Af {α:Type}(x:Option α)(Q:α->Prop):Prop:=∃v,x=some v/\Q v
theorem Af.some {α:Type}{v:α}{Q:α->Prop}(h:Q v):Af (some v) Q:=⟨v,rfl,h⟩
theorem Af.mono {α:Type}{x:Option α}{Q R:α->Prop}(h:Af x Q)(g :∀v,Q v->R v):Af x R:=
 let ⟨v,e,q⟩:=h;⟨v,e,g v q⟩
theorem Af.bind {α β:Type}{x:Option α}{f:α->Option β}{R:α->Prop}{Q:β->Prop}(h:Af x R)(k :∀v,R v->Af (f v) Q):Af (Option.bind x f) Q:=by
 obtain⟨v,rfl,hv⟩:=h;exact k v hv
theorem AN {α β:Type}{x:Option α}{f:α->Option β}{v:α}{Q:β->Prop}(h:x=Option.some v)(k:Af (f v) Q):Af (Option.bind x f) Q:=by
 subst h;exact k
theorem Cy {α:Type}{b:Bool}{x y:Option α}{Q:α->Prop}(h1:b=true->Af x Q)(h2:b=false->Af y Q):Af (if b=true then x else y) Q:=by
 cases b
 ·exact h2 rfl
 ·exact h1 rfl
theorem BB {α:Type}{p:Prop}[Decidable p]{x y:Option α}{Q:α->Prop}(h1:p->Af x Q)(h2:¬ p->Af y Q):Af (if decide p=true then x else y) Q:=by
 by_cases h:p
 ·rw[qF (by simpa using h)];exact h1 h
 ·rw[qG (by simpa using h)];exact h2 h
theorem Af.cont {ρ σ β:Type}{o:Option (ρ ⊕ σ)}{g:ρ->β}{f:σ->Option β}{R:ρ->Prop}{S:σ->Prop}{Q:β->Prop}(h:Af o λv=>match v with|.inl r=>R r|.inr s=>S s)(h1 :∀r,R r->Q (g r))(h2 :∀s,S s->Af (f s) Q):Af (Sh.cont o g f) Q:=by
 obtain⟨v,rfl,hv⟩:=h;cases v with
 | inl r=>exact⟨g r,rfl,h1 r hv⟩
 | inr s=>exact h2 s hv
theorem Af.get {α β:Type}{l:List α}{j:Int}{f:α->Option β}{Q:β->Prop}(h0:0<=j)(h1:j<l.length)(k :∀x,l[j.toNat]?=Option.some x->x∈l->Af (f x) Q):Af (Option.bind (Sh.get l j) f) Q:=by
 obtain⟨x,e,hx⟩:=Lf h0 h1;exact AN e (k x hx (pt hx))
theorem Af.app {α β:Type}{l m:List α}{b:Nat}{f:List α->Option β}{Q:β->Prop}(h:(l.length+m.length)*b<=140737488355328)(h2:l.length+m.length<=9223372036854775807)(k:Af (f (l++m)) Q):Af (Option.bind (Sh.app l m b) f) Q:=AN (Cp l m b h h2) k
theorem eG {n:Int}(h1:-9223372036854775808<=n)(h2:n<=9223372036854775807):Sh.wk .i64 n=n:=Abs.wrap_i64 h1 h2
theorem mB {a b:Int}(ha:0<=a)(ha':a<4611686018427387904)(hb:0<=b)(vy:b<4611686018427387904):0<=Sh.xor a b/\Sh.xor a b<4611686018427387904:=by
 obtain⟨x,rfl⟩:=qu ha;obtain⟨y,rfl⟩:=qu hb;have e:Sh.xor (x:Int) (y:Int)=((x ^^^ y:Nat):Int):=by
  unfold Sh.xor;have h1:(BitVec.ofInt 64 (x:Int) ^^^ BitVec.ofInt 64 (y:Int)).toNat=x ^^^ y:=by
   rw[BitVec.toNat_xor];simp only[BitVec.ofInt_natCast,BitVec.toNat_ofNat];rw[sf (by omega),sf (by omega)]
  rw[h1];have h2:x ^^^ y<2 ^ 62:=Nat.xor_lt_two_pow (by omega) (by omega);exact Abs.wrap_i64 (by omega) (by omega)
 have h2:x ^^^ y<2 ^ 62:=Nat.xor_lt_two_pow (by omega) (by omega);rw[e];omega
end RC
namespace RC
open Go
mutual
def YI:Step->Nat|.mk _ _ _ a k=>a.length+k.length+Wn k
def Wn:List (Ik Step)->Nat|[]=>0|b::k=>Qw b+Wn k
def Qw:Ik Step->Nat|⟨ss,_⟩=>ss.length+Qq ss
def Qq:List Step->Nat|[]=>0|s::l=>YI s+Qq l
end
theorem Sf (s:Step):YI s=s.args.length+s.kids.length+Wn s.kids:=by cases s;simp[YI,Step.args,Step.kids]
theorem aP (b:Block):Qw b=b.steps.length+Qq b.steps:=by cases b;simp[Qw]
theorem kG {k:List Block}{b:Block}(h:b∈k):Qw b<=Wn k:=by
 induction k with
 | nil=>cases h
 | cons c k ih=>
  simp only[Wn];rcases qH.1 h with rfl|h
  ·omega
  ·have:=ih h;omega
theorem kH {l:List Step}{s:Step}(h:s∈l):YI s<=Qq l:=by
 induction l with
 | nil=>cases h
 | cons c l ih=>
  simp only[Qq];rcases qH.1 h with rfl|h
  ·omega
  ·have:=ih h;omega
inductive MX:Step->Prop where
 | mk {s:Step}:JC s.op->JC s.num->JC s.Ed->IJ JC s.args->s.kids.length<=9223372036854775807->(∀b∈s.kids,b.steps.length<=9223372036854775807)->(∀b∈s.kids,JC b.result)->(∀b∈s.kids,∀t∈b.steps,MX t)->MX s
structure Rr (b:Block):Prop where
 steps:IJ MX b.steps
 result:JC b.result
theorem MX.kids {s:Step}(h:MX s):∀b∈s.kids,Rr b:=by
 cases h with
 | mk _ _ _ _ _ h1 h2 h3=>exact λb hb=>⟨⟨h3 b hb,h1 b hb⟩,h2 b hb⟩
def lf (left:Int)(s:Nat):Int:=if left-s<0 then -1 else left-s
end RC
namespace RC
open Go
def Bs (b:Block):Prop:=Qw b<=1048576
theorem Bs.len {b:Block}(h:Bs b):b.steps.length<=1048576:=by unfold Bs at h;rw[aP]at h;omega
theorem UT {b:Block}{s:Step}(hs:s∈b.steps):YI s+1<=Qw b:=by
 have h1:=kH hs;have h2:=sS hs;rw[aP];omega
theorem fv {s:Step}{b:Block}(hb:b∈s.kids):Qw b+1<=YI s:=by
 have h1:=kG hb;have h2:=sS hb;rw[Sf];omega
mutual
def Qe:Step->Nat|.mk _ _ _ _ k=>KO k+1
def KO:List (Ik Step)->Nat|[]=>0|b::k=>Ho b+KO k
def Ho:Ik Step->Nat|⟨ss,_⟩=>Ja ss
def Ja:List Step->Nat|[]=>0|s::l=>Qe s+Ja l
end
theorem UB (s:Step):Qe s=KO s.kids+1:=by cases s;simp[Qe,Step.kids]
theorem W4 (b:Block):Ho b=Ja b.steps:=by cases b;simp[Ho]
theorem ZZ {k:List Block}{i:Nat}{b:Block}(h:k[i]?=some b):KO (k.drop i)=Ho b+KO (k.drop (i+1)):=by rw[drop_cons h];simp[KO]
theorem VM {l:List Step}{i:Nat}{s:Step}(h:l[i]?=some s):Ja (l.drop i)=Qe s+Ja (l.drop (i+1)):=by rw[drop_cons h];simp[Ja]
theorem dU {b:Block}{s:Step}{i:Nat}{rec:Block->Int->Option Int}(hs:b.steps[i]?=some s)(hk:s.kids.length<=1048576)(wF :∀c∈s.kids,∀l:Int,0<=l->l<=600->rec c l=some (lf l (Ho c))){N k:Nat}(hi:k<=s.kids.length)(hN:s.kids.length-k<N):∀left:Int,0<=left->left<=600->
  GY i b rec N left k=some (if left-KO (s.kids.drop k)<0 then Sum.inl (-1) else Sum.inr (left-KO (s.kids.drop k))):=by
 refine Bm s.kids.length (λN k=>∀left:Int,0<=left->left<=600->GY i b rec N left k=some (if left-KO (s.kids.drop k)<0 then Sum.inl (-1) else Sum.inr (left-KO (s.kids.drop k)))) ?_ ?_ hi hN
 ·intro n left h0 h1;rw[GY,Av hs,po,G7];simp[KO];omega
 ·intro n k hi ih left h0 h1;obtain⟨c,hc,xH⟩:=Ba hi;rw[GY,Av hs,po,Gp,Av hc,po,wF c xH left h0 h1,ZZ hc,po];unfold lf;by_cases h2:left-Ho c<0
  ·simp only[h2,qe];rw[qF (by simp),qF (by omega)]
  ·simp only[h2,qR];rw[qG (by simp),wI,show ((k:Int)+1)=((k+1:Nat):Int) by omega,ih (left-Ho c) (by omega) (by omega)];have e:left-(Ho c:Int)-KO (s.kids.drop (k+1))=left-((Ho c+KO (s.kids.drop (k+1)):Nat):Int):=by omega
   rw[e]
theorem cV {b:Block}{rec:Block->Int->Option Int}{M:Nat}(hM:2000000<=M)(hl:b.steps.length<=1048576)(hk :∀s∈b.steps,s.kids.length<=1048576)(wF :∀s∈b.steps,∀c∈s.kids,∀l:Int,0<=l->l<=600->rec c l=some (lf l (Ho c))){N i:Nat}(hi:i<=b.steps.length)(hN:b.steps.length-i<N):∀left:Int,0<=left->left<=600->
  GX M b rec N left i=some (if left-Ja (b.steps.drop i)<0 then Sum.inl (-1) else Sum.inr (left-Ja (b.steps.drop i))):=by
 refine Bm b.steps.length (λN i=>∀left:Int,0<=left->left<=600->GX M b rec N left i=some (if left-Ja (b.steps.drop i)<0 then Sum.inl (-1) else Sum.inr (left-Ja (b.steps.drop i)))) ?_ ?_ hi hN
 ·intro n left h0 h1;rw[GX,G7];simp[Ja];omega
 ·intro n i hi ih left h0 h1;obtain⟨s,hs,yB⟩:=Ba hi;rw[GX,Gp,VM hs,UB];by_cases h2:left<1
  ·rw[qF (by simpa using h2),qF (by omega)]
  ·rw[qG (by simpa using h2),wI (n:=left-1)];have vx:=hk s yB;have L2:=dU hs vx (wF s yB) (qd _) (by omega:s.kids.length-0<M) (left-1) (by omega) (by omega);rw[uS,rG]at L2;rw[L2];by_cases h3:left-1-(KO s.kids:Int)<0
   ·rw[qF h3,qF (by omega)];rfl
   ·rw[qG h3];simp only[Sh.JO];rw[wI,show ((i:Int)+1)=((i+1:Nat):Int) by omega,ih _ (by omega) (by omega)];have e:left-1-(KO s.kids:Int)-Ja (b.steps.drop (i+1))=left-((KO s.kids+1+Ja (b.steps.drop (i+1)):Nat):Int):=by omega
    rw[e]
theorem Sl {b:Block}(hb:Bs b){s:Step}(hs:s∈b.steps):s.kids.length<=1048576:=by
 have h1:=UT hs;rw[Sf]at h1;unfold Bs at hb;omega
theorem Sq {b:Block}(hb:Bs b){s:Step}(hs:s∈b.steps){c:Block}(hc:c∈s.kids):Bs c/\Qw c+2<=Qw b:=by
 have h1:=UT hs;have h2:=fv hc;unfold Bs at *;exact⟨by omega,by omega⟩
theorem WY {N:Nat}(hN:2000000<=N):∀(n:Nat) (b:Block) (left:Int),Bs b->Qw b<n->0<=left->left<=600->Ia N n b left=some (lf left (Ho b)):=by
 intro n
 induction n with
 | zero=>intro b left _ h;omega
 | succ n ih=>
  intro b left hb hn h0 h1;have hl:=hb.len;rw[Ia];unfold Pb;have:=cV (rec:=Ia N n) hN hl (λs hs=>Sl hb hs) (λs hs c hc l l0 l1=>ih c l (Sq hb hs hc).1 (by have:=(Sq hb hs hc).2;omega) l0 l1) (qd _) (by omega:b.steps.length-0<N) left h0 h1;rw[uS,rG,<- W4]at this;rw[this];unfold lf;by_cases h3:left-(Ho b:Int)<0
  ·rw[qF h3,qF h3];rfl
  ·rw[qG h3,qG h3];rfl
theorem QK {b:Block}(hb:Bs b){N:Nat}(hN:2000000<=N):Ph N b=some (if Ho b<=600 then (Ho b:Int) else -1):=by
 unfold Ph RO;rw[WY hN N b 600 hb (by unfold Bs at hb;omega) (by decide) (by decide),po];by_cases h:Ho b<=600
 ·have e:lf 600 (Ho b)=600-(Ho b:Int):=by unfold lf;rw[qG (by omega)]
  rw[e,qG (by simp;omega),qF h,wI];congr 1;omega
 ·have e:lf 600 (Ho b)=-1:=by unfold lf;rw[qF (by omega)]
  rw[e,qG h];rfl
def Cs (n:Int)(m:Nat)(r:Bool×Int):Prop:=(n+m<=600->r=(true,n+m))/\(¬ n+m<=600->r.1=false)
theorem bD {s:Step}{rec:Int->Block->Option (Bool×Int)}(hk:s.kids.length<=1048576)(wF :∀c∈s.kids,∀n:Int,0<=n->n<=600->∃r,rec n c=some r/\Cs n (Ho c) r){N k:Nat}(hi:k<=s.kids.length)(hN:s.kids.length-k<N):∀n:Int,0<=n->n<=600->
  ∃r,ED s rec N k n=some r/\(n+KO (s.kids.drop k)<=600->r=Sum.inr (n+KO (s.kids.drop k)))/\(¬ n+KO (s.kids.drop k)<=600->∃m,r=Sum.inl (false,m)):=by
 refine Bm s.kids.length (λN k=>∀n:Int,0<=n->n<=600->∃r,ED s rec N k n=some r/\(n+KO (s.kids.drop k)<=600->r=Sum.inr (n+KO (s.kids.drop k)))/\(¬ n+KO (s.kids.drop k)<=600->∃m,r=Sum.inl (false,m))) ?_ ?_ hi hN
 ·intro f n h0 h1;rw[ED,G7];refine⟨_,rfl,λ_=>by simp[KO],λh=>?_⟩;simp[KO]at h;omega
 ·intro f k hi ih n h0 h1;obtain⟨c,hc,xH⟩:=Ba hi;obtain⟨⟨ok,m⟩,r1,r2,r3⟩:=wF c xH n h0 h1;rw[ED,Gp,Av hc,po,r1,ZZ hc,po];by_cases h2:n+(Ho c:Int)<=600
  ·cases r2 h2;rw[qG (by simp),wI,show ((k:Int)+1)=((k+1:Nat):Int) by omega];obtain⟨r,e1,e2,e3⟩:=ih (n+Ho c) (by omega) h2;have e:n+(Ho c:Int)+KO (s.kids.drop (k+1))=n+((Ho c+KO (s.kids.drop (k+1)):Nat):Int):=by omega
   rw[e]at e2 e3;exact⟨r,e1,e2,e3⟩
  ·have:ok=false:=r3 h2;subst this;rw[qF (by simp)];exact⟨_,rfl,λh=>by omega,λ_=>⟨_,rfl⟩⟩
theorem bT {b:Block}{rec:Int->Block->Option (Bool×Int)}{M:Nat}(hM:2000000<=M)(hl:b.steps.length<=1048576)(hk :∀s∈b.steps,s.kids.length<=1048576)(wF :∀s∈b.steps,∀c∈s.kids,∀n:Int,0<=n->n<=600->∃r,rec n c=some r/\Cs n (Ho c) r){N i:Nat}(hi:i<=b.steps.length)(hN:b.steps.length-i<N):∀n:Int,0<=n->n<=600->
  ∃r,EG M b rec N i n=some r/\(n+Ja (b.steps.drop i)<=600->r=Sum.inr (n+Ja (b.steps.drop i)))/\(¬ n+Ja (b.steps.drop i)<=600->∃m,r=Sum.inl (false,m)):=by
 refine Bm b.steps.length (λN i=>∀n:Int,0<=n->n<=600->∃r,EG M b rec N i n=some r/\(n+Ja (b.steps.drop i)<=600->r=Sum.inr (n+Ja (b.steps.drop i)))/\(¬ n+Ja (b.steps.drop i)<=600->∃m,r=Sum.inl (false,m))) ?_ ?_ hi hN
 ·intro f n h0 h1;rw[EG,G7];refine⟨_,rfl,λ_=>by simp[Ja],λh=>?_⟩;simp[Ja]at h;omega
 ·intro f i hi ih n h0 h1;obtain⟨s,hs,yB⟩:=Ba hi;rw[EG,Gp,Av hs,VM hs,UB,po,wI (n:=n+1)];by_cases h2:600<n+1
  ·rw[qF (by simpa using h2)];exact⟨_,rfl,λh=>by omega,λ_=>⟨_,rfl⟩⟩
  ·rw[qG (by simpa using h2)];have vx:=hk s yB;obtain⟨r,e1,e2,e3⟩:=bD vx (wF s yB) (qd _) (by omega:s.kids.length-0<M) (n+1) (by omega) (by omega);rw[uS]at e1;rw[rG]at e2 e3;rw[e1];by_cases h3:n+1+(KO s.kids:Int)<=600
   ·rw[e2 h3];simp only[Sh.JO];rw[wI,show ((i:Int)+1)=((i+1:Nat):Int) by omega];obtain⟨r',f1,f2,f3⟩:=ih _ (by omega) h3;have e:n+1+(KO s.kids:Int)+Ja (b.steps.drop (i+1))=n+((KO s.kids+1+Ja (b.steps.drop (i+1)):Nat):Int):=by omega
    rw[e]at f2 f3;exact⟨r',f1,f2,f3⟩
   ·obtain⟨m,hm⟩:=e3 h3;rw[hm];exact⟨_,rfl,λh=>by omega,λ_=>⟨_,rfl⟩⟩
theorem Vm {N:Nat}(hN:2000000<=N):∀(f:Nat) (b:Block) (n:Int),Bs b->Qw b<f->0<=n->n<=600->∃r,GH N f n b=some r/\Cs n (Ho b) r:=by
 intro f
 induction f with
 | zero=>intro b n _ h;omega
 | succ f ih=>
  intro b n hb hn h0 h1;have hl:=hb.len;rw[GH];unfold Jb;obtain⟨r,e1,e2,e3⟩:=bT (rec:=GH N f) hN hl (λs hs=>Sl hb hs) (λs hs c hc l l0 l1=>ih c l (Sq hb hs hc).1 (by have:=(Sq hb hs hc).2;omega) l0 l1) (qd _) (by omega:b.steps.length-0<N) n h0 h1;rw[uS]at e1;rw[rG,<- W4]at e2 e3;rw[e1];by_cases h3:n+(Ho b:Int)<=600
  ·rw[e2 h3];exact⟨_,rfl,λ_=>rfl,λh=>absurd h3 h⟩
  ·obtain⟨m,hm⟩:=e3 h3;rw[hm];exact⟨_,rfl,λh=>absurd h h3,λ_=>rfl⟩
theorem Vn {b:Block}(hb:Bs b){N:Nat}(hN:2000000<=N):Ld N b=some (if Ho b<=600 then (Ho b:Int) else -1):=by
 unfold Ld Mv;obtain⟨⟨ok,m⟩,e1,e2,e3⟩:=Vm hN N b 0 hb (by unfold Bs at hb;omega) (by decide) (by decide);rw[e1,po];by_cases h:Ho b<=600
 ·cases e2 (by omega);rw[qG (by simp),qF h];congr 1;omega
 ·have:ok=false:=e3 (by omega);subst this;rw[qF (by simp),qG h]
end RC
namespace RC
open Go
def Qj (o:Int):Bool:=decide (14<=o)&&decide (o<=17)
mutual
def us (v:Int):Step->Nat|.mk o _ _ a k=>if Qj o then 0 else a.countP (λx=>decide (x=v))+uk v k
def uk (v:Int):List (Ik Step)->Nat|[]=>0|b::k=>ub v b+uk v k
def ub (v:Int):Ik Step->Nat|⟨ss,r⟩=>(if r=v then 1 else 0)+ul v ss
def ul (v:Int):List Step->Nat|[]=>0|s::l=>us v s+ul v l
end
def ua (v:Int)(a:List Int):Nat:=a.countP λx=>decide (x=v)
theorem pb (v:Int)(a:List Int):ua v a<=a.length:=List.countP_le_length
theorem QQ (o:Int):EM o=some (Qj o):=by
 unfold EM Qj;by_cases h:14<=o<;>simp[h]
end RC
namespace RC
open Go
def L5 (v:List Int)(a:Int):Option Int:=if 0<=a/\a<(v.length:Int) then v[a.toNat]? else none
def CY (v:List Int):List Int->Option (List Int)
 | []=>some []
 | a::r=>(L5 v a).bind λt=>(CY v r).map (t::·)
theorem W6 {v:List Int}{a:Int}(h0:0<=a)(h1:a<(v.length:Int)):∃t,L5 v a=some t/\Sh.get v a=some t/\t∈v:=by
 obtain⟨t,g1,g2⟩:=Lf h0 h1;exact⟨t,by unfold L5;rw[qF ⟨h0,h1⟩,g2],g1,pt g2⟩
theorem ck {v:List Int}{a:Int}(h:¬ (0<=a/\a<(v.length:Int))):L5 v a=none:=qG h
theorem OS {v:List Int}:∀{args l:List Int},CY v args=some l↔args.length=l.length/\∀(i:Nat) a,args[i]?=some a->L5 v a=l[i]?/\(L5 v a).isSome=true
 | [],l=>by
  simp only[CY,pz,qt];constructor
  ·rintro rfl;simp
  ·rintro⟨h,_⟩;exact (qV h.symm).symm
 | a::r,l=>by
  simp only[CY];constructor
  ·intro h;obtain⟨t,h1,h2⟩:=qh.1 h;obtain⟨m,h3,rfl⟩:=qB.1 h2;obtain⟨h4,h5⟩:=OS.1 h3;refine⟨by simp[h4],λi b hb=>?_⟩;cases i with
   | zero=>simp only[qg,pz]at hb⊢;subst hb;rw[h1];simp
   | succ i=>simpa using h5 i b (by simpa using hb)
  ·rintro⟨h1,h2⟩;cases l with
   | nil=>simp at h1
   | cons t m=>
    have h3:=h2 0 a rfl;simp only[qg]at h3;have h4:CY v r=some m:=OS.2 ⟨by simpa using h1,λi b hb=>by have:=h2 (i+1) b (by simpa using hb);simpa using this⟩;rw[h3.1,h4];rfl
theorem L6 {v args types:List Int}(hv:v.length<=1048576)(ha:args.length<=1048576){N:Nat}(hN:2000000<=N):Cq N v args types=some (decide (CY v args=some types)):=by
 unfold Cq;by_cases h:args.length=types.length
 ·rw[qG (by simp[AK,h]),D5 (l:=args) (KV v args types) (λi a=>decide (L5 v a=types[i]?/\(L5 v a).isSome=true)) (λn=>by rw[KV,G7]) (λn i a hi=>?_) (by omega),D6]
  ·have:E4 (λi a=>decide (L5 v a=types[i]?/\(L5 v a).isSome=true)) 0 args=decide (CY v args=some types):=by
    rw[tn,PE,sD,OS];constructor
    ·intro g;exact⟨h,λi a ha=>by have:=g i a ha;rw[sD,rT]at this;exact this⟩
    ·rintro⟨_,g⟩ i a ha;rw[sD,rT];exact g i a ha
   rw[this];cases decide (CY v args=some types)<;>rfl
  ·have wz:=(px.1 hi).1;obtain⟨t,ht,_⟩:=Ba (l:=types) (i:=i) (by omega);rw[KV,Gp,Av hi,po,Cf,AK,wI (n:=(v.length:Int)-1),wI (n:=(i:Int)+1),show ((i:Int)+1)=((i+1:Nat):Int) by omega,po];by_cases hr:0<=a/\a<(v.length:Int)
   ·obtain⟨x,x1,x2,_⟩:=W6 hr.1 hr.2;have hr2:a<=(v.length:Int)-1:=by omega
    rw[x1,x2,Av ht,ht];by_cases q:x=t<;>simp[hr.1,hr2,q]
   ·rw[ck hr];have:(decide (0<=a)&&decide (a<=(v.length:Int)-1))=false:=by
     rw[qz,qW,qW];omega
    rw[this];simp
 ·have h1:¬ ((args.length:Int)=(types.length:Int)):=by omega
  have h2:¬ CY v args=some types:=λq=>h (OS.1 q).1;simp[AK,h1,h2]
theorem eK {v:List Int}{s:Step}(hv:v.length<=1048576)(ha:s.args.length<=1048576){N:Nat}(hN:2000000<=N):
  CK v s N 0 []=some ((CY v s.args).elim (.inl (-1,false)) .inr):=by
 have key:∀{M i:Nat},i<=s.args.length->s.args.length-i<M->∀acc:List Int,acc.length=i->CK v s M i acc=some ((CY v (s.args.drop i)).elim (.inl (-1,false)) λl=>.inr (acc++l)):=by
  intro M i hi hM;refine Bm s.args.length (λM i=>∀acc:List Int,acc.length=i->CK v s M i acc=some ((CY v (s.args.drop i)).elim (.inl (-1,false)) λl=>.inr (acc++l))) ?_ ?_ hi hM
  ·intro n acc _;rw[CK,G7,List.drop_length];simp[CY]
  ·intro n i hi ih acc hacc;obtain⟨a,hx,_⟩:=Ba hi;rw[CK,Gp,Av hx,drop_cons hx];simp only[po,CY,AK];by_cases hr:0<=a/\a<(v.length:Int)
   ·obtain⟨x,x1,x2,_⟩:=W6 hr.1 hr.2;have r1:¬ a<0:=by omega
    have r2:¬ (v.length:Int)<=a:=by omega
    rw[x1,x2];simp only[r1,r2,qM,py,qR,po];rw[Cp acc [x] 8 (by simp;omega) (by simp;omega),wI,show ((i:Int)+1)=((i+1:Nat):Int) by omega,po,ih (acc++[x]) (by simp[hacc])];cases CY v (s.args.drop (i+1))<;>simp
   ·rw[ck hr];by_cases r1:a<0
    ·simp[r1]
    ·have r2:(v.length:Int)<=a:=by omega
     simp[r1,r2]
 have:=key (qd _) (by omega:s.args.length-0<N) [] rfl;simpa using this
section
variable {D : List AI} {G : List BX} {ks : List Int} {op num : Int} {N : Nat}
theorem gv (h:op=0):AS N ⟨D,G⟩ op num ks=some (0,(decide (-999<=num)&&decide (num<=999))&&decide (ks=[])):=by
 unfold AS;simp only[h,qN,qe,len_nil];by_cases a:-999<=num<;>by_cases b:num<=999<;>simp[a,b,Sh.cont]
theorem WB (hk:ks.length<=1048576)(hN:2000000<=N)(h:op=1∨op=2∨op=3∨op=4):AS N ⟨D,G⟩ op num ks=some (0,decide (num=0)&&decide (ks=[0,0])):=by
 unfold AS;have e3:DF N ks [0,0]=some (decide (ks=[0,0])):=J4 hk hN;rcases h with h|h|h|h<;>simp only[h,Int.reduceEq,qN,qM,py,qe,qR,po,Sh.JO]<;>rw[e3]<;>by_cases a:num=0<;>simp[a]
theorem V0 (hk:ks.length<=1048576)(hN:2000000<=N)(h:op=5):AS N ⟨D,G⟩ op num ks=some (0,decide (num=0)&&decide (ks=[0])):=by
 unfold AS;simp only[h,Int.reduceEq,qN,qM,py,qe,qR,po,Sh.JO];rw[J4 hk hN];by_cases a:num=0<;>simp[a]
theorem VX {F:List Ar}(S:FN D F)(hk:ks.length<=1048576)(hI:JC num)(hN:2000000<=N)(h:op=6):
  (∃t x,0<t/\Cg D t=true/\(∀y∈x,0<=y)/\DU N D num=some t/\BV N D num=some x/\AS N ⟨D,G⟩ op num ks=some (t,decide (ks=x)))∨
  (DU N D num=some (-1)/\AS N ⟨D,G⟩ op num ks=some (-1,false)):=by
 have hD:=S.MY;have hn:=S.nc;by_cases hr:0<=num/\num<(nc D:Int)
 ·obtain⟨c,hc⟩:=qu hr.1;have hc2:c<nc D:=by omega
  obtain⟨t,x,e1,e2⟩:=Mr (D:=D) (by omega) (by omega) hc2 hN;obtain⟨t',x',e1',e3⟩:=H3 (D:=D) (by omega) (by omega) hc2 hN;obtain⟨t'',x'',e1'',e4⟩:=Oy (D:=D) (by omega) (by omega) hc2 hN;rw[e1]at e1' e1'';cases e1';cases e1'';obtain⟨g1,g2,d,g3,g4⟩:=QS e1;have hx:=S.N7 d g3 x g4;refine .inl ⟨(t:Int),x.fields,by omega,by unfold Cg;simp;omega,λy hy=>(IH (hx.2 y hy)).1,by rw[hc,e2],by rw[hc,e3],?_⟩;unfold AS;simp only[h,Int.reduceEq,qN,qM,py,qe,qR,po];rw[hc,e4,po,J4 hk hN,qF (by simp)];simp[Sh.cont]
 ·refine .inr ⟨PR (by omega) (by omega) (by omega) hN,?_⟩;unfold AS;simp only[h,Int.reduceEq,qN,qM,py,qe,qR,po];rw[RL (by omega) (by omega) hI (by omega) hN];simp[Sh.cont]
theorem eD {f:BX}(hk:ks.length<=1048576)(hG:G.length<=4)(hN:2000000<=N)(h:op=9)(f0:0<=num)(f1:num<(G.length:Int))(f5:Sh.get G num=some f):AS N ⟨D,G⟩ op num ks=some (f.result,decide (ks=f.params)):=by
 have f0':¬ num<0:=by omega
 have f1':¬ (G.length:Int)<=num:=by omega
 unfold AS;simp only[h,Int.reduceEq,qN,qM,py,qe,qR,po,AK,f0',f1'];rw[f5,po,J4 hk hN];simp[Sh.cont]
theorem WQ {f:BX}(hk:ks.length<=1048576)(hD:D.length<=4)(hG:G.length<=4)(hp:f.params.length<=3)(hN:2000000<=N)(h:op=10)(f0:0<=num)(f1:num<(G.length:Int))(f5:Sh.get G num=some f):
  (f.params=[]/\AS N ⟨D,G⟩ op num ks=some (-1,false))∨
  (∃m x,f.params.length=m+1/\f.params[m]?=some x/\AS N ⟨D,G⟩ op num ks=some (HW x f.result D 0,decide (0<=HW x f.result D 0)&&decide (ks=f.params.take m))):=by
 have f0':¬ num<0:=by omega
 have f1':¬ (G.length:Int)<=num:=by omega
 by_cases hp0:f.params.length=0
 ·refine .inl ⟨qV hp0,?_⟩;unfold AS;simp only[h,Int.reduceEq,qN,qM,py,qe,qR,po,AK,f0',f1'];rw[f5];simp only[po,hp0];rw[wI];simp[Sh.cont]
 ·obtain⟨m,hm⟩ :∃m,f.params.length=m+1:=⟨f.params.length-1,by omega⟩
  obtain⟨x,hx,zG⟩:=Ba (l:=f.params) (i:=m) (by omega);have hw:Sh.w ((f.params.length:Int)-1)=(m:Int):=by rw[wI];omega
  have hm0:¬ ((m:Int)<0):=by omega
  refine .inr ⟨m,x,hm,hx,?_⟩;unfold AS;simp only[h,Int.reduceEq,qN,qM,py,qe,qR,po,AK,f0',f1'];rw[f5];simp only[po,hw,hm0,qM,py,qR];rw[Av hx];simp only[po];rw[Py (by omega) hN,UQ (by omega)];simp only[po];rw[J4 hk hN];by_cases z:0<=HW x f.result D 0<;>simp[z,Sh.cont]
theorem TS (hG:G.length<=4)(h:op=9∨op=10)(hr:num<0∨(G.length:Int)<=num):AS N ⟨D,G⟩ op num ks=some (-1,false):=by
 unfold AS;rcases h with h|h<;>simp only[h,Int.reduceEq,qN,qM,py,qe,qR,po,AK]<;>rcases hr with hr|hr
 ·simp[hr,Sh.cont]
 ·have:¬ num<0:=by omega
  simp[hr,this,Sh.cont]
 ·simp[hr,Sh.cont]
 ·have:¬ num<0:=by omega
  simp[hr,this,Sh.cont]
theorem SD (hD:D.length<=4)(h:op=11){a b:Int}(hk:ks=[a,b]):AS N ⟨D,G⟩ op num ks=some ((KY D a).elim (0,false) λd=>(d.to,decide (b=d.from_/\num=0))):=by
 subst hk;unfold AS;simp only[h,Int.reduceEq,qN,qM,py,qe,qR,po,AK,qa,qt];rw[show Sh.get [a,b] 0=some a from rfl,show Sh.get [a,b] 1=some b from rfl,po,NH (by omega),po];cases hA:KY D a with
 | none=>simp[Sh.cont]
 | some d=>by_cases c1:b=d.from_<;>by_cases c2:num=0<;>simp[c1,c2,Sh.cont]
theorem SV (h:op=11)(hk:¬ ks.length=2):AS N ⟨D,G⟩ op num ks=some (-1,false):=by
 have zX:¬ ((ks.length:Int)=2):=by omega
 unfold AS;simp only[h,Int.reduceEq,qN,qM,py,qe,qR,po,AK,zX];simp[Sh.cont]
theorem dN (h:op<0∨11<op∨op=7∨op=8):AS N ⟨D,G⟩ op num ks=some (-1,false):=by
 unfold AS;simp only[show ¬ op=0 by omega,show ¬ op=1 by omega,show ¬ op=2 by omega,show ¬ op=3 by omega,show ¬ op=4 by omega,show ¬ op=5 by omega,show ¬ op=6 by omega,show ¬ op=9 by omega,show ¬ op=10 by omega,show ¬ op=11 by omega,qM,py,qR,po];simp[Sh.cont]
end
end RC
namespace RC
open Go
def Dc (n:Ax):Ah:=⟨n.decls,n.AU.map λr=>⟨r.params,r.CE,r.result⟩⟩
def TW (r:CQ):Ar:=⟨r.params,r.result,.mk 0 0 []⟩
abbrev LV (n:Ax):Prop:=FN n.decls (n.AU.map TW)
theorem LX {n:Ax}:(Dc n).funcs.length=n.AU.length:=by show (n.AU.map _).length=_;simp
theorem LV.TK {n:Ax}(S:LV n):n.AU.length<=4:=by have:=S.Na;simpa using this
theorem bz {n:Ax}(S:LV n)(k:Int):(∃r,0<=k/\k<(n.AU.length:Int)/\Sh.get n.AU k=some r/\Sh.get (Dc n).funcs k=some ⟨r.params,r.CE,r.result⟩/\r.params.length<=3/\(∀t∈r.params,Cg n.decls t=true)/\Cg n.decls r.result=true)∨(k<0∨(n.AU.length:Int)<=k):=by
 by_cases h:0<=k/\k<(n.AU.length:Int)
 ·obtain⟨r,h1,h2⟩:=Lf h.1 h.2;have hm:=pt h2;obtain⟨q1,q2,q3⟩:=S.Nf (TW r) (sI hm);refine .inl ⟨r,h.1,h.2,h1,?_,q1,q2,q3⟩;rw[P9 h.1];show ((n.AU.map λr=>(⟨r.params,r.CE,r.result⟩:BX)))[k.toNat]?=_;rw[qA,h2];rfl
 ·exact .inr (by omega)
theorem Zi {γ:Type}{bad:γ}{ts:List Int}(L:Nat->Int->Int->Option (γ ⊕ Int))(h0 :∀n r,L (n+1) r (ts.length:Int)=some (.inr r))
  (hs :∀n (i:Nat) r t,ts[i]?=some t->L (n+1) r (i:Int)=if t<0∨(0<i/\t≠r) then some (.inl bad) else L n t ((i+1:Nat):Int)) {N:Nat} (hN:ts.length<N) (vZ:ts≠[]) (xe :∀t∈ts,t<0->t=-1) (r0:Int) :
  L N r0 0=some (if Fb ts<0 then .inl bad else .inr (Fb ts)):=by
 have rest:∀(d i n:Nat) (r:Int),0<=r->ts.length-i=d->0<i->i<=ts.length->d<n->L n r i=some (if (ts.drop i).all (λx=>decide (x=r))=true then .inr r else .inl bad):=by
  intro d
  induction d with
  | zero=>
   intro i n r _ h1 h2 h3 h4;obtain⟨n,rfl⟩ :∃q,n=q+1:=⟨n-1,by omega⟩
   rw[show i=ts.length by omega,h0,List.drop_length];rfl
  | succ d ih=>
   intro i n r hr h1 h2 h3 h4;obtain⟨n,rfl⟩ :∃q,n=q+1:=⟨n-1,by omega⟩
   obtain⟨t,ht,_⟩:=Ba (l:=ts) (i:=i) (by omega);rw[hs n i r t ht,drop_cons ht,sL];by_cases h5:t=r
   ·subst h5;rw[qG (by rintro (h|h);omega;exact h.2 rfl),ih (i+1) n _ hr (by omega) (by omega) (by omega) (by omega)];simp
   ·rw[qF (.inr ⟨h2,h5⟩)];simp[h5]
 cases hts:ts with
 | nil=>exact absurd hts vZ
 | cons t r=>
  obtain⟨n,hn⟩ :∃q,N=q+1:=⟨N-1,by omega⟩
  have h1:=hs n 0 r0 t (by rw[hts];rfl);rw[uS]at h1;have ve:1<=ts.length:=by rw[hts];simp
  rw[hn,h1];by_cases h2:t<0
  ·have:=xe t (by rw[hts];simp) h2;subst this;have ho:Fb (-1::r)=-1:=by
    show (if (r.all λx=>decide (x=-1))=true then (-1:Int) else -1)=-1;split<;>rfl
   rw[qF (.inl h2),ho,qF (by omega)]
  ·rw[qG (by rintro (h|h);exact h2 h;exact absurd h.1 (Nat.lt_irrefl _)),rest _ 1 n t (by omega) rfl (by omega) ve (by omega),hts,List.drop_succ_cons,rG];by_cases h3:r.all (λx=>decide (x=t))=true
   ·have ho:Fb (t::r)=t:=qF h3;rw[qF h3,ho,qG h2]
   ·have ho:Fb (t::r)=-1:=qG h3;rw[qG h3,ho,qF (by omega)]
theorem Zg {ts:List Int}:Fb ts=-1∨Fb ts∈ts:=by
 cases ts with
 | nil=>exact .inl rfl
 | cons t r=>
  unfold Fb;dsimp only;split
  ·exact .inr (by simp)
  ·exact .inl rfl
def VN (n:Ax)(R1:Ax->List Int->Block->Option Int)(R2:Ah->List Int->Block->Option Int)(T:List Int->Block->Int)(m:Nat):Prop:=
 ∀(v:List Int) (b:Block),Rr b->Bs b->Ho b<m->v.length+4*Ho b<=4000->(∀x∈v,Cg n.decls x=true)->R1 n v b=some (T v b)/\R2 (Dc n) v b=some (T v b)/\(T v b=-1∨Cg n.decls (T v b)=true)
structure SK (n:Ax) (s:Step) (v:List Int):Prop where
 Ch:MX s
 size:YI s<=1048576
 len:v.length+4*Qe s<=4000
 Ni :∀x∈v,Cg n.decls x=true
theorem cR {k:List Block}{b:Block}(h:b∈k):Ho b<=KO k:=by
 induction k with
 | nil=>cases h
 | cons c k ih=>
  simp only[KO];rcases qH.1 h with rfl|h
  ·omega
  ·have:=ih h;omega
theorem dM {N:Nat}{a b:List Int}(ha:a.length<=4000)(hb:b.length<=4000)(hN:2000000<=N):DT N [a,b]=some (a++b):=by
 obtain⟨n,rfl⟩ :∃n,N=n+3:=⟨N-3,by omega⟩
 unfold DT;have e1:CA [a,b] (n+3) 0 0=some ((a.length+b.length:Nat):Int):=by
  rw[CA,qF (by simp[AK]),show Sh.get [a,b] 0=some a from rfl,po,AK,wI (n:=(0:Int)+1),wI,qG (by rw[qJ];omega)];rw[CA,qF (by simp[AK]),show Sh.get [a,b] (0+1)=some b from rfl,po,AK,wI (n:=(0:Int)+1+1),wI,qG (by rw[qJ];omega)];rw[CA,qG (by simp[AK])];congr 1;omega
 have e2:Bz [a,b] (n+3) 0 []=some (a++b):=by
  rw[Bz,qF (by simp[AK]),show Sh.get [a,b] 0=some a from rfl,po,Cp [] a 8 (by simp;omega) (by simp;omega),wI (n:=(0:Int)+1)];simp only[po,rN];rw[Bz,qF (by simp[AK]),show Sh.get [a,b] (0+1)=some b from rfl,po,Cp a b 8 (by omega) (by omega),Co (n:=(0:Int)+1+1) (by omega) (by omega),po,Bz,qG (by simp[AK])]
 have e3:FI ((a.length+b.length:Nat):Int)=some []:=by
  unfold FI;rw[qG (by simp;omega),wI (n:=(0:Int)-0),wI];by_cases h:0<a.length+b.length
  ·rw[qF (by simp;omega),show (((a.length+b.length:Nat):Int)-(0-0))=((a.length+b.length:Nat):Int) by omega,Mz _ _ _ (by omega) (by omega),po];have:=de (l:=List.replicate (a.length+b.length) (0:Int)) (j:=0) (by omega);rw[uS]at this;rw[this];rfl
  ·rw[qG (by simp;omega)];rfl
 rw[e1,po,e3,po];rw[e2];rfl
section
variable {n : Ax} {R1 : Ax -> List Int -> Block -> Option Int} {R2 : Ah -> List Int -> Block -> Option Int} {T : List Int -> Block -> Int} {s : Step} {v : List Int} {N : Nat}
theorem SK.NZ (V:SK n s v):v.length<=4000:=by have:=V.len;omega
theorem SK.Nm (V:SK n s v):s.args.length<=1048576:=by have:=V.size;rw[Sf]at this;omega
theorem Z8 (H:VN n R1 R2 T (Qe s))(V:SK n s v){b:Block}(hb:b∈s.kids){m:List Int}(hm:m.length<=3)(ht :∀x∈m,Cg n.decls x=true):
  R1 n (v++m) b=some (T (v++m) b)/\R2 (Dc n) (v++m) b=some (T (v++m) b)/\(T (v++m) b=-1∨Cg n.decls (T (v++m) b)=true):=by
 have h1:=cR hb;have h2:=UB s;have h3:=fv hb;have h4:=V.size;have h5:=V.len;refine H (v++m) b (V.Ch.kids b hb) (by unfold Bs;omega) (by omega) (by rw[qQ];omega) λx hx=>?_;rcases qb.1 hx with h|h
 ·exact V.Ni x h
 ·exact ht x h
def Jv (T:List Int->Block->Int)(v:List Int)(ms:List (List Int))(ks:List Block):List Int:=List.zipWith (λm k=>T (v++m) k) ms ks
theorem X7 {ms:List (List Int)}{ks:List Block}{i:Nat}{m:List Int}{k:Block}(h1:ms[i]?=some m)(h2:ks[i]?=some k):(Jv T v ms ks)[i]?=some (T (v++m) k):=by
 unfold Jv;rw[sA,h1,h2]
theorem Ww (H:VN n R1 R2 T (Qe s))(V:SK n s v){ms:List (List Int)}(hm :∀m∈ms,m.length<=3/\∀x∈m,Cg n.decls x=true):∀t∈Jv T v ms s.kids,t=-1∨Cg n.decls t=true:=λt ht=>by
 obtain⟨i,hi⟩:=qf.1 ht;unfold Jv at hi;rw[sA]at hi;cases h1:ms[i]? with
 | none=>rw[h1]at hi;simp at hi
 | some m=>
  cases h2:s.kids[i]? with
  | none=>rw[h1,h2]at hi;simp at hi
  | some k=>
   rw[h1,h2]at hi;simp only[pz]at hi;subst hi;obtain⟨q1,q2⟩:=hm m (pt h1);exact (Z8 H V (pt h2) q1 q2).2.2
theorem Qa (H:VN n R1 R2 T (Qe s))(V:SK n s v)(hN:2000000<=N){ms:List (List Int)}(hl:ms.length=s.kids.length)(vZ:ms≠[])(zY:ms.length<=10)(hm :∀m∈ms,m.length<=3/\∀x∈m,Cg n.decls x=true):
  DM N R2 (Dc n) v s.kids ms=some (if Fb (Jv T v ms s.kids)<0 then (-1,false) else (Fb (Jv T v ms s.kids),true)):=by
 unfold DM;have xu:(Jv T v ms s.kids).length=s.kids.length:=by unfold Jv;simp[hl]
 rw[Zi (bad:=(-1,false)) (ts:=Jv T v ms s.kids) (DI N (Dc n) v s.kids ms R2) (λq r=>by rw[DI,qG (by simp[AK,xu])]) (λq i r t ht=>?_) (by omega) (λq=>by have:=rC List.length q;rw[xu,<- hl]at this;exact vZ (qV (by simpa using this))) (λt ht hn=>by rcases Ww H V hm t ht with q|q;exact q;have:=(IH q).1;omega) (-1)]
 ·by_cases h:Fb (Jv T v ms s.kids)<0<;>simp[h,Sh.cont]
 ·have hi:=(px.1 ht).1;obtain⟨m,h1,hmm⟩:=Ba (l:=ms) (i:=i) (by omega);obtain⟨k,h2,xE⟩:=Ba (l:=s.kids) (i:=i) (by omega);rw[X7 h1 h2]at ht;simp only[pz]at ht;subst ht;obtain⟨q1,q2⟩:=hm m hmm;rw[DI,Gp,Av h2,po,Av h1,po];have hvl:=V.NZ;have hc:DT N [v,m]=some (v++m):=dM hvl (by omega) hN;rw[hc,po,(Z8 H V xE q1 q2).2.1,wI,show ((i:Int)+1)=((i+1:Nat):Int) by omega,po];by_cases c1:T (v++m) k<0
  ·simp[c1]
  ·by_cases c2:0<i
   ·by_cases c3:T (v++m) k=r
    ·have c1':¬ r<0:=c3▸c1;simp[c1',c2,c3]
    ·simp[c1,c2,c3]
   ·simp[c1,c2]
theorem Xr (H:VN n R1 R2 T (Qe s))(V:SK n s v)(S:LV n)(hN:2000000<=N){ms:List (List Int)}(h:(s.op=7/\ms=[[],[]])∨(s.op=8/\ms=(CB n.decls s.num).map (E2 n.decls))):
  JL N R1 n v s=some (if ms=[]∨¬ s.kids.length=ms.length then -1 else Fb (Jv T v ms s.kids)):=by
 have hD:=S.MY;have hn:=S.nc;have hvl:=V.NZ;have yp:=L4 S.RJ s.num;unfold JL;rw[Lm (by omega) (by omega) hN,po];have hmany:(if decide (s.op=7)=true then some (2:Int) else some (Sh.len (CB n.decls s.num)))=some (ms.length:Int):=by
  rcases h with ⟨h1,h2⟩|⟨h1,h2⟩
  ·rw[h2];simp[h1]
  ·rw[h2];simp[h1,AK]
 rw[hmany];simp only[po,AK];by_cases h0:ms=[]
 ·have eg:(if ms=[]∨¬ s.kids.length=ms.length then (-1:Int) else Fb (Jv T v ms s.kids))=-1:=qF (.inl h0);rw[eg];simp[h0]
 ·have ye:¬ ((ms.length:Int)=0):=λq=>h0 (qV (by omega));by_cases hl:s.kids.length=ms.length
  ·have yk:((s.kids.length:Int)=(ms.length:Int)):=by omega
   have eg:(if ms=[]∨¬ s.kids.length=ms.length then (-1:Int) else Fb (Jv T v ms s.kids))=Fb (Jv T v ms s.kids):=qG (by rintro (q|q);exact h0 q;exact q hl);rw[eg];simp only[ye,yk,qM,qN,rA,py,qR,po];have xu:(Jv T v ms s.kids).length=s.kids.length:=by unfold Jv;simp[hl]
   have zY:ms.length<=3:=by rcases h with ⟨_,h2⟩|⟨_,h2⟩<;>rw[h2]<;>simp;exact yp
   have hm:∀m∈ms,m.length<=3/\∀x∈m,Cg n.decls x=true:=λm hm=>by
    rcases h with ⟨_,h2⟩|⟨_,h2⟩
    ·rw[h2]at hm;simp at hm;subst hm;simp
    ·rw[h2]at hm;obtain⟨c,hc,rfl⟩:=qT.1 hm;exact (Kt S hc hN).2.2
   rw[Zi (bad:=(-1:Int)) (ts:=Jv T v ms s.kids) (Ij N (ms.length:Int) n v s (CB n.decls s.num) R1) (λq r=>by rw[Ij,qG (by simp;omega)]) (λq i r t ht=>?_) (by omega) (λq=>by have:=rC List.length q;rw[xu,hl]at this;exact h0 (qV (by simpa using this))) (λt ht hn=>by rcases Ww H V hm t ht with q|q;exact q;have:=(IH q).1;omega) 0]
   ·by_cases q:Fb (Jv T v ms s.kids)<0
    ·have:Fb (Jv T v ms s.kids)=-1:=by
      rcases Zg (ts:=Jv T v ms s.kids) with z|z
      ·exact z
      ·rcases Ww H V hm _ z with y|y
       ·exact y
       ·have:=(IH y).1;omega
     rw[this];simp[Sh.cont]
    ·simp[q,Sh.cont]
   ·have hi:=(px.1 ht).1;obtain⟨m,h1,hmm⟩:=Ba (l:=ms) (i:=i) (by omega);obtain⟨k,h2,xE⟩:=Ba (l:=s.kids) (i:=i) (by omega);rw[X7 h1 h2]at ht;simp only[pz]at ht;subst ht;obtain⟨q1,q2⟩:=hm m hmm;have wE:(if decide (s.op=8)=true then (Sh.get (CB n.decls s.num) i).bind λc43=>(BV N n.decls c43).bind λq44=>(DP v q44).bind λzK=>some zK else some v)=some (v++m):=by
     rcases h with ⟨o1,o2⟩|⟨o1,o2⟩
     ·have:m=[]:=by rw[o2]at hmm;simpa using hmm
      simp[o1,this]
     ·rw[o2]at h1;rw[qA,qB]at h1;obtain⟨c,hc,rfl⟩:=h1;simp only[o1,qN,qe];rw[Av hc,po,(Kt S (pt hc) hN).1,po];unfold DP EP;rw[Cp [] v 8 (by simp;omega) (by simp;omega)];simp only[po,rN];rw[Cp _ _ 8 (by omega) (by omega)];rfl
    rw[Ij,qF (by simp;omega),wE,Av h2];simp only[po];rw[(Z8 H V xE q1 q2).1,wI,show ((i:Int)+1)=((i+1:Nat):Int) by omega];simp only[po];by_cases c1:T (v++m) k<0
    ·simp[c1]
    ·by_cases c2:0<i
     ·by_cases c3:T (v++m) k=r
      ·have c1':¬ r<0:=c3▸c1;simp[c1',c2,c3]
      ·simp[c1,c2,c3]
     ·simp[c1,c2]
  ·have yk:¬ ((s.kids.length:Int)=(ms.length:Int)):=by omega
   have eg:(if ms=[]∨¬ s.kids.length=ms.length then (-1:Int) else Fb (Jv T v ms s.kids))=-1:=qF (.inr hl);rw[eg];simp[h0,ye,yk]
theorem WD (S:LV n)(hN:2000000<=N)(t:Int):EO N (Dc n) t=some ((CB n.decls t).map (E2 n.decls)):=by
 have hD:=S.MY;have hn:=S.nc;have yp:=L4 S.RJ t;unfold EO;rw[show (Dc n).decls=n.decls from rfl,Jp (by omega) (by omega) hN,po];have hm:∀c∈CB n.decls t,Dy N n.decls c=some (E2 n.decls c):=λc hc=>(Kt S hc hN).2.1;generalize CB n.decls t=C at yp hm;have key:∀{M i:Nat},i<=C.length->C.length-i<M->Ce N (Dc n) C M i ((C.take i).map (E2 n.decls))=some (C.map (E2 n.decls)):=by
  intro M i hi hM;refine Bm C.length (λM i=>Ce N (Dc n) C M i ((C.take i).map (E2 n.decls))=some (C.map (E2 n.decls))) ?_ ?_ hi hM
  ·intro q;rw[Ce,G7,ri]
  ·intro q i hi ih;obtain⟨c,hc,xH⟩:=Ba hi;rw[Ce,Gp,Av hc,po,show (Dc n).decls=n.decls from rfl,hm c xH,po,Cp _ _ _ (by simp;omega) (by simp;omega),wI,show ((i:Int)+1)=((i+1:Nat):Int) by omega,po];rw[<- ih,Gg hc,rM];rfl
 have:=key (qd _) (by omega:C.length-0<N);rw[uS,tV,rf]at this;rw[this];rfl
end
end RC
namespace RC
open Go
def DK (N:Nat)(uz:Ax->(List Int)->Block->Option (Int))(p0:Ax)(p1:(List Int))(p2:Step):Option (Int):=
 Sh.cont (
  if (decide (p2.op=0))=true then
   (
    if (decide ((Sh.len p2.args)=0))=true then
     (Bv p2.num (-999) 999).bind λwH=>
     some wH
    else
     some false
   ).bind λt15=>
   if t15=true then
    some (Sum.inl 0)
   else
    some (Sum.inr ())
  else
   (
    if (decide (p2.op=1))=true then
     some true
    else
    if (decide (p2.op=2))=true then
     some true
    else
    if (decide (p2.op=3))=true then
     some true
    else
     some (decide (p2.op=4))
   ).bind λt22=>
   if t22=true then
    (Cq N p1 p2.args [(0:Int),0]).bind λxP=>
    if xP=true then
     some (Sum.inl 0)
    else
     some (Sum.inr ())
   else
   if (decide (p2.op=5))=true then
    (Cq N p1 p2.args [(0:Int)]).bind λxb=>
    if xb=true then
     some (Sum.inl 0)
    else
     some (Sum.inr ())
   else
   if (decide (p2.op=6))=true then
    (
     Option.bind (DU N p0.decls p2.num) λq43=>
     if (decide (0<q43))=true then
      (BV N p0.decls p2.num).bind λzK=>
      (Cq N p1 p2.args zK).bind λq46=>
      some q46
     else
      some false
    ).bind λt38=>
    if t38=true then
     (DU N p0.decls p2.num).bind λq42=>
     some (Sum.inl q42)
    else
     some (Sum.inr ())
   else
   if (decide (p2.op=7))=true then
    (Cq N p1 p2.args [(0:Int)]).bind λq50=>
    if q50=true then
     (JL N uz p0 p1 p2).bind λzL=>
     some (Sum.inl zL)
    else
     some (Sum.inr ())
   else
   if (decide (p2.op=8))=true then
    (Cq N p1 p2.args [p2.num]).bind λq57=>
    if q57=true then
     (JL N uz p0 p1 p2).bind λq60=>
     some (Sum.inl q60)
    else
     some (Sum.inr ())
   else
    (
     if (decide (p2.op=9))=true then
      some true
     else
      some (decide (p2.op=10))
    ).bind λt62=>
    if t62=true then
     (HU N p0 p1 p2).bind λq66=>
     some (Sum.inl q66)
    else
    if (decide (p2.op=11))=true then
     (
      if (decide ((Sh.len p2.args)=2))=true then
       (Sh.get p2.args 0).bind λc79=>
       (Bv c79 0 (Sh.w ((Sh.len p1)-1))).bind λq80=>
       if q80=true then
        (Sh.get p1 c79).bind λc82=>
        (F7 p0.decls c82).bind λq83=>
        some q83
       else
        some false
      else
       some false
     ).bind λt70=>
     if t70=true then
      (Sh.get p2.args 0).bind λc74=>
      (Sh.get p1 c74).bind λc75=>
      (Sh.get p0.decls (Sh.w (c75-1))).bind λc76=>
      (Sh.sl p2.args 1 (Sh.len p2.args)).bind λl79=>
      (Cq N p1 l79 [c76.from_]).bind λq80=>
      if q80=true then
       some (Sum.inl c76.to)
      else
       some (Sum.inr ())
     else
      some (Sum.inr ())
    else
     (
      if (decide (p2.op=14))=true then
       some true
      else
      if (decide (p2.op=15))=true then
       some true
      else
      if (decide (p2.op=16))=true then
       some true
      else
       some (decide (p2.op=17))
     ).bind λt85=>
     if t85=true then
      (Jh p0 p1 p2).bind λq89=>
      some (Sum.inl q89)
     else
      some (Sum.inr ())
 ) (id) λ()=>
 some (-1)
def Dg (N:Nat)(uX:Ah->(List Int)->Block->Option (Int))(p0:Ah)(p1:(List Int))(p2:Step)(l8:List Int):Option (Int×Bool):=
 (EM p2.op).bind λxy=>
 if xy=true then
  (
   if (decide ((Sh.len l8)=1))=true then
    (Sh.get l8 0).bind λc38=>
    if (!decide (c38=0))=true then
     if (decide (p2.num=0))=true then
      some (decide ((Sh.len p2.kids)=0))
     else
      some false
    else
     some false
   else
    some false
  ).bind λok21=>
  (
   Option.bind (
    if ok21=true then
     if (decide (p2.op=16))=true then
      some true
     else
      some (decide (p2.op=17))
    else
     some false
   ) λt28=>
   if t28=true then
    (Sh.get l8 0).bind λc32=>
    (Hs p0.decls c32).bind λxY=>
    some (!xY.2)
   else
    some ok21
  ).bind λok24=>
  some (-1,ok24)
 else
 if (decide (p2.op=7))=true then
  (
   if (!decide ((Sh.len l8)=1))=true then
    some true
   else
    (Sh.get l8 0).bind λc53=>
    if (!decide (c53=0))=true then
     some true
    else
    if (!decide (p2.num=0))=true then
     some true
    else
     some (!decide ((Sh.len p2.kids)=2))
  ).bind λt45=>
  if t45=true then
   some (-1,false)
  else
   (Sh.mk [] 2 24).bind λl50=>
   (DM N uX p0 p1 p2.kids l50).bind λq51=>
   some (q51.1,q51.2)
 else
 if (decide (p2.op=8))=true then
  (EO N p0 p2.num).bind λq59=>
  (
   if (!decide ((Sh.len l8)=1))=true then
    some true
   else
    (Sh.get l8 0).bind λc69=>
    if (!decide (c69=p2.num))=true then
     some true
    else
    if (decide ((Sh.len q59)=0))=true then
     some true
    else
     some (!decide ((Sh.len p2.kids)=(Sh.len q59)))
  ).bind λt62=>
  if t62=true then
   some (-1,false)
  else
   (DM N uX p0 p1 p2.kids q59).bind λq67=>
   some (q67.1,q67.2)
 else
  (
   if (decide (0<(Sh.len p2.kids)))=true then
    some true
   else
   if (decide (p2.op=10))=true then
    if (decide (0<=p2.num))=true then
     if (decide (p2.num<(Sh.len p0.funcs)))=true then
      (Sh.get p0.funcs p2.num).bind λc83=>
      some (decide (0<(Sh.len c83.CE)))
     else
      some false
    else
     some false
   else
    some false
  ).bind λt73=>
  if t73=true then
   some (-1,false)
  else
   (AS N p0 p2.op p2.num l8).bind λq78=>
   some (q78.1,q78.2)
def Ex (p1:(List Int))(p2:Step):Option Bool:=
  if (!decide (p2.Ed=0))=true then
   if (!decide (p2.op=6))=true then
    some true
   else
   if (decide (p2.Ed<1))=true then
    some true
   else
   if (decide ((Sh.len p1)<p2.Ed))=true then
    some true
   else
    (Sh.get p1 (Sh.w (p2.Ed-1))).bind λc88=>
    some (decide (c88=0))
  else
   some false
section
variable {n : Ax} {R1 : Ax -> List Int -> Block -> Option Int} {R2 : Ah -> List Int -> Block -> Option Int} {T : List Int -> Block -> Int} {s : Step} {v : List Int} {N : Nat}
theorem fQ (hv :∀x∈v,Cg n.decls x=true)(hl:v.length<=1048576):∃b,CW v s=some b/\Ex v s=some (!b):=by
 unfold CW Ex;by_cases h0:s.Ed=0
 ·exact⟨true,by simp[h0],by simp[h0]⟩
 ·by_cases h6:s.op=6
  ·by_cases hr:1<=s.Ed/\s.Ed<=(v.length:Int)
   ·have hw:Sh.w (s.Ed-1)=s.Ed-1:=wI;obtain⟨x,x1,x2⟩:=Lf (l:=v) (j:=s.Ed-1) (by omega) (by omega);have hx:=(IH (hv x (pt x2))).1;have r1:¬ s.Ed<1:=by omega
    have r2:¬ (v.length:Int)<s.Ed:=by omega
    rw[Cf,hw,x1,AK];by_cases q:x=0
    ·exact⟨false,by simp[h0,h6,hr.1,hr.2,q],by simp[h0,h6,r1,r2,q]⟩
    ·have q':0<x:=by omega
     exact⟨true,by simp[h0,h6,hr.1,hr.2,q'],by simp[h0,h6,r1,r2,q]⟩
   ·refine⟨false,?_,?_⟩
    ·rw[Cf,AK];have:(decide (1<=s.Ed)&&decide (s.Ed<=(v.length:Int)))=false:=by
      rw[qz,qW,qW];omega
     rw[this];simp[h0,h6]
    ·rw[AK];by_cases r1:s.Ed<1
     ·simp[h0,h6,r1]
     ·have r2:(v.length:Int)<s.Ed:=by omega
      simp[h0,h6,r1,r2]
  ·exact⟨false,by simp[h0,h6],by simp[h0,h6]⟩
def P6 (o:Int):Bool:=decide (o=0∨o=6∨o=8∨o=9∨o=10)
theorem ee (o:Int):OD o=some (P6 o):=by
 unfold OD P6;by_cases h0:o=0
 ·simp[h0]
 by_cases h6:o=6
 ·simp[h6]
 by_cases h8:o=8
 ·simp[h8]
 by_cases h9:o=9
 ·simp[h9]
 simp[h0,h6,h8,h9]
def H2 (b:Bool)(s:Step):Bool:=((decide (s.num=0) || P6 s.op)&&b)&&(decide (s.kids=[]) || (decide (s.op=7) || decide (s.op=8)))
theorem OV {b:Bool}(hb:CW v s=some b):HL N R1 n v s=if H2 b s=true then DK N R1 n v s else some (-1):=by
 have e:HL N R1 n v s=(
  if (!decide (s.num=0))=true then
   (OD s.op).bind λq105=>
   if (!q105)=true then some true
   else (CW v s).bind λq107=>if (!q107)=true then some true else if (decide (0<(Sh.len s.kids)))=true then (if (!decide (s.op=7))=true then some (!decide (s.op=8)) else some false) else some false
  else (CW v s).bind λq111=>if (!q111)=true then some true else if (decide (0<(Sh.len s.kids)))=true then (if (!decide (s.op=7))=true then some (!decide (s.op=8)) else some false) else some false).bind λt4=>if t4=true then some (-1) else DK N R1 n v s:=rfl
 rw[e,ee,hb];have hk:(if (decide (0<(Sh.len s.kids)))=true then (if (!decide (s.op=7))=true then some (!decide (s.op=8)) else some false) else some false)=some (!(decide (s.kids=[]) || (decide (s.op=7) || decide (s.op=8)))):=by
  cases hk:s.kids with
  | nil=>simp[AK]
  | cons a r=>
   have:decide ((0:Int)<Sh.len (a::r))=true:=sE (by rw[AK,qa];omega);rw[this];by_cases h7:s.op=7
   ·simp[h7]
   ·simp[h7]
 simp only[po];rw[hk];unfold H2;cases decide (s.num=0)<;>cases P6 s.op<;>cases b<;>cases (decide (s.kids=[]) || (decide (s.op=7) || decide (s.op=8)))<;>simp
theorem Ka (hl:v.length<=1048576)(ha:s.args.length<=1048576)(hN:2000000<=N){b:Bool}(hb:Ex v s=some (!b)):
  Be N R2 (Dc n) v s=(CY v s.args).elim (some (-1,false)) λl=>if b=true then Dg N R2 (Dc n) v s l else some (-1,false):=by
 have e:Be N R2 (Dc n) v s=(Sh.mk (0:Nat) (Sh.len s.args) 8).bind λl3=>Sh.cont (CK v s N 0 []) (id) λl8=>(Ex v s).bind λt12=>if t12=true then some (-1,false) else Dg N R2 (Dc n) v s l8:=rfl;rw[e,AK,Mz _ _ _ (by omega) (by omega),eK hl ha hN,hb];cases CY v s.args with
 | none=>rfl
 | some l=>cases b<;>simp[Sh.cont]
def LM (n:Ax)(R1:Ax->List Int->Block->Option Int)(R2:Ah->List Int->Block->Option Int)(N:Nat)(v:List Int)(s:Step):Prop:=
 ∃(q t:Int) (ok:Bool),HL N R1 n v s=some q/\Be N R2 (Dc n) v s=some (t,ok)/\(if ok=true then 0<=q/\(if Qj s.op=true then True else t=q/\Cg n.decls q=true/\0<=s.op/\s.op<=11) else q<0)
theorem Hj {q t:Int}{ok:Bool}(h1:HL N R1 n v s=some q)(h2:Be N R2 (Dc n) v s=some (t,ok))(h3:ok=false)(h4:q<0):LM n R1 R2 N v s:=⟨q,t,ok,h1,h2,by rw[h3];exact h4⟩
theorem kV {q:Int}(h1:HL N R1 n v s=some q)(h2:Be N R2 (Dc n) v s=some (q,true))(h3:Cg n.decls q=true)(h4:0<=s.op)(h5:s.op<=11):LM n R1 R2 N v s:=
 ⟨q,q,true,h1,h2,by
  have:Qj s.op=false:=by unfold Qj;rw[qz,qW,qW];omega
  rw[qF rfl,qG (by rw[this];simp)];exact⟨(IH h3).1,rfl,h3,h4,h5⟩⟩
theorem H8 (V:SK n s v)(hN:2000000<=N){b:Bool}(vz:CW v s=some b)(wA:Ex v s=some (!b))(h0:0<=s.op)(h5:s.op<=11){want:List Int}{c:Bool}{t:Int}(ht:c=true->Cg n.decls t=true)
  (hs:H2 b s=true->DK N R1 n v s=some (if c=true/\CY v s.args=some want then t else -1))
  (hi :∀l,CY v s.args=some l->H2 b s=true->∃t',Dg N R2 (Dc n) v s l=some (t',c&&decide (l=want))/\(c=true->l=want->t'=t))
  (hi2 :∀l,CY v s.args=some l->H2 b s=false->b=true->∃t',Dg N R2 (Dc n) v s l=some (t',false)):LM n R1 R2 N v s:=by
 have hl:v.length<=1048576:=by have:=V.NZ;omega
 have e1:=OV (n:=n) (R1:=R1) (N:=N) vz;have e2:=Ka (n:=n) (R2:=R2) hl V.Nm hN wA;cases hA:CY v s.args with
 | none=>
  rw[hA]at e2 hs;refine Hj (q:=-1) ?_ e2 rfl (by omega);rw[e1];by_cases hp:H2 b s=true
  ·rw[qF hp,hs hp];simp
  ·rw[qG hp]
 | some l=>
  rw[hA]at e2 hs;simp only[rJ]at e2;cases hp:H2 b s with
  | false=>
   rw[hp]at e1;simp only[py,qR]at e1;cases b with
   | false=>exact Hj e1 e2 rfl (by omega)
   | true=>
    obtain⟨t',h7⟩:=hi2 l hA hp rfl;simp only[qe]at e2;exact Hj e1 (e2.trans h7) rfl (by omega)
  | true=>
   rw[hp]at e1;simp only[qe]at e1;have hbt:b=true:=by
    unfold H2 at hp;simp only[qP]at hp;exact hp.1.2
   rw[hbt]at e2;simp only[qe]at e2;obtain⟨t',h7,h8⟩:=hi l hA hp;by_cases hc:c=true/\l=want
   ·have ht':=h8 hc.1 hc.2;rw[hs hp,qF ⟨hc.1,by rw[hc.2]⟩]at e1;rw[h7,ht',hc.1,hc.2]at e2;simp only[qN,sU]at e2;exact kV e1 e2 (ht hc.1) h0 h5
   ·rw[hs hp,qG (by rintro⟨q1,q2⟩;exact hc ⟨q1,by simpa using q2⟩)]at e1;refine Hj e1 (e2.trans h7) ?_ (by omega);cases c with
    | false=>rfl
    | true=>simp only[true_and]at hc;simp[hc]
end
end RC
namespace RC
open Go
section
variable {n : Ax} {R1 : Ax -> List Int -> Block -> Option Int} {R2 : Ah -> List Int -> Block -> Option Int} {T : List Int -> Block -> Int} {s : Step} {v : List Int} {N : Nat} {b : Bool}
theorem HQ {v args l:List Int}(h:CY v args=some l):l.length=args.length:=(OS.1 h).1.symm
theorem V2 (h0:0<=s.op)(h5:s.op<=11):EM s.op=some false:=by
 rw[QQ];have:Qj s.op=false:=by unfold Qj;rw[qz,qW,qW];omega
 rw[this]
theorem EI {l:List Int}{t:Int}{ok:Bool}(hk:s.kids=[])(hs:AS N (Dc n) s.op s.num l=some (t,ok))(h0:0<=s.op:=by omega)(h5:s.op<=11:=by omega)(h7:¬ s.op=7:=by omega)(h8:¬ s.op=8:=by omega)(h10:¬ s.op=10:=by omega):Dg N R2 (Dc n) v s l=some (t,ok):=by
 unfold Dg;rw[V2 h0 h5];simp only[po,py,qR,h7,h8,h10,qM];rw[hs,hk];simp[AK]
theorem Ly {l:List Int}(hk:¬ s.kids=[])(h0:0<=s.op:=by omega)(h5:s.op<=11:=by omega)(h7:¬ s.op=7:=by omega)(h8:¬ s.op=8:=by omega):Dg N R2 (Dc n) v s l=some (-1,false):=by
 unfold Dg;rw[V2 h0 h5];have:decide ((0:Int)<Sh.len s.kids)=true:=by
  cases hq:s.kids with
  | nil=>exact absurd hq hk
  | cons a r=>exact sE (by rw[AK,qa];omega)
 simp only[po,py,qR,h7,h8,qM,this,qe]
theorem Hu (hp:H2 b s=true)(h7:¬ s.op=7:=by omega)(h8:¬ s.op=8:=by omega):s.kids=[]:=by
 unfold H2 at hp;simp only[qP,tK,qJ,h7,h8,rI]at hp;exact hp.2
theorem QM (hp:H2 b s=false)(hb:b=true)(h7:¬ s.op=7:=by omega)(h8:¬ s.op=8:=by omega):¬ s.kids=[]∨(¬ s.num=0/\P6 s.op=false):=by
 by_cases hk:s.kids=[]
 ·right;unfold H2 at hp;simp only[hb,hk,qN,Bool.and_true,Bool.true_or,Bool.or_eq_false_iff,qW]at hp;exact hp
 ·exact .inl hk
theorem Xl (hn:P6 s.op=false)(hp:H2 b s=true):s.num=0:=by
 unfold H2 at hp;simp only[qP,tK,qJ,hn,py,rI]at hp;exact hp.1.1
theorem mS (V:SK n s v)(hN:2000000<=N)(vz:CW v s=some b)(wA:Ex v s=some (!b))(h:s.op=0):LM n R1 R2 N v s:=by
 have ha:=V.Nm;refine H8 V hN vz wA (by omega) (by omega) (want:=[]) (c:=decide (-999<=s.num)&&decide (s.num<=999)) (t:=0) (λ_=>ix) (λhp=>?_) (λl hA hp=>⟨0,?_,λ_ _=>rfl⟩) (λl hA hp hb=>?_)
 ·have e1:(CY v s.args=some [])↔s.args=[]:=by
   constructor
   ·intro q;exact qV (HQ q).symm
   ·intro q;rw[q];rfl
  unfold DK;simp only[h,qN,qe,len_nil,Cf,e1];by_cases a:-999<=s.num<;>by_cases c:s.num<=999<;>by_cases d:s.args=[]<;>simp[a,c,d,Sh.cont]
 ·exact EI (Hu hp) (gv h)
 ·rcases QM hp hb with q|q
  ·exact⟨_,Ly q⟩
  ·rw[h]at q;exact absurd q.2 (by decide)
theorem jL (V:SK n s v)(hN:2000000<=N)(vz:CW v s=some b)(wA:Ex v s=some (!b))(h:s.op=1∨s.op=2∨s.op=3∨s.op=4):LM n R1 R2 N v s:=by
 have ha:=V.Nm;have hvl:=V.NZ;have hh:P6 s.op=false:=by rcases h with h|h|h|h<;>rw[h]<;>decide
 refine H8 V hN vz wA (by omega) (by omega) (want:=[0,0]) (c:=decide (s.num=0)) (t:=0) (λ_=>ix) (λhp=>?_) (λl hA hp=>⟨0,?_,λ_ _=>rfl⟩) (λl hA hp hb=>?_)
 ·have hn:=Xl hh hp;have e2:Cq N v s.args [0,0]=some (decide (CY v s.args=some [0,0])):=L6 (by omega) ha hN;unfold DK;rcases h with h|h|h|h<;>simp only[h,Int.reduceEq,qN,qM,py,qe,qR,po]<;>rw[e2]<;>by_cases q:CY v s.args=some [0,0]<;>simp[q,hn,Sh.cont]
 ·have hl:=HQ hA;exact EI (Hu hp) (WB (by omega) hN h)
 ·have hl:=HQ hA;by_cases hk:s.kids=[]
  ·rcases QM hp hb with q|q
   ·exact absurd hk q
   ·exact⟨0,EI hk (by rw[show (Dc n)=⟨n.decls,(Dc n).funcs⟩ from rfl,WB (by omega) hN h];simp[q.1])⟩
  ·exact⟨_,Ly hk⟩
theorem iw (V:SK n s v)(hN:2000000<=N)(vz:CW v s=some b)(wA:Ex v s=some (!b))(h:s.op=5):LM n R1 R2 N v s:=by
 have ha:=V.Nm;have hvl:=V.NZ;have hh:P6 s.op=false:=by rw[h];decide
 refine H8 V hN vz wA (by omega) (by omega) (want:=[0]) (c:=decide (s.num=0)) (t:=0) (λ_=>ix) (λhp=>?_) (λl hA hp=>⟨0,?_,λ_ _=>rfl⟩) (λl hA hp hb=>?_)
 ·have hn:=Xl hh hp;have e2:Cq N v s.args [0]=some (decide (CY v s.args=some [0])):=L6 (by omega) ha hN;unfold DK;simp only[h,Int.reduceEq,qN,qM,py,qe,qR,po];rw[e2];by_cases q:CY v s.args=some [0]<;>simp[q,hn,Sh.cont]
 ·have hl:=HQ hA;exact EI (Hu hp) (V0 (by omega) hN h)
 ·have hl:=HQ hA;by_cases hk:s.kids=[]
  ·rcases QM hp hb with q|q
   ·exact absurd hk q
   ·exact⟨0,EI hk (by rw[show (Dc n)=⟨n.decls,(Dc n).funcs⟩ from rfl,V0 (by omega) hN h];simp[q.1])⟩
  ·exact⟨_,Ly hk⟩
theorem lG (h:MX s):JC s.num:=by cases h;assumption
theorem mJ (V:SK n s v)(S:LV n)(hN:2000000<=N)(vz:CW v s=some b)(wA:Ex v s=some (!b))(h:s.op=6):LM n R1 R2 N v s:=by
 have ha:=V.Nm;have hvl:=V.NZ;have hI:=lG V.Ch;have xz:∀l,CY v s.args=some l->H2 b s=false->b=true->∃t',Dg N R2 (Dc n) v s l=some (t',false):=λl hA hp hb=>by
  rcases QM hp hb with q|q
  ·exact⟨_,Ly q⟩
  ·rw[h]at q;exact absurd q.2 (by decide)
 have yu:(∃t x,0<t/\Cg n.decls t=true/\DU N n.decls s.num=some t/\BV N n.decls s.num=some x)∨DU N n.decls s.num=some (-1):=by
  rcases VX (G:=(Dc n).funcs) (ks:=[]) S (by simp) hI hN h with ⟨t,x,q1,q2,q3,q4,q5,q6⟩|⟨q1,q2⟩
  ·exact .inl ⟨t,x,q1,q2,q4,q5⟩
  ·exact .inr q1
 rcases yu with ⟨t,x,q1,q2,q4,q5⟩|q1
 ·refine H8 V hN vz wA (by omega) (by omega) (want:=x) (c:=true) (t:=t) (λ_=>q2) (λhp=>?_) (λl hA hp=>⟨t,?_,λ_ _=>rfl⟩) xz
  ·have e2:Cq N v s.args x=some (decide (CY v s.args=some x)):=L6 (by omega) ha hN;unfold DK;simp only[h,Int.reduceEq,qN,qM,py,qe,qR,po];rw[q4,q5];simp only[po];rw[e2];by_cases q:CY v s.args=some x<;>simp[q,q1,Sh.cont]
  ·have hl:=HQ hA;refine EI (Hu hp) ?_;rcases VX (G:=(Dc n).funcs) (ks:=l) S (by omega) hI hN h with ⟨t',x',p1,p2,p3,p4,p5,p6⟩|⟨p1,p2⟩
   ·rw[q4]at p4;rw[q5]at p5;cases p4;cases p5;rw[ta];exact p6
   ·rw[q4]at p1;cases p1;omega
 ·refine H8 V hN vz wA (by omega) (by omega) (want:=[]) (c:=false) (t:=0) (λq=>nomatch q) (λhp=>?_) (λl hA hp=>⟨-1,?_,λq=>nomatch q⟩) xz
  ·unfold DK;simp only[h,Int.reduceEq,qN,qM,py,qe,qR,po];rw[q1];simp[Sh.cont]
  ·have hl:=HQ hA;refine EI (Hu hp) ?_;rcases VX (G:=(Dc n).funcs) (ks:=l) S (by omega) hI hN h with ⟨t',x',p1,p2,p3,p4,p5,p6⟩|⟨p1,p2⟩
   ·rw[q1]at p4;cases p4;omega
   ·rw[Bool.false_and];exact p2
end
end RC
namespace RC
open Go
section
variable {n : Ax} {R1 : Ax -> List Int -> Block -> Option Int} {R2 : Ah -> List Int -> Block -> Option Int} {T : List Int -> Block -> Int} {s : Step} {v : List Int} {N : Nat} {b : Bool}
theorem Xg:∀m∈([[],[]]:List (List Int)),m.length<=3/\∀x∈m,Cg n.decls x=true:=λm hm=>by
 simp at hm;subst hm;simp
theorem gS {o:Int}(h0:0<=s.op)(h5:s.op<=11)(ho:o=-1∨Cg n.decls o=true)(h1:HL N R1 n v s=some o)(h2:Be N R2 (Dc n) v s=some (if o<0 then (-1,false) else (o,true))):LM n R1 R2 N v s:=by
 by_cases h:o<0
 ·rw[qF h]at h2;exact Hj h1 h2 rfl h
 ·rw[qG h]at h2;refine kV h1 h2 ?_ h0 h5;rcases ho with q|q
  ·omega
  ·exact q
theorem gY (H:VN n R1 R2 T (Qe s))(V:SK n s v){ms:List (List Int)}(hm :∀m∈ms,m.length<=3/\∀x∈m,Cg n.decls x=true):Fb (Jv T v ms s.kids)=-1∨Cg n.decls (Fb (Jv T v ms s.kids))=true:=by
 rcases Zg (ts:=Jv T v ms s.kids) with z|z
 ·exact .inl z
 ·exact Ww H V hm _ z
theorem nQ (H:VN n R1 R2 T (Qe s))(V:SK n s v)(S:LV n)(hN:2000000<=N)(vz:CW v s=some b)(wA:Ex v s=some (!b))(h:s.op=7):LM n R1 R2 N v s:=by
 have hl:v.length<=1048576:=by have:=V.NZ;omega
 have e1:=OV (n:=n) (R1:=R1) (N:=N) vz;have e2:=Ka (n:=n) (R2:=R2) hl V.Nm hN wA;have ht:Cq N v s.args [0]=some (decide (CY v s.args=some [0])):=L6 hl V.Nm hN;have hp:H2 b s=(decide (s.num=0)&&b):=by
  unfold H2;rw[h,show P6 7=false by decide];simp
 have vh:DK N R1 n v s=some (if CY v s.args=some [0] then (if s.kids.length=2 then Fb (Jv T v [[],[]] s.kids) else -1) else -1):=by
  unfold DK;simp only[h,Int.reduceEq,qN,qM,py,qe,qR,po];rw[ht,Xr H V S hN (.inl ⟨h,rfl⟩)];by_cases q:CY v s.args=some [0]
  ·by_cases q2:s.kids.length=2<;>simp[q,q2,Sh.cont]
  ·simp[q,Sh.cont]
 rw[hp,vh]at e1;cases hA:CY v s.args with
 | none=>
  rw[hA]at e1 e2;refine Hj (q:=-1) ?_ e2 rfl (by omega);rw[e1];simp
 | some l=>
  rw[hA]at e1 e2;simp only[rJ]at e2;have ilen:decide (Sh.len l=1)=decide (l.length=1):=rP.2 (by rw[AK];omega);cases b with
  | false=>
   refine Hj (q:=-1) ?_ e2 rfl (by omega);rw[e1];simp
  | true=>
   simp only[qe]at e2;have hc:Dg N R2 (Dc n) v s l=if l=[0]/\s.num=0/\s.kids.length=2 then some (if Fb (Jv T v [[],[]] s.kids)<0 then (-1,false) else (Fb (Jv T v [[],[]] s.kids),true)) else some (-1,false):=by
    unfold Dg;rw[V2 (by omega) (by omega),ilen];simp only[po,py,qR,h,qN,qe]
    match l with
    | []=>simp
    | [x]=>
     have LY:decide (Sh.len s.kids=2)=decide (s.kids.length=2):=rP.2 (by rw[AK];omega);rw[show Sh.get [x] 0=some x from rfl,LY,po];by_cases q1:x=0
     ·by_cases q2:s.num=0
      ·by_cases q3:s.kids.length=2
       ·have mk2:Sh.mk ([]:List Int) 2 24=some [[],[]]:=Mz [] 2 24 (by omega) (by omega);rw[mk2];have ik:=Qa (ms:=[[],[]]) H V hN (by rw[q3];rfl) (by simp) (by simp) Xg;simp only[po];rw[ik];by_cases z:Fb (Jv T v [[],[]] s.kids)<0<;>simp[q1,q2,q3,z]
       ·simp[q1,q2,q3]
      ·simp[q1,q2]
     ·simp[q1]
    | x::y::r=>simp
   rw[hc]at e2;by_cases q:l=[0]/\s.num=0/\s.kids.length=2
   ·rw[qF q]at e2;refine gS (by omega) (by omega) (gY H V Xg) ?_ e2;rw[e1];simp[q.1,q.2.1,q.2.2]
   ·rw[qG q]at e2;refine Hj (q:=-1) ?_ e2 rfl (by omega);rw[e1];by_cases q1:s.num=0
    ·by_cases q2:l=[0]
     ·have q3:¬ s.kids.length=2:=λz=>q ⟨q2,q1,z⟩;simp[q1,q2,q3]
     ·simp[q1,q2]
    ·simp[q1]
theorem iO (H:VN n R1 R2 T (Qe s))(V:SK n s v)(S:LV n)(hN:2000000<=N)(vz:CW v s=some b)(wA:Ex v s=some (!b))(h:s.op=8):LM n R1 R2 N v s:=by
 have hl:v.length<=1048576:=by have:=V.NZ;omega
 have e1:=OV (n:=n) (R1:=R1) (N:=N) vz;have e2:=Ka (n:=n) (R2:=R2) hl V.Nm hN wA;have ht:Cq N v s.args [s.num]=some (decide (CY v s.args=some [s.num])):=L6 hl V.Nm hN;have hp:H2 b s=b:=by
  unfold H2;rw[h,show P6 8=true by decide];simp
 have yp:=L4 S.RJ s.num;have hm:∀m∈(CB n.decls s.num).map (E2 n.decls),m.length<=3/\∀x∈m,Cg n.decls x=true:=λm hm=>by
  obtain⟨c,hc,rfl⟩:=qT.1 hm;exact (Kt S hc hN).2.2
 have sk:=Xr H V S hN (.inr ⟨h,rfl⟩);have af:=WD (n:=n) S hN s.num;have zY:((CB n.decls s.num).map (E2 n.decls)).length<=10:=by simp;omega
 generalize (CB n.decls s.num).map (E2 n.decls)=ms at hm sk af zY;have vh:DK N R1 n v s=some (if CY v s.args=some [s.num] then (if ms=[]∨¬ s.kids.length=ms.length then -1 else Fb (Jv T v ms s.kids)) else -1):=by
  unfold DK;simp only[h,Int.reduceEq,qN,qM,py,qe,qR,po];rw[ht,sk];by_cases q:CY v s.args=some [s.num]<;>simp[q,Sh.cont]
 rw[hp,vh]at e1;cases hA:CY v s.args with
 | none=>
  rw[hA]at e1 e2;refine Hj (q:=-1) ?_ e2 rfl (by omega);rw[e1];simp
 | some l=>
  rw[hA]at e1 e2;simp only[rJ]at e2;have ilen:decide (Sh.len l=1)=decide (l.length=1):=rP.2 (by rw[AK];omega);cases b with
  | false=>
   refine Hj (q:=-1) ?_ e2 rfl (by omega);rw[e1];simp
  | true=>
   simp only[qe]at e1 e2;have hc:Dg N R2 (Dc n) v s l=if l=[s.num]/\¬ ms=[]/\s.kids.length=ms.length then some (if Fb (Jv T v ms s.kids)<0 then (-1,false) else (Fb (Jv T v ms s.kids),true)) else some (-1,false):=by
    unfold Dg;rw[V2 (by omega) (by omega),ilen,af];simp only[po,py,qR,h,Int.reduceEq,qM,qN,qe,len_nil]
    match l with
    | []=>simp
    | [x]=>
     have LY:decide (Sh.len s.kids=Sh.len ms)=decide (s.kids.length=ms.length):=rP.2 (by rw[AK,AK];omega);rw[show Sh.get [x] 0=some x from rfl,LY,po];by_cases q1:x=s.num
     ·by_cases q2:ms=[]
      ·simp[q1,q2]
      ·by_cases q3:s.kids.length=ms.length
       ·have ik:=Qa (ms:=ms) H V hN q3.symm q2 zY hm;rw[ik];by_cases z:Fb (Jv T v ms s.kids)<0<;>simp[q1,q2,q3,z]
       ·simp[q1,q2,q3]
     ·simp[q1]
    | x::y::r=>simp
   rw[hc]at e2;by_cases q:l=[s.num]/\¬ ms=[]/\s.kids.length=ms.length
   ·rw[qF q]at e2;refine gS (by omega) (by omega) (gY H V hm) ?_ e2;rw[e1];simp[q.1,q.2.1,q.2.2]
   ·rw[qG q]at e2;refine Hj (q:=-1) ?_ e2 rfl (by omega);rw[e1];by_cases q2:l=[s.num]
    ·have q3:ms=[]∨¬ s.kids.length=ms.length:=by
      by_cases z:ms=[]
      ·exact .inl z
      ·exact .inr λy=>q ⟨q2,z,y⟩
     rw[qF (by rw[q2]),qF q3]
    ·rw[qG (by simpa using q2)]
theorem Zq (hh:P6 s.op=true)(h0:0<=s.op)(h5:s.op<=11)(h7:¬ s.op=7)(h8:¬ s.op=8):∀l,CY v s.args=some l->H2 b s=false->b=true->∃t',Dg N R2 (Dc n) v s l=some (t',false):=λl _ hp hb=>by
 rcases QM hp hb with q|q
 ·exact⟨_,Ly q⟩
 ·rw[hh]at q;exact absurd q.2 (by decide)
theorem kp (V:SK n s v)(S:LV n)(hN:2000000<=N)(vz:CW v s=some b)(wA:Ex v s=some (!b))(h:s.op=9):LM n R1 R2 N v s:=by
 have hl:v.length<=1048576:=by have:=V.NZ;omega
 have ha:=V.Nm;have hR:=S.TK;have hG:(Dc n).funcs.length<=4:=by rw[LX];exact hR
 have xz:=Zq (n:=n) (R2:=R2) (N:=N) (v:=v) (b:=b) (s:=s) (by rw[h];decide) (by omega) (by omega) (by omega) (by omega);rcases bz S s.num with ⟨r,r0,r1,r2,r3,r4,r5,r6⟩|hr
 ·refine H8 V hN vz wA (by omega) (by omega) (want:=r.params) (c:=true) (t:=r.result) (λ_=>r6) (λhp=>?_) (λl hA hp=>⟨r.result,?_,λ_ _=>rfl⟩) xz
  ·have ht:Cq N v s.args r.params=some (decide (CY v s.args=some r.params)):=L6 hl ha hN;have r1':s.num<=(n.AU.length:Int)-1:=by omega
   unfold DK HU;simp only[h,Int.reduceEq,qN,qM,py,qe,qR,po];rw[Cf,AK n.AU,wI (n:=(n.AU.length:Int)-1),r2];simp only[po,r0,r1',qN,sU,rA,py,qR];rw[ht];by_cases q:CY v s.args=some r.params<;>simp[q,Sh.cont]
  ·have yQ:=HQ hA;refine EI (Hu hp) ?_;rw[ta];exact eD (D:=n.decls) (f:=⟨r.params,r.CE,r.result⟩) (by omega) hG hN h r0 (by first|(rw[LX];exact r1)|(rw[qc];exact r1)) r3
 ·refine H8 V hN vz wA (by omega) (by omega) (want:=[]) (c:=false) (t:=0) (λq=>nomatch q) (λhp=>?_) (λl hA hp=>⟨-1,?_,λq=>nomatch q⟩) xz
  ·unfold DK HU;simp only[h,Int.reduceEq,qN,qM,py,qe,qR,po];rw[Cf,AK n.AU,wI (n:=(n.AU.length:Int)-1)];have:(decide (0<=s.num)&&decide (s.num<=(n.AU.length:Int)-1))=false:=by
    rw[qz,qW,qW];omega
   rw[this];simp[Sh.cont]
  ·refine EI (Hu hp) ?_;rw[Bool.false_and];exact TS (D:=n.decls) hG (.inl h) (by first|(rw[LX];exact hr)|(rw[qc];exact hr))
theorem PV {l:List Int}{t:Int}{ok CE:Bool}(h:s.op=10)(hk:s.kids=[])(hle:(if decide (0<=s.num)=true then if decide (s.num<Sh.len (Dc n).funcs)=true then (Sh.get (Dc n).funcs s.num).bind λc83=>some (decide (0<Sh.len c83.CE)) else some false else some false)=some CE)
  (hs:AS N (Dc n) s.op s.num l=some (t,ok)):Dg N R2 (Dc n) v s l=if CE=true then some (-1,false) else some (t,ok):=by
 unfold Dg;rw[V2 (by omega) (by omega),hs,hk];simp only[po,py,qR,h,Int.reduceEq,qM,qN,qe];rw[show decide ((0:Int)<Sh.len ([]:List Block))=false from rfl];simp only[py,qR];rw[hle];cases CE<;>rfl
theorem jO (V:SK n s v)(S:LV n)(hN:2000000<=N)(vz:CW v s=some b)(wA:Ex v s=some (!b))(h:s.op=10):LM n R1 R2 N v s:=by
 have hl:v.length<=1048576:=by have:=V.NZ;omega
 have ha:=V.Nm;have hR:=S.TK;have hD:=S.MY;have hG:(Dc n).funcs.length<=4:=by rw[LX];exact hR
 have xz:=Zq (n:=n) (R2:=R2) (N:=N) (v:=v) (b:=b) (s:=s) (by rw[h];decide) (by omega) (by omega) (by omega) (by omega);rcases bz S s.num with ⟨r,r0,r1,r2,r3,r4,r5,r6⟩|hr
 ·have r1':s.num<=(n.AU.length:Int)-1:=by omega
  have hle:(if decide (0<=s.num)=true then if decide (s.num<Sh.len (Dc n).funcs)=true then (Sh.get (Dc n).funcs s.num).bind λc83=>some (decide (0<Sh.len c83.CE)) else some false else some false)=some (decide (¬ r.CE=[])):=by
   rw[r3,AK,LX];simp only[r0,r1,qN,qe,po];cases r.CE with
   | nil=>rfl
   | cons a q=>simp[AK]<;>omega
  have vh:∀(X:Option Int),DK N R1 n v s=Sh.cont (((
     if decide (r.params=[])=true then some true
     else if decide (0<Sh.len r.CE)=true then some true
     else (Sh.sl r.params 0 (Sh.w (Sh.len r.params-1))).bind λl36=>(Cq N v s.args l36).bind λq37=>some !q37).bind λt25=>
     if t25=true then some (-1) else (Sh.get r.params (Sh.w (Sh.len r.params-1))).bind λc30=>(Hr N n.decls c30 r.result).bind λq31=>some q31).bind λq66=>some (Sum.inl q66)) id λ()=>some (-1):=λ_=>by
   unfold DK HU;simp only[h,Int.reduceEq,qN,qM,py,qe,qR,po];rw[Cf,AK n.AU,wI (n:=(n.AU.length:Int)-1),r2];simp only[po,r0,r1',qN,sU,rA,py,qR,len_nil]
  have vh:=vh none;have hlent:decide ((0:Int)<Sh.len r.CE)=decide (¬ r.CE=[]):=by
   cases r.CE with
   | nil=>rfl
   | cons a q=>exact rP.2 (by rw[AK,qa];simp<;>omega)
  rw[hlent]at vh;by_cases hp0:r.params=[]
  ·refine H8 V hN vz wA (by omega) (by omega) (want:=[]) (c:=false) (t:=0) (λq=>nomatch q) (λhp=>by rw[vh];simp[hp0,Sh.cont]) (λl hA hp=>⟨-1,?_,λq=>nomatch q⟩) xz;have yQ:=HQ hA;rcases WQ (D:=n.decls) (G:=(Dc n).funcs) (ks:=l) (N:=N) (f:=⟨r.params,r.CE,r.result⟩) (by omega) hD hG r4 hN h r0 (by first|(rw[LX];exact r1)|(rw[qc];exact r1)) r3 with ⟨_,z⟩|⟨m,x,z,_⟩
   ·rw[PV h (Hu hp) hle z];cases decide (¬ r.CE=[])<;>rfl
   ·exfalso;rw[hp0]at z;simp at z
  ·obtain⟨m,hm⟩ :∃m,r.params.length=m+1:=⟨r.params.length-1,by have:=tM.2 hp0;omega⟩
   obtain⟨x,hx,zG⟩:=Ba (l:=r.params) (i:=m) (by omega);have hw:Sh.w (Sh.len r.params-1)=(m:Int):=by rw[AK,wI];omega
   have ht:Cq N v s.args (r.params.take m)=some (decide (CY v s.args=some (r.params.take m))):=L6 hl ha hN;have xe:HW x r.result n.decls 0=-1∨Cg n.decls (HW x r.result n.decls 0)=true:=by
    rcases XF (a:=x) (b:=r.result) n.decls 0 with q|q
    ·exact .inl q
    ·right;unfold Cg;simp;omega
   rw[hw,UQ (by omega),Av hx]at vh;simp only[po]at vh;rw[NA (by omega) hN,ht]at vh;simp only[po]at vh;refine H8 V hN vz wA (by omega) (by omega) (want:=r.params.take m) (c:=decide (r.CE=[])&&decide (0<=HW x r.result n.decls 0)) (t:=HW x r.result n.decls 0) (λq=>?_) (λhp=>?_) (λl hA hp=>?_) xz
   ·simp only[qP,qJ]at q;rcases xe with z|z
    ·omega
    ·exact z
   ·rw[vh];by_cases c1:r.CE=[]
    ·by_cases c2:CY v s.args=some (r.params.take m)
     ·by_cases c3:0<=HW x r.result n.decls 0
      ·simp[hp0,c1,c2,c3,Sh.cont]
      ·have:HW x r.result n.decls 0=-1:=by
        rcases xe with z|z
        ·exact z
        ·exact absurd (IH z).1 c3
       simp[hp0,c1,c2,this,Sh.cont]
     ·simp[hp0,c1,c2,Sh.cont]
    ·simp[hp0,c1,Sh.cont]
   ·have yQ:=HQ hA;rcases WQ (D:=n.decls) (G:=(Dc n).funcs) (ks:=l) (N:=N) (f:=⟨r.params,r.CE,r.result⟩) (by omega) hD hG r4 hN h r0 (by first|(rw[LX];exact r1)|(rw[qc];exact r1)) r3 with ⟨z,_⟩|⟨m',x',z,z2,z3⟩
    ·exact absurd z hp0
    ·have:m'=m:=by rw[hm]at z;omega
     subst this;have z2':r.params[m']?=some x':=z2;rw[hx]at z2';cases z2';rw[PV h (Hu hp) hle z3];by_cases c1:r.CE=[]
     ·exact⟨_,by simp[c1],λ_ _=>rfl⟩
     ·exact⟨-1,by simp[c1],λq=>by simp[c1]at q⟩
 ·refine H8 V hN vz wA (by omega) (by omega) (want:=[]) (c:=false) (t:=0) (λq=>nomatch q) (λhp=>?_) (λl hA hp=>⟨-1,?_,λq=>nomatch q⟩) xz
  ·unfold DK HU;simp only[h,Int.reduceEq,qN,qM,py,qe,qR,po];rw[Cf,AK n.AU,wI (n:=(n.AU.length:Int)-1)];have:(decide (0<=s.num)&&decide (s.num<=(n.AU.length:Int)-1))=false:=by
    rw[qz,qW,qW];omega
   rw[this];simp[Sh.cont]
  ·have hle:(if decide (0<=s.num)=true then if decide (s.num<Sh.len (Dc n).funcs)=true then (Sh.get (Dc n).funcs s.num).bind λc83=>some (decide (0<Sh.len c83.CE)) else some false else some false)=some false:=by
    rw[AK,LX];by_cases c:0<=s.num
    ·have:¬ s.num<(n.AU.length:Int):=by omega
     simp[c,this]
    ·simp[c]
   rw[PV h (Hu hp) hle (TS (D:=n.decls) hG (.inr h) (by first|(rw[LX];exact hr)|(rw[qc];exact hr)))];simp
end
end RC
namespace RC
open Go
section
variable {n : Ax} {R1 : Ax -> List Int -> Block -> Option Int} {R2 : Ah -> List Int -> Block -> Option Int} {T : List Int -> Block -> Int} {s : Step} {v : List Int} {N : Nat} {b : Bool}
theorem QI {a x:Int}(h:L5 v a=some x):0<=a/\a<(v.length:Int)/\Sh.get v a=some x/\x∈v:=by
 unfold L5 at h;split at h
 ·rename_i hr;exact⟨hr.1,hr.2,by rw[P9 hr.1,h],pt h⟩
 ·cases h
theorem VK {a0 a1:Int}:CY v [a0,a1]=(L5 v a0).bind λx=>(L5 v a1).map λy=>[x,y]:=by
 simp only[CY];cases L5 v a0<;>cases L5 v a1<;>rfl
theorem VR {a0:Int}:CY v [a0]=(L5 v a0).map λx=>[x]:=by
 simp only[CY];cases L5 v a0<;>rfl
theorem jH (V:SK n s v)(S:LV n)(hN:2000000<=N)(vz:CW v s=some b)(wA:Ex v s=some (!b))(h:s.op=11):LM n R1 R2 N v s:=by
 have hl:v.length<=1048576:=by have:=V.NZ;omega
 have ha:=V.Nm;have hD:=S.MY;have hh:P6 s.op=false:=by rw[h];decide
 by_cases h2:s.args.length=2
 ·obtain⟨a0,a1,wB⟩ :∃a0 a1,s.args=[a0,a1]:=by
   match hk:s.args,h2 with
   | [a,c],_=>exact⟨a,c,rfl⟩
  have vh:DK N R1 n v s=some (match L5 v a0 with
    | some x=>match KY n.decls x with
     | some d=>if CY v [a1]=some [d.from_] then d.to else -1
     | none=>-1
    | none=>-1):=by
   unfold DK;simp only[h,Int.reduceEq,qN,qM,py,qe,qR,po];rw[wB,show decide (Sh.len [a0,a1]=2)=true from rfl,show Sh.get [a0,a1] 0=some a0 from rfl,show Sh.sl [a0,a1] 1 (Sh.len [a0,a1])=some [a1] from rfl];simp only[qe,po];rw[Cf,AK v,wI (n:=(v.length:Int)-1),po];cases hA:L5 v a0 with
   | none=>
    have hr:¬ (0<=a0/\a0<(v.length:Int)):=λq=>by obtain⟨x,q1,_⟩:=W6 q.1 q.2;rw[hA]at q1;cases q1
    have:(decide (0<=a0)&&decide (a0<=(v.length:Int)-1))=false:=by
     rw[qz,qW,qW];omega
    rw[this];simp[Sh.cont]
   | some x=>
    obtain⟨q1,q2,q3,q4⟩:=QI hA;have:(decide (0<=a0)&&decide (a0<=(v.length:Int)-1))=true:=by
     rw[qP,qJ,qJ];omega
    rw[this,q3];simp only[qe,po];rw[Hy (by omega),po];cases hB:KY n.decls x with
    | none=>simp[Sh.cont]
    | some d=>
     obtain⟨m1,m2,m3,m4⟩:=QA hB;have g5:Sh.get n.decls (Sh.w (x-1))=some d:=by rw[wI,P9 (by omega),m4]
     have ht:Cq N v [a1] [d.from_]=some (decide (CY v [a1]=some [d.from_])):=L6 hl (by simp) hN;rw[g5];simp only[Option.isSome_some,qe,po];rw[ht];by_cases q:CY v [a1]=some [d.from_]<;>simp[q,Sh.cont]
  cases hA0:L5 v a0 with
  | none=>
   have hA:CY v s.args=none:=by rw[wB,VK,hA0];rfl
   refine H8 V hN vz wA (by omega) (by omega) (want:=[]) (c:=false) (t:=0) (λq=>nomatch q) (λhp=>by rw[vh,hA0];simp) (λl q=>by rw[hA]at q;cases q) (λl q=>by rw[hA]at q;cases q)
  | some x=>
   cases hA1:L5 v a1 with
   | none=>
    have hA:CY v s.args=none:=by rw[wB,VK,hA0,hA1];rfl
    have hA2:CY v [a1]=none:=by rw[VR,hA1];rfl
    refine H8 V hN vz wA (by omega) (by omega) (want:=[]) (c:=false) (t:=0) (λq=>nomatch q) (λhp=>by rw[vh,hA0,hA2];simp;split<;>rfl) (λl q=>by rw[hA]at q;cases q) (λl q=>by rw[hA]at q;cases q)
   | some y=>
    have hA:CY v s.args=some [x,y]:=by rw[wB,VK,hA0,hA1];rfl
    have hA2:CY v [a1]=some [y]:=by rw[VR,hA1];rfl
    have xz:∀l,CY v s.args=some l->H2 b s=false->b=true->∃t',Dg N R2 (Dc n) v s l=some (t',false):=λl yQ hp hb=>by
     by_cases hk:s.kids=[]
     ·rcases QM hp hb with q|q
      ·exact absurd hk q
      ·rw[hA]at yQ;cases yQ;have e:=SD (D:=n.decls) (G:=(Dc n).funcs) (ks:=[x,y]) (num:=s.num) (N:=N) hD h rfl;cases hB:KY n.decls x with
       | none=>rw[hB]at e;exact⟨0,EI hk e⟩
       | some d=>
        rw[hB]at e;refine⟨d.to,EI hk (e.trans ?_)⟩;simp[q.1]
     ·exact⟨_,Ly hk⟩
    cases hB:KY n.decls x with
    | none=>
     refine H8 V hN vz wA (by omega) (by omega) (want:=[]) (c:=false) (t:=0) (λq=>nomatch q) (λhp=>by rw[vh,hA0];dsimp only;rw[hB];simp) (λl yQ hp=>⟨0,?_,λq=>nomatch q⟩) xz;rw[hA]at yQ;cases yQ;refine EI (Hu hp) ((SD (D:=n.decls) (G:=(Dc n).funcs) (N:=N) hD h rfl).trans ?_);rw[hB];rfl
    | some d=>
     obtain⟨m1,m2,m3,m4⟩:=QA hB;have xe:=(S.gJ d m1).2;refine H8 V hN vz wA (by omega) (by omega) (want:=[x,y]) (c:=decide (y=d.from_)) (t:=d.to) (λ_=>xe) (λhp=>?_) (λl yQ hp=>⟨d.to,?_,λ_ _=>rfl⟩) xz
     ·rw[vh,hA0];dsimp only;rw[hB,hA2,hA];by_cases q:y=d.from_<;>simp[q]
     ·rw[hA]at yQ;cases yQ;have hn:=Xl hh hp;refine EI (Hu hp) ((SD (D:=n.decls) (G:=(Dc n).funcs) (N:=N) hD h rfl).trans ?_);rw[hB];simp[hn]
 ·have h2':¬ ((s.args.length:Int)=2):=by omega
  refine H8 V hN vz wA (by omega) (by omega) (want:=[]) (c:=false) (t:=0) (λq=>nomatch q) (λhp=>?_) (λl hA hp=>⟨-1,?_,λq=>nomatch q⟩) (λl hA hp hb=>?_)
  ·unfold DK;simp only[h,Int.reduceEq,qN,qM,py,qe,qR,po,AK,h2'];simp[Sh.cont]
  ·have:=HQ hA;exact EI (Hu hp) ((SV (D:=n.decls) (G:=(Dc n).funcs) (N:=N) h (by omega)).trans (by simp))
  ·have:=HQ hA;by_cases hk:s.kids=[]
   ·exact⟨-1,EI hk (SV (D:=n.decls) (G:=(Dc n).funcs) (N:=N) h (by omega))⟩
   ·exact⟨_,Ly hk⟩
def cN (D:List AI)(s:Step):List Int->Bool
 | [x]=>decide (¬ x=0/\s.num=0/\s.kids=[]/\¬ ((s.op=16∨s.op=17)/\(KY D x).isSome=true))
 | _=>false
theorem iQ (V:SK n s v)(S:LV n)(hN:2000000<=N)(vz:CW v s=some b)(wA:Ex v s=some (!b))(h:s.op=14∨s.op=15∨s.op=16∨s.op=17):LM n R1 R2 N v s:=by
 have hl:v.length<=1048576:=by have:=V.NZ;omega
 have hD:=S.MY;have e1:=OV (n:=n) (R1:=R1) (N:=N) vz;have e2:=Ka (n:=n) (R2:=R2) hl V.Nm hN wA;have hc:Qj s.op=true:=by rcases h with h|h|h|h<;>rw[h]<;>decide
 have hp:H2 b s=((decide (s.num=0)&&b)&&decide (s.kids=[])):=by
  unfold H2;rcases h with h|h|h|h<;>rw[h]<;>simp[P6]
 have vh:DK N R1 n v s=some (match CY v s.args with
   | some [x]=>if x=0∨((s.op=16∨s.op=17)/\(KY n.decls x).isSome=true) then -1 else 0
   | _=>-1):=by
  have hct:DK N R1 n v s=Sh.cont ((Jh n v s).bind λq=>some (Sum.inl q)) id λ()=>some (-1):=by
   unfold DK;rcases h with h|h|h|h<;>simp only[h,Int.reduceEq,qN,qM,py,qe,qR,po]
  rw[hct];unfold Jh;have LY:decide (Sh.len s.args=1)=decide (s.args.length=1):=rP.2 (by rw[AK];omega);rw[LY];by_cases h1:s.args.length=1
  ·obtain⟨a,wB⟩ :∃a,s.args=[a]:=by
    match hk:s.args,h1 with
    | [a],_=>exact⟨a,rfl⟩
   rw[wB,show Sh.get [a] 0=some a from rfl,VR];simp only[po,qa,qt,qN,rA,py,qR];rw[Cf,AK,wI,po];cases hA:L5 v a with
   | none=>
    have hr:¬ (0<=a/\a<(v.length:Int)):=λq=>by obtain⟨x,q1,_⟩:=W6 q.1 q.2;rw[hA]at q1;cases q1
    have:(decide (0<=a)&&decide (a<=(v.length:Int)-1))=false:=by
     rw[qz,qW,qW];omega
    rw[this];simp[Sh.cont]
   | some x=>
    obtain⟨q1,q2,q3,q4⟩:=QI hA;have:(decide (0<=a)&&decide (a<=(v.length:Int)-1))=true:=by
     rw[qP,qJ,qJ];omega
    rw[this,q3];simp only[rA,py,qR,po];rw[Hy (by omega)];by_cases z:x=0
    ·simp[z,Sh.cont]
    ·rcases h with h|h|h|h<;>cases hB:KY n.decls x<;>simp[h,z,hB,Sh.cont]
  ·have :∀x,CY v s.args≠some [x]:=λx q=>h1 (by have:=HQ q;simpa using this.symm);simp only[h1,qM,Bool.not_false,qe,po];cases hA:CY v s.args with
   | none=>rfl
   | some l=>
    match l,hA with
    | [],_=>rfl
    | [x],hA=>exact absurd hA (this x)
    | x::y::r,_=>rfl
 rw[hp,vh]at e1;cases hA:CY v s.args with
 | none=>
  rw[hA]at e1 e2;refine Hj (q:=-1) ?_ e2 rfl (by omega);rw[e1];simp
 | some l=>
  rw[hA]at e1 e2;simp only[rJ]at e2;cases b with
  | false=>
   refine Hj (q:=-1) ?_ e2 rfl (by omega);rw[e1];simp
  | true=>
   simp only[qe]at e2;have ilen:decide (Sh.len l=1)=decide (l.length=1):=rP.2 (by rw[AK];omega);have hci:EM s.op=some true:=by rw[QQ,hc]
   have hic:Dg N R2 (Dc n) v s l=some (-1,cN n.decls s l):=by
    unfold Dg;rw[hci,ilen];simp only[po,qe,len_nil]
    match l with
    | []=>simp[cN]
    | [x]=>
     rw[show Sh.get [x] 0=some x from rfl];simp only[po,cN];rw[show (Dc n).decls=n.decls from rfl,NH (by omega)];by_cases z:x=0
     ·simp[z]
     ·by_cases z2:s.num=0
      ·by_cases z3:s.kids=[]
       ·rcases h with h|h|h|h<;>cases hB:KY n.decls x<;>simp[h,z,z2,z3,hB]
       ·simp[z,z2,z3]
      ·simp[z,z2]
    | x::y::r=>simp[cN]
   rw[hic]at e2
   match l with
   | []=>exact Hj (q:=-1) (by rw[e1];simp) e2 rfl (by omega)
   | x::y::r=>exact Hj (q:=-1) (by rw[e1];simp) e2 rfl (by omega)
   | [x]=>
    simp only[cN]at e2;simp only at e1;by_cases g:¬ x=0/\s.num=0/\s.kids=[]/\¬ ((s.op=16∨s.op=17)/\(KY n.decls x).isSome=true)
    ·refine⟨0,-1,true,?_,?_,?_⟩
     ·rw[e1];have:¬ (x=0∨((s.op=16∨s.op=17)/\(KY n.decls x).isSome=true)):=λq=>by
       rcases q with q|q
       ·exact g.1 q
       ·exact g.2.2.2 q
      rw[qG this];simp[g.2.1,g.2.2.1]
     ·rw[e2,sE g]
     ·rw[qF rfl,qF hc];exact⟨by omega,pw⟩
    ·refine Hj (q:=-1) ?_ e2 (decide_eq_false g) (by omega);rw[e1];by_cases z2:s.num=0
     ·by_cases z3:s.kids=[]
      ·have:x=0∨((s.op=16∨s.op=17)/\(KY n.decls x).isSome=true):=by
        by_cases q:x=0
        ·exact .inl q
        ·refine .inr (Classical.byContradiction λq2=>g ⟨q,z2,z3,q2⟩)
       rw[qF this];simp
      ·simp[z3]
     ·simp[z2]
theorem jI (V:SK n s v)(hN:2000000<=N)(vz:CW v s=some b)(wA:Ex v s=some (!b))(h:s.op<0∨s.op=12∨s.op=13∨17<s.op):LM n R1 R2 N v s:=by
 have hl:v.length<=1048576:=by have:=V.NZ;omega
 have e1:=OV (n:=n) (R1:=R1) (N:=N) vz;have e2:=Ka (n:=n) (R2:=R2) hl V.Nm hN wA;have hc:Qj s.op=false:=by unfold Qj;rw[qz,qW,qW];omega
 have vh:DK N R1 n v s=some (-1):=by
  unfold DK;simp only[show ¬ s.op=0 by omega,show ¬ s.op=1 by omega,show ¬ s.op=2 by omega,show ¬ s.op=3 by omega,show ¬ s.op=4 by omega,show ¬ s.op=5 by omega,show ¬ s.op=6 by omega,show ¬ s.op=7 by omega,show ¬ s.op=8 by omega,show ¬ s.op=9 by omega,show ¬ s.op=10 by omega,show ¬ s.op=11 by omega,show ¬ s.op=14 by omega,show ¬ s.op=15 by omega,show ¬ s.op=16 by omega,show ¬ s.op=17 by omega,qM,py,qR,po];simp[Sh.cont]
 have h1:HL N R1 n v s=some (-1):=by rw[e1,vh];split<;>rfl
 cases hA:CY v s.args with
 | none=>rw[hA]at e2;exact Hj h1 e2 rfl (by omega)
 | some l=>
  rw[hA]at e2;simp only[rJ]at e2;cases b with
  | false=>exact Hj h1 e2 rfl (by omega)
  | true=>
   simp only[qe]at e2;have hic:Dg N R2 (Dc n) v s l=some (-1,false):=by
    unfold Dg;rw[QQ,hc];simp only[po,py,qR,show ¬ s.op=7 by omega,show ¬ s.op=8 by omega,show ¬ s.op=10 by omega,qM];rw[show (Dc n)=⟨n.decls,(Dc n).funcs⟩ from rfl,dN (by omega)];by_cases hk:decide (0<Sh.len s.kids)=true<;>simp[hk]
   rw[hic]at e2;exact Hj h1 e2 rfl (by omega)
theorem fE (H:VN n R1 R2 T (Qe s))(V:SK n s v)(S:LV n)(hN:2000000<=N):LM n R1 R2 N v s:=by
 obtain⟨b,vz,wA⟩:=fQ (n:=n) (s:=s) V.Ni (by have:=V.NZ;omega);by_cases h0:s.op=0
 ·exact mS V hN vz wA h0
 by_cases h1:s.op=1∨s.op=2∨s.op=3∨s.op=4
 ·exact jL V hN vz wA h1
 by_cases h5:s.op=5
 ·exact iw V hN vz wA h5
 by_cases h6:s.op=6
 ·exact mJ V S hN vz wA h6
 by_cases h7:s.op=7
 ·exact nQ H V S hN vz wA h7
 by_cases h8:s.op=8
 ·exact iO H V S hN vz wA h8
 by_cases h9:s.op=9
 ·exact kp V S hN vz wA h9
 by_cases h10:s.op=10
 ·exact jO V S hN vz wA h10
 by_cases h11:s.op=11
 ·exact jH V S hN vz wA h11
 by_cases hc:s.op=14∨s.op=15∨s.op=16∨s.op=17
 ·exact iQ V S hN vz wA hc
 exact jI V hN vz wA (by omega)
end
end RC
