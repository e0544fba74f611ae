import Derived.Test.YtccficmcdkcpnaaGreatGHADefsToCNDefs
set_option linter.all false
namespace RC
open Go
theorem cJ {n:Int}(h1:-9223372036854775808<=n)(h2:n<=9223372036854775807):Sh.w n=n:=Abs.wrap_i64 h1 h2
theorem Ah {α:Type}(l:List α):Sh.len l=(l.length:Int):=rfl
theorem gj {α:Type}(l:List α)(i:Nat):Sh.get l (i:Int)=l[i]?:=by
 unfold Sh.get;rw[uX (xe i)];simp
theorem Ao {α:Type}{l:List α}{i:Nat}{x:α}(h:l[i]?=some x):Sh.get l (i:Int)=some x:=by rw[gj,h]
theorem wI {n:Int}(h1:-9223372036854775808<=n:=by omega)(h2:n<=9223372036854775807:=by omega):Sh.w n=n:=cJ h1 h2
theorem wN {i:Nat}(h:i<=1048576:=by omega):Sh.w ((i:Int)+1)=((i+1:Nat):Int):=by rw[cJ (by omega) (by omega)];rfl
theorem Cj {α β:Type}{l:List α}{i:Nat}{a b:β}(h:i<l.length:=by omega):(if decide ((i:Int)<Sh.len l)=true then a else b)=a:=uX (by simp[Ah];omega)
theorem CX {α β:Type}{l:List α}{a b:β}:(if decide ((l.length:Int)<Sh.len l)=true then a else b)=b:=uY (by simp[Ah])
theorem PZ {α:Type}{l:List α}{j:Int}(h0:0<=j)(h1:j<l.length):∃x,Sh.get l j=some x/\l[j.toNat]?=some x:=by
 have h:l[j.toNat]?=some (l[j.toNat]'(by omega)):=uQ (by omega);exact⟨_,by unfold Sh.get;rw[uX h0,h],h⟩
theorem Nv {α:Type}{l:List α}{j:Int}(h0:0<=j):Sh.get l j=l[j.toNat]?:=by unfold Sh.get;rw[uX h0]
theorem Pk {α:Type}(l:List α)(i:Nat)(x:α):Sh.put l (i:Int) x=l.set i x:=by simp[Sh.put]
theorem PR {α:Type}(x:α)(n b:Nat)(h:n*b<=281474976710656)(h2:n<=9223372036854775807):Sh.mk x (n:Int) b=some (List.replicate n x):=by
 unfold Sh.mk;rw[uX ⟨by omega,by rw[<- yH];omega,by omega⟩];simp
theorem BU {α:Type}(l m:List α)(b:Nat)(h:(l.length+m.length)*b<=140737488355328)(h2:l.length+m.length<=9223372036854775807):Sh.app l m b=some (l++m):=by
 unfold Sh.app;rw[uX ⟨h,h2⟩]
theorem sn {α:Type}{l:List α}{j:Nat}(h:j<=l.length):Sh.hi l (j:Int)=some (l.take j):=by
 unfold Sh.hi;rw[uX ⟨by omega,by omega⟩];simp
theorem BQ (len:Nat)(P:Nat->Nat->Prop)(h0 :∀n,P (n+1) len)(hs :∀n i,i<len->P n (i+1)->P (n+1) i):∀{N i:Nat},i<=len->len-i<N->P N i:=by
 intro N i hi hN;obtain⟨k,hk⟩ :∃k,len-i=k:=⟨_,rfl⟩
 induction k generalizing N i with
 | zero=>
  obtain⟨n,rfl⟩ :∃n,N=n+1:=⟨N-1,by omega⟩
  have:i=len:=by omega
  subst this;exact h0 n
 | succ k ih=>
  obtain⟨n,rfl⟩ :∃n,N=n+1:=⟨N-1,by omega⟩
  exact hs n i (by omega) (ih (by omega) (by omega) (by omega))
theorem BX {α:Type}{l:List α}{i:Nat}(h:i<l.length):∃x,l[i]?=some x/\x∈l:=⟨l[i],uQ h,xB h⟩
theorem Ep {α:Type}{l:List α}{j:Nat}{x:α}(h:l[j]?=some x):l.take (j+1)=l.take j++[x]:=by rw[List.take_add_one,h];rfl
theorem drop_cons {α:Type}{l:List α}{j:Nat}{x:α}(h:l[j]?=some x):l.drop j=x::l.drop (j+1):=by
 obtain⟨hj,rfl⟩:=uK.1 h;exact xb hj
def mr (h:List Cell):Nat:=(h.map λc=>c.fields.length).sum
def Ga (h:List Cell):Nat:=h.length+mr h
structure Hp (h:List Cell):Prop where
 size:Ga h<=1048576
 cells :∀c∈h,dZ c
theorem lK {h:List Cell}{c:Cell}(hc:c∈h):c.fields.length<=mr h:=by
 induction h with
 | nil=>cases hc
 | cons d h ih=>
  simp only[mr,vK,wz]at ih⊢;rcases uz.1 hc with rfl|hc
  ·omega
  ·have:=ih hc;omega
theorem Hp.len {h:List Cell}(H:Hp h):h.length<=1048576:=by have:=H.size;unfold Ga at this;omega
theorem Hp.rS {h:List Cell}(H:Hp h){c:Cell}(hc:c∈h):c.fields.length<=1048576:=by have:=H.size;have:=lK hc;unfold Ga at *;omega
end RC
namespace RC
open Go
def Eb {α:Type}(f:Nat->α->Bool):Nat->List α->Bool
 | _,[]=>true
 | k,x::r=>f k x&&Eb f (k+1) r
theorem WT {α:Type}{f g:Nat->α->Bool}:∀(l:List α) (k:Nat),(∀(i:Nat) x,l[i]?=some x->f (k+i) x=g (k+i) x)->Eb f k l=Eb g k l
 | [],_,_=>rfl
 | x::r,k,h=>by
  have h0:=h 0 x rfl;rw[xN]at h0;have h1:=WT r (k+1) λi y hy=>(show k+(i+1)=k+1+i by omega)▸h (i+1) y hy;rw[Eb,Eb,h0,h1]
theorem EU {α:Type}{p:α->Bool}:∀(l:List α) (k:Nat),Eb (λ_ x=>p x) k l=l.all p
 | [],_=>rfl
 | x::r,k=>by rw[Eb,EU r (k+1),xT]
theorem DU {α:Type}{l:List α}(L:Nat->Int->Option (Bool ⊕ Unit))(f:Nat->α->Bool)(h0 :∀n,L (n+1) (l.length:Int)=some (.inr ()))
  (hs :∀n (i:Nat) x,l[i]?=some x->L (n+1) (i:Int)=if f i x=true then L n ((i+1:Nat):Int) else some (.inl false)) {N:Nat} (hN:l.length<N) :
  L N 0=some (if Eb f 0 l=true then .inr () else .inl false):=by
 have key:∀{N i:Nat},i<=l.length->l.length-i<N->L N (i:Int)=some (if Eb f i (l.drop i)=true then .inr () else .inl false):=by
  intro N i hi hN;refine BQ l.length (λN i=>L N (i:Int)=some (if Eb f i (l.drop i)=true then .inr () else .inl false)) ?_ ?_ hi hN
  ·intro n;rw[h0 n];simp[Eb]
  ·intro n i hi ih;obtain⟨x,hx,_⟩:=BX hi;rw[hs n i x hx,ih,drop_cons hx,Eb];cases h:f i x<;>simp
 have:=key (ue _) (by omega:l.length-0<N);simpa using this
theorem EC {β:Type}{b:Bool}{g:Bool->β}{K:Unit->Option β}:Sh.cont (some (if b=true then Sum.inr () else Sum.inl false)) g K=if b=true then K () else some (g false):=by
 cases b<;>rfl
theorem fI {α:Type}{l:List α}{j:Nat}(h:j<=l.length)(h2:l.length<=9223372036854775807):Sh.sl l 0 (j:Int)=some (l.take j):=by
 unfold Sh.sl;rw[uX ⟨by omega,by omega,by omega⟩];simp
end RC
namespace RC
open Go
theorem Ru {l:List Int}{left:Int}(h0:0<=left)(h1:left<=1048576)(hl:l.length<=9223372036854775807):I7 l left=some (if left-l.length<0 then -1 else left-l.length):=by
 unfold I7;rw[Ah,wI];by_cases h:left-l.length<0<;>simp[h]
theorem bE {l:List Int}(hl:l.length<=1048576){N i:Nat}(hi:i<=l.length)(hN:l.length-i<N):∀m:List Int,m.length=l.length->m.take i=l.take i->G5 l N i m=some l:=by
 refine BQ l.length (λN i=>∀m:List Int,m.length=l.length->m.take i=l.take i->G5 l N i m=some l) ?_ ?_ hi hN
 ·intro n m hm ht;rw[G5,CX];rw[wO (by omega),vp]at ht;rw[ht]
 ·intro n i hi ih m hm ht;obtain⟨x,hx,_⟩:=BX hi;obtain⟨y,hy,_⟩:=BX (l:=m) (i:=i) (by omega);rw[G5,Cj,Ao hx,uJ,Ao hy,uJ,wI,Pk,show ((i:Int)+1)=((i+1:Nat):Int) by omega];refine ih _ (by simp[hm]) ?_;rw[Ep hx,Ep (x:=x) (by rw[yS];simp;omega),xL (uq _),ht]
theorem Rt {l:List Int}(hl:l.length<=1048576){N:Nat}(hN:2000000<=N):JM N l=some l:=by
 unfold JM;rw[Ah,PR 0 l.length 8 (by omega) (by omega),uJ];have:=bE hl (ue _) (by omega:l.length-0<N) (List.replicate l.length 0) (by simp) (by simp);rw[zQ]at this;rw[this];rfl
theorem bF {l:List Int}(hl:l.length<=1048576){N i:Nat}(hi:i<=l.length)(hN:l.length-i<N):G3 l l N i=some (Sum.inr ()):=by
 refine BQ l.length (λN i=>G3 l l N i=some (Sum.inr ())) ?_ ?_ hi hN
 ·intro n;rw[G3,CX]
 ·intro n i hi ih;obtain⟨x,hx,_⟩:=BX hi;rw[G3,Cj,Ao hx,uJ,wI,show ((i:Int)+1)=((i+1:Nat):Int) by omega];simpa using ih
theorem Rw {l:List Int}(hl:l.length<=1048576){N:Nat}(hN:2000000<=N):JG N l l=some true:=by
 unfold JG;have:=bF hl (ue _) (by omega:l.length-0<N);rw[zQ]at this;simp[this]
end RC
namespace RC
open Go
theorem DD (a b c:Int):Bq a b c=some (decide (b<=a)&&decide (a<=c)):=by
 unfold Bq;by_cases h:b<=a<;>simp[h]
end RC
namespace RC
open Go
def Dg (D:List AP)(t:Int):Bool:=decide (0<=t)&&decide (t<=(D.length:Int))
theorem QC {D:List AP}{x:Int}:Bq x 0 (Sh.len D)=some (Dg D x):=by rw[DD];rfl
theorem P7 {D:List AP}{l:List Int}(hl:l.length<=1048576){N:Nat}(hN:l.length<N):Js N D l=some (l.all (Dg D)):=by
 unfold Js;rw[DU (l:=l) (Gv D l) (λ_ x=>Dg D x) (λn=>by rw[Gv,CX]) (λn i x hx=>?_) hN,EC,EU]
 ·cases l.all (Dg D)<;>rfl
 ·have hi:=(uK.1 hx).1;rw[Gv,Cj,Ao hx,uJ,QC,wI,show ((i:Int)+1)=((i+1:Nat):Int) by omega,uJ];cases Dg D x<;>rfl
theorem MO {D:List AP}{t:Int}:I9 D t=some (Dg D t):=by
 unfold I9 Dg;by_cases h:0<=t<;>by_cases h2:t<=(D.length:Int)<;>simp[h,h2,Ah]
theorem P4 {D:List AP}{l:List Int}(hl:l.length<=1048576){N:Nat}(hN:l.length<N):Jp N D l=some (l.all (Dg D)):=by
 unfold Jp;rw[DU (l:=l) (Gl D l) (λ_ x=>Dg D x) (λn=>by rw[Gl,CX]) (λn i x hx=>?_) hN,EC,EU]
 ·cases l.all (Dg D)<;>rfl
 ·have hi:=(uK.1 hx).1;rw[Gl,Cj,Ao hx,uJ,MO,wI,show ((i:Int)+1)=((i+1:Nat):Int) by omega,uJ];cases Dg D x<;>rfl
def Ui (D:List AP)(c:Bw):Bool:=decide (c.fields.length<=3)&&c.fields.all (Dg D)
def JS (a b:AP):Bool:=decide (a.cons.length=0)&&(decide (a.from_=b.from_)&&decide (a.to=b.to))
def Oe (D:List AP)(i:Nat)(d:AP):Bool:=
 if 0<d.cons.length then (decide (d.cons.length<=3)&&(decide (d.from_=0)&&decide (d.to=0)))&&d.cons.all (Ui D)
 else (D.take i).all (λe=>!JS e d)&&(Dg D d.from_&&Dg D d.to)
def XM (D:List AP)(i:Nat)(d:AP):Bool:=
 ((Dg D d.from_&&(Dg D d.to&&(decide (d.cons.length<=3)&&(!(decide (0<d.cons.length)&&(!decide (d.from_=0) || !decide (d.to=0)))))))&&d.cons.all (Ui D))&&(D.take i).all (λe=>!(decide (d.cons.length=0)&&JS e d))
theorem jM (D:List AP)(i:Nat)(d:AP):XM D i d=Oe D i d:=by
 unfold XM Oe;by_cases h:0<d.cons.length
 ·have h0:¬ d.cons.length=0:=by omega
  have ha:(D.take i).all (λe=>!(decide (d.cons.length=0)&&JS e d))=true:=by simp[h0]
  rw[uX h,ha];by_cases h1:d.from_=0<;>by_cases h2:d.to=0<;>simp[h,h1,h2,Dg]
 ·have h0:d.cons.length=0:=by omega
  have hc:d.cons=[]:=vM h0;rw[uY h];simp only[hc,h0,vl,List.all_nil,vB,wU,yC];cases Dg D d.from_<;>cases Dg D d.to<;>simp
structure Ts (D:List AP):Prop where
 len:D.length<=1048576
 cons :∀d∈D,d.cons.length<=1048576
 Qr :∀d∈D,∀c∈d.cons,c.fields.length<=1048576
theorem VB {D:List AP}(hD:Ts D){i:Nat}{d:AP}(hd:D[i]?=some d){N:Nat}(hN:2000000<=N):KY N D i=some (Oe D i d):=by
 have hm:=uL hd;have hi:=(uK.1 hd).1;have hlen:=hD.len;have hc:=hD.cons d hm;unfold KY Oe;rw[Ao hd,uJ];by_cases h:0<d.cons.length
 ·rw[uX (by simp[Ah];omega),uX h];rw[DU (l:=d.cons) (F8 N d D) (λ_ c=>Ui D c) (λn=>by rw[F8,CX]) (λn j c hj=>?_) (by omega),EC,EU]
  ·simp only[Ah];by_cases h3:d.cons.length<=3
   ·have e3:¬ (3:Int)<(d.cons.length:Int):=by omega
    generalize d.cons.all (Ui D)=z;cases z<;>by_cases h1:d.from_=0<;>by_cases h2:d.to=0<;>simp[h1,h2,h3,e3]
   ·have e3:(3:Int)<(d.cons.length:Int):=by omega
    simp[h3,e3]
  ·have hj':=(uK.1 hj).1;have hf:=hD.Qr d hm c (uL hj);rw[F8,Cj,Ao hj,uJ,P7 hf (by omega),wI,show ((j:Int)+1)=((j+1:Nat):Int) by omega];unfold Ui;by_cases h3:c.fields.length<=3
   ·have e3:¬ (3:Int)<(c.fields.length:Int):=by omega
    simp only[Ah];cases c.fields.all (Dg D)<;>simp[h3,e3]
   ·have e3:(3:Int)<(c.fields.length:Int):=by omega
    simp[h3,e3,Ah]
 ·have h0:d.cons.length=0:=by omega
  have e0:¬ decide ((0:Int)<Sh.len d.cons)=true:=by rw[Ah,h0];simp
  rw[uY e0,uY h];have hlt:(D.take i).length=i:=by simp;omega
  rw[DU (l:=D.take i) (GA d D i) (λ_ e=>!JS e d) (λn=>by rw[GA,uY (by simp;omega)]) (λn j e hj=>?_) (by omega),EC,EU]
  ·rw[QC,QC,uJ];cases (D.take i).all (λe=>!JS e d)<;>cases Dg D d.from_<;>simp
  ·have hj':=(uK.1 hj).1;have hje:D[j]?=some e:=by rw[vN]at hj;split at hj<;>first|exact hj|cases hj
   rw[GA,uX (by simp;omega),Ao hje,uJ,wI,show ((j:Int)+1)=((j+1:Nat):Int) by omega];unfold JS;simp only[Ah];by_cases a0:e.cons.length=0<;>by_cases a1:e.from_=d.from_<;>by_cases a2:e.to=d.to<;>simp[a0,a1,a2]
def QJ (D:List AP):Bool:=decide (D.length<=4)&&Eb (Oe D) 0 D
theorem UI {D:List AP}(hD:Ts D){N:Nat}(hN:2000000<=N):Ju N D=some (QJ D):=by
 have hlen:=hD.len;unfold Ju QJ;rw[DU (l:=D) (FZ N D) (Oe D) (λn=>by rw[FZ,CX]) (λn i d hd=>?_) (by omega),EC]
 ·simp only[Ah];by_cases h:D.length<=4
  ·have e4:¬ (4:Int)<(D.length:Int):=by omega
   cases Eb (Oe D) 0 D<;>simp[h,e4]
  ·have e4:(4:Int)<(D.length:Int):=by omega
   simp[h,e4]
 ·have hi:=(uK.1 hd).1;rw[FZ,Cj,VB hD hd hN,uJ,wI,show ((i:Int)+1)=((i+1:Nat):Int) by omega];cases Oe D i d<;>rfl
theorem UR {D:List AP}(hD:Ts D){N:Nat}(hN:2000000<=N):Jd N D=some (QJ D):=by
 have hlen:=hD.len;unfold Jd QJ;rw[<- WT (f:=XM D) D 0 (λi d _=>jM D _ d)];rw[DU (l:=D) (Fi N D) (XM D) (λn=>by rw[Fi,CX]) (λn i d hd=>?_) (by omega),EC]
 ·simp only[Ah];by_cases h:D.length<=4
  ·have e4:¬ (4:Int)<(D.length:Int):=by omega
   cases Eb (XM D) 0 D<;>simp[h,e4]
  ·have e4:(4:Int)<(D.length:Int):=by omega
   simp[h,e4]
 ·have hi:=(uK.1 hd).1;have hm:=uL hd;have hc:=hD.cons d hm;have l2:Eo N d D N 0=some (if d.cons.all (Ui D)=true then .inr () else .inl false):=by
   rw[DU (l:=d.cons) (Eo N d D) (λ_ c=>Ui D c) (λn=>by rw[Eo,CX]) (λn j c hj=>?_) (by omega),EU];have hj':=(uK.1 hj).1;have hf:=hD.Qr d hm c (uL hj);rw[Eo,Cj,Ao hj,uJ,P4 hf (by omega),wI,show ((j:Int)+1)=((j+1:Nat):Int) by omega];unfold Ui;by_cases h3:c.fields.length<=3
   ·have e3:¬ (3:Int)<(c.fields.length:Int):=by omega
    simp only[Ah];cases c.fields.all (Dg D)<;>simp[h3,e3]
   ·have e3:(3:Int)<(c.fields.length:Int):=by omega
    simp[h3,e3,Ah]
  have hlt:(D.take i).length=i:=by simp;omega
  have l3:El d (D.take i) N 0=some (if (D.take i).all (λe=>!(decide (d.cons.length=0)&&JS e d))=true then .inr () else .inl false):=by
   rw[DU (l:=D.take i) (El d (D.take i)) (λ_ e=>!(decide (d.cons.length=0)&&JS e d)) (λn=>by rw[El,CX]) (λn j e hj=>?_) (by omega),EU];have hj':=(uK.1 hj).1;rw[El,uX (by simp only[Ah];simp;omega),Ao hj,uJ,wI,show ((j:Int)+1)=((j+1:Nat):Int) by omega];unfold JS;simp only[Ah];by_cases b0:d.cons.length=0<;>by_cases a0:e.cons.length=0<;>by_cases a1:e.from_=d.from_<;>by_cases a2:e.to=d.to<;>simp[a0,a1,a2,b0]
  rw[Fi,Cj,Ao hd];simp only[uJ];rw[MO,MO,l2,fI (by omega) (by omega),wI,show ((i:Int)+1)=((i+1:Nat):Int) by omega];simp only[uJ];rw[l3,EC,EC];unfold XM;simp only[Ah];generalize d.cons.all (Ui D)=z1;generalize (D.take i).all (λe=>!(decide (d.cons.length=0)&&JS e d))=z2;by_cases h3:d.cons.length<=3
  ·have e3:¬ (3:Int)<(d.cons.length:Int):=by omega
   by_cases h0:0<d.cons.length
   ·have e0:(0:Int)<(d.cons.length:Int):=by omega
    cases Dg D d.from_<;>cases Dg D d.to<;>cases z1<;>cases z2<;>by_cases h1:d.from_=0<;>by_cases h2:d.to=0<;>simp[h1,h2,h3,e3,h0]
   ·have e0:¬ (0:Int)<(d.cons.length:Int):=by omega
    cases Dg D d.from_<;>cases Dg D d.to<;>cases z1<;>cases z2<;>simp[h3,e3,h0]
  ·have e3:(3:Int)<(d.cons.length:Int):=by omega
   cases Dg D d.from_<;>cases Dg D d.to<;>simp[h3,e3]
end RC
namespace RC
open Go
def It (ps ls:List Int)(i:Nat)(v:Int):Bool:=
 (decide (0<=v)&&decide (v<(ps.length:Int)))&&(!decide (ps[v.toNat]?=some 0)&&!(decide (0<i)&&decide (v<=(ls[i-1]?).getD 0)))
theorem cC {ls:List Int}{i:Nat}(h0:0<i)(hi:i<ls.length):∃x,ls[i-1]?=some x/\Sh.get ls (((i:Nat):Int)-1)=some x:=by
 obtain⟨x,hx,_⟩:=BX (l:=ls) (i:=i-1) (by omega);exact⟨x,hx,by rw[show ((i:Int)-1)=((i-1:Nat):Int) by omega,Ao hx]⟩
theorem VL {ps ls:List Int}(hp:ps.length<=1048576)(hl:ls.length<=1048576){N:Nat}(hN:2000000<=N):KH N ps ls=some (Eb (It ps ls) 0 ls):=by
 unfold KH;rw[DU (l:=ls) (GF ps ls) (It ps ls) (λn=>by rw[GF,CX]) (λn i v hv=>?_) (by omega),EC]
 ·cases Eb (It ps ls) 0 ls<;>rfl
 ·have hi:=(uK.1 hv).1;rw[GF,Cj,Ao hv,uJ,DD,Ah,wI (n:=(ps.length:Int)-1),wI (n:=(i:Int)+1),wI (n:=(i:Int)-1),show ((i:Int)+1)=((i+1:Nat):Int) by omega,uJ];unfold It;by_cases h0:0<=v
  ·by_cases h1:v<(ps.length:Int)
   ·have h1':v<=(ps.length:Int)-1:=by omega
    obtain⟨c,e1,e2⟩:=PZ h0 h1;rw[e1,e2];by_cases hi0:0<i
    ·obtain⟨x,g1,g2⟩:=cC hi0 hi;rw[g1,g2];by_cases hc:c=0<;>by_cases hx:v<=x<;>simp[h0,h1,h1',hc,hi0,hx]
    ·by_cases hc:c=0<;>simp[h0,h1,h1',hc,hi0]
   ·have h1':¬ v<=(ps.length:Int)-1:=by omega
    simp[h0,h1,h1']
  ·simp[h0]
theorem bg {c:Aw}(hp:c.params.length<=1048576)(hl:c.Aq.length<=1048576){N:Nat}(hN:2000000<=N):FM c N 0=some (if Eb (It c.params c.Aq) 0 c.Aq=true then .inr () else .inl false):=by
 refine DU (l:=c.Aq) (FM c) (It c.params c.Aq) (λn=>by rw[FM,CX]) (λn i v hv=>?_) (by omega);have hi:=(uK.1 hv).1;rw[FM,Cj,Ao hv,uJ,Ah,wI (n:=(i:Int)+1),wI (n:=(i:Int)-1),show ((i:Int)+1)=((i+1:Nat):Int) by omega];unfold It;by_cases h0:0<=v
 ·have h0':¬ v<0:=by omega
  by_cases h1:v<(c.params.length:Int)
  ·have h1':¬ (c.params.length:Int)<=v:=by omega
   obtain⟨d,e1,e2⟩:=PZ h0 h1;rw[e1,e2];by_cases hi0:0<i
   ·obtain⟨x,g1,g2⟩:=cC hi0 hi;rw[g1,g2];by_cases hc:d=0<;>by_cases hx:v<=x<;>simp[h0,h0',h1,h1',hc,hi0,hx]
   ·by_cases hc:d=0<;>simp[h0,h0',h1,h1',hc,hi0]
  ·have h1':(c.params.length:Int)<=v:=by omega
   simp[h0,h0',h1,h1']
 ·have h0':v<0:=by omega
  simp[h0,h0']
def Q7 (D:List AP)(ps:List Int)(r:Int):Bool:=decide (ps.length<=3)&&(ps.all (Dg D)&&Dg D r)
theorem XY {p:Ej}(hf:p.funcs.length<=1048576)(hp :∀f∈p.funcs,f.params.length<=1048576){N:Nat}(hN:2000000<=N):E7 N p N 0=some (if (p.funcs.all λf=>Q7 p.decls f.params f.result)=true then .inr () else .inl false):=by
 rw[<- EU _ 0];refine DU (l:=p.funcs) (E7 N p) (λ_ f=>Q7 p.decls f.params f.result) (λn=>by rw[E7,CX]) (λn i f hi=>?_) (by omega);have hi':=(uK.1 hi).1;have hpf:=hp f (uL hi);rw[E7,Cj,Ao hi,uJ,P7 hpf (by omega),QC,wI,show ((i:Int)+1)=((i+1:Nat):Int) by omega];unfold Q7;simp only[Ah];by_cases h3:f.params.length<=3
 ·have e3:¬ (3:Int)<(f.params.length:Int):=by omega
  generalize f.params.all (Dg p.decls)=z;cases z<;>cases Dg p.decls f.result<;>simp[h3,e3]
 ·have e3:(3:Int)<(f.params.length:Int):=by omega
  simp[h3,e3]
theorem Xa {D:List AP}{l:List Aw}(hf:l.length<=1048576)(hp :∀f∈l,f.params.length<=1048576/\f.Aq.length<=1048576){N:Nat}(hN:2000000<=N):FL N D l N 0=some (if (l.all λf=>Q7 D f.params f.result&&Eb (It f.params f.Aq) 0 f.Aq)=true then .inr () else .inl false):=by
 rw[<- EU _ 0];refine DU (l:=l) (FL N D l) (λ_ f=>Q7 D f.params f.result&&Eb (It f.params f.Aq) 0 f.Aq) (λn=>by rw[FL,CX]) (λn i f hi=>?_) (by omega);have hi':=(uK.1 hi).1;have hpf:=hp f (uL hi);rw[FL,Cj,Ao hi,uJ,P4 hpf.1 (by omega),MO,bg hpf.1 hpf.2 hN,EC,wI,show ((i:Int)+1)=((i+1:Nat):Int) by omega];unfold Q7;simp only[Ah];generalize Eb (It f.params f.Aq) 0 f.Aq=y;by_cases h3:f.params.length<=3
 ·have e3:¬ (3:Int)<(f.params.length:Int):=by omega
  generalize f.params.all (Dg D)=z;cases z<;>cases Dg D f.result<;>cases y<;>simp[h3,e3]
 ·have e3:(3:Int)<(f.params.length:Int):=by omega
  simp[h3,e3]
end RC
namespace RC
open Go
def eU (D:List (List Int×Int)):Bool:=match D with|[]=>false|(ps,r)::_=>decide (ps.length=0)&&decide (r=0)
def TC (D:List AP)(l:List (List Int×Int)):Bool:=QJ D&&((decide (1<=l.length)&&decide (l.length<=4))&&(l.all (λs=>Q7 D s.1 s.2)&&eU l))
theorem Us {p:Ej}(hD:Ts p.decls)(hf:p.funcs.length<=1048576)(hp :∀f∈p.funcs,f.params.length<=1048576){N:Nat}(hN:2000000<=N):KM N p=some (TC p.decls (p.funcs.map λf=>(f.params,f.result))):=by
 unfold KM TC;rw[UI hD hN,XY hf hp hN,EC,DD];simp only[uJ,uZ,ye,yR];cases QJ p.decls with
 | false=>simp
 | true=>
  cases hl:p.funcs with
  | nil=>simp[Ah]
  | cons f r=>
   have e0:Sh.get (f::r) 0=some f:=rfl;rw[e0];generalize (f::r).all (λf=>Q7 p.decls f.params f.result)=z;simp only[vK,eU];have q1:decide ((1:Int)<=Sh.len (f::r))=true:=xm (by rw[Ah,vD];omega);have q2:decide (1<=(f::r).length)=true:=by simp
   have q3:decide (Sh.len (f::r)<=4)=decide ((f::r).length<=4):=vX.2 (by rw[Ah];omega);have q4:decide (Sh.len f.params=0)=decide (f.params.length=0):=vX.2 (by rw[Ah];omega);simp only[q1,q2,q3,q4,uJ];cases decide ((f::r).length<=4)<;>cases z<;>by_cases a1:f.params.length=0<;>by_cases a2:f.result=0<;>simp[a1,a2]
theorem VV {D:List AP}{l:List Aw}(hD:Ts D)(hf:l.length<=1048576)(hp :∀f∈l,f.params.length<=1048576/\f.Aq.length<=1048576){N:Nat}(hN:2000000<=N):
  KV N D l=some (TC D (l.map λf=>(f.params,f.result))&&l.all (λf=>Eb (It f.params f.Aq) 0 f.Aq)):=by
 unfold KV TC;rw[UR hD hN,Xa hf hp hN,EC];have hsplit:(l.all λf=>Q7 D f.params f.result&&Eb (It f.params f.Aq) 0 f.Aq)=((l.all λf=>Q7 D f.params f.result)&&(l.all λf=>Eb (It f.params f.Aq) 0 f.Aq)):=by
  clear hf hp
  induction l with
  | nil=>rfl
  | cons f r ih=>
   simp only[xT,ih];cases Q7 D f.params f.result<;>cases Eb (It f.params f.Aq) 0 f.Aq<;>simp
 rw[hsplit];simp only[uJ,uZ,ye,yR];cases QJ D with
 | false=>simp
 | true=>
  cases hl:l with
  | nil=>simp[Ah]
  | cons f r=>
   have e0:Sh.get (f::r) 0=some f:=rfl;rw[e0];generalize (f::r).all (λf=>Q7 D f.params f.result)=z;generalize (f::r).all (λf=>Eb (It f.params f.Aq) 0 f.Aq)=y;simp only[vK,eU];have q1:decide (Sh.len (f::r)<1)=false:=decide_eq_false (by rw[Ah,vD];omega);have q2:decide (1<=(f::r).length)=true:=by simp
   have q3:decide ((4:Int)<Sh.len (f::r))=!decide ((f::r).length<=4):=by rw[<- decide_not];exact vX.2 (by rw[Ah];omega)
   have q4:decide ((0:Int)<Sh.len f.params)=!decide (f.params.length=0):=by rw[<- decide_not];exact vX.2 (by rw[Ah];omega)
   simp only[q1,q2,q3,q4,uJ];cases decide ((f::r).length<=4)<;>cases z<;>cases y<;>by_cases a1:f.params.length=0<;>by_cases a2:f.result=0<;>simp[a1,a2]
end RC
namespace RC
open Go
def nc (D:List AP):Nat:=(D.map (·.cons.length)).sum
theorem Pj {D:List AP}{i:Nat}{d:AP}(h:D[i]?=some d):nc (D.take (i+1))=nc (D.take i)+d.cons.length:=by
 rw[Ep h];simp[nc]
theorem WY {D:List AP}{i:Nat}{d:AP}(h:D[i]?=some d):nc (D.drop i)=d.cons.length+nc (D.drop (i+1)):=by
 rw[drop_cons h];simp[nc]
theorem Jv (D:List AP)(i:Nat):nc D=nc (D.take i)+nc (D.drop i):=by
 unfold nc;rw[<- List.sum_append_nat,<- vx,xF]
theorem Kp {D:List AP}(hD:D.length<=1048576)(hn:nc D<=1048576){i:Nat}(hi:i<=D.length){N:Nat}(hN:2000000<=N):IW N D i=some (nc (D.take i):Int):=by
 unfold IW;have key:∀{N j:Nat},j<=i->i-j<N->Fl D i N (nc (D.take j)) j=some (nc (D.take i):Int):=by
  intro N j hj hN;refine BQ i (λN j=>Fl D i N (nc (D.take j)) j=some (nc (D.take i):Int)) ?_ ?_ hj hN
  ·intro n;rw[Fl,uY (by simp)]
  ·intro n j hj ih;obtain⟨d,hd,_⟩:=BX (l:=D) (i:=j) (by omega);have hs:=Jv D (j+1);have ht:=Pj hd;rw[Fl,uX (by simp;omega),Ao hd,uJ,Ah,wI (n:=(j:Int)+1),wI,show ((nc (D.take j):Int)+(d.cons.length:Int))=((nc (D.take (j+1)):Nat):Int) by omega,show ((j:Int)+1)=((j+1:Nat):Int) by omega];exact ih
 have:=key (ue _) (by omega:i-0<N);rw[show (((nc (D.take 0):Nat):Int))=0 from rfl,show (((0:Nat):Int))=0 from rfl]at this;rw[this];rfl
theorem V7 {D:List AP}(hD:D.length<=1048576)(hn:nc D<=1048576){N:Nat}(hN:2000000<=N):Ky N D=some (nc D:Int):=by
 unfold Ky;have key:∀{N j:Nat},j<=D.length->D.length-j<N->Ft D N (nc (D.take j)) j=some (nc D:Int):=by
  intro N j hj hN;refine BQ D.length (λN j=>Ft D N (nc (D.take j)) j=some (nc D:Int)) ?_ ?_ hj hN
  ·intro n;rw[Ft,CX,vp]
  ·intro n j hj ih;obtain⟨d,hd,_⟩:=BX hj;have hs:=Jv D (j+1);have ht:=Pj hd;rw[Ft,Cj,Ao hd,uJ,Ah,wI (n:=(j:Int)+1),wI,show ((nc (D.take j):Int)+(d.cons.length:Int))=((nc (D.take (j+1)):Nat):Int) by omega,show ((j:Int)+1)=((j+1:Nat):Int) by omega];exact ih
 have:=key (ue _) (by omega:D.length-0<N);rw[show (((nc (D.take 0):Nat):Int))=0 from rfl,show (((0:Nat):Int))=0 from rfl]at this;rw[this];rfl
def Ox:List AP->Nat->Nat->Option (Nat×Bw)
 | [],_,_=>none
 | d::r,k,c=>match d.cons[c]? with
  | some x=>some (k+1,x)
  | none=>Ox r (k+1) (c-d.cons.length)
theorem Tf {D:List AP}(hD:D.length<=1048576)(hn:nc D<=1048576){c:Nat}(hc:c<nc D){N:Nat}(hN:2000000<=N):∃t x,Ox D 0 c=some (t,x)/\J2 N D c=some ((t:Int),x):=by
 have key:∀(m j N c:Nat),D.length-j=m->j<=D.length->m<N->c<nc (D.drop j)->∃t x,Ox (D.drop j) j c=some (t,x)/\Gh D N c j=some (.inl ((t:Int),x)):=by
  intro m
  induction m with
  | zero=>
   intro j N c h1 h2 _ h3;rw[wv (by omega)]at h3;simp[nc]at h3
  | succ m ih=>
   intro j N c h1 h2 h3 h4;obtain⟨N,rfl⟩ :∃n,N=n+1:=⟨N-1,by omega⟩
   obtain⟨d,hd,_⟩:=BX (l:=D) (i:=j) (by omega);have hs:=Jv D j;rw[WY hd]at h4 hs;rw[drop_cons hd];unfold Ox;rw[Gh,Cj,Ao hd,uJ,uX (by simp),Ah,wI (n:=(j:Int)+1),wI];cases hx:d.cons[c]? with
   | some x=>
    have hlt:=(uK.1 hx).1;refine⟨j+1,x,rfl,?_⟩;have e:((c:Int)<(d.cons.length:Int)):=by omega
    simp[e,Ao hx]
   | none=>
    have hle:d.cons.length<=c:=by simpa using hx
    obtain⟨t,x,g1,g2⟩:=ih (j+1) N (c-d.cons.length) (by omega) (by omega) (by omega) (by omega);refine⟨t,x,g1,?_⟩;have e:¬ ((c:Int)<(d.cons.length:Int)):=by omega
    rw[<- g2,show ((c:Int)-(d.cons.length:Int))=((c-d.cons.length:Nat):Int) by omega,show ((j:Int)+1)=((j+1:Nat):Int) by omega];simp[e]
 obtain⟨t,x,g1,g2⟩:=key D.length 0 N c (by omega) (by omega) (by omega) (by simpa using hc);refine⟨t,x,by simpa using g1,?_⟩;unfold J2;rw[show (((0:Nat):Int))=0 from rfl]at g2;rw[g2];rfl
end RC
namespace RC
open Go
theorem Ql {D:List AP}(hD:D.length<=1048576)(hn:nc D<=1048576){c:Nat}(hc:c<nc D){N:Nat}(hN:2000000<=N):∃t x,Ox D 0 c=some (t,x)/\Dp N D c=some (t:Int):=by
 have key:∀(m j M c:Nat),D.length-j=m->j<=D.length->m<M->c<nc (D.drop j)->∃t x,Ox (D.drop j) j c=some (t,x)/\Ei N D ((nc (D.take j)+c:Nat):Int) M j=some (.inl (t:Int)):=by
  intro m
  induction m with
  | zero=>
   intro j M c h1 h2 _ h3;rw[wv (by omega)]at h3;simp[nc]at h3
  | succ m ih=>
   intro j M c h1 h2 h3 h4;obtain⟨M,rfl⟩ :∃n,M=n+1:=⟨M-1,by omega⟩
   obtain⟨d,hd,_⟩:=BX (l:=D) (i:=j) (by omega);have hs:=Jv D j;rw[WY hd]at h4 hs;have ht:=Pj hd;rw[drop_cons hd];unfold Ox;rw[Ei,Cj,Kp hD hn (by omega) hN,Ao hd];simp only[uJ];rw[Ah,wI (n:=(j:Int)+1),wI (n:=(nc (D.take j):Int)+(d.cons.length:Int)),wI,DD];simp only[uJ];cases hx:d.cons[c]? with
   | some x=>
    have hlt:=(uK.1 hx).1;refine⟨j+1,x,rfl,?_⟩;rw[uX (by simp;omega)];rfl
   | none=>
    have hle:d.cons.length<=c:=by simpa using hx
    obtain⟨t,x,g1,g2⟩:=ih (j+1) M (c-d.cons.length) (by omega) (by omega) (by omega) (by omega);refine⟨t,x,g1,?_⟩;rw[uY (by simp;omega),<- g2,show nc (D.take j)+c=nc (D.take (j+1))+(c-d.cons.length) by omega];rfl
 obtain⟨t,x,g1,g2⟩:=key D.length 0 N c (by omega) (by omega) (by omega) (by simpa using hc);refine⟨t,x,by simpa using g1,?_⟩;unfold Dp;rw[show nc (D.take 0)+c=c by simp[nc],show (((0:Nat):Int))=0 from rfl]at g2;rw[g2];rfl
theorem QH {D:List AP}(hD:D.length<=1048576)(hn:nc D<=1048576){c:Int}(hc:c<0∨(nc D:Int)<=c){N:Nat}(hN:2000000<=N):Dp N D c=some (-1):=by
 unfold Dp;have key:∀{M j:Nat},j<=D.length->D.length-j<M->Ei N D c M j=some (.inr ()):=by
  intro M j hj hM;refine BQ D.length (λM j=>Ei N D c M j=some (.inr ())) ?_ ?_ hj hM
  ·intro n;rw[Ei,CX]
  ·intro n j hj ih;obtain⟨d,hd,_⟩:=BX hj;have hs:=Jv D (j+1);have ht:=Pj hd;rw[Ei,Cj,Kp hD hn (by omega) hN,Ao hd];simp only[uJ];rw[Ah,wI (n:=(j:Int)+1),wI (n:=(nc (D.take j):Int)+(d.cons.length:Int)),wI,DD];simp only[uJ];rw[uY (by simp;omega)];exact ih
 have:=key (ue _) (by omega:D.length-0<N);rw[show (((0:Nat):Int))=0 from rfl]at this;rw[this];rfl
end RC
namespace RC
open Go
theorem iH {D:List AP}:∀(m j c t:Nat) (x:Bw),D.length-j=m->j<=D.length->Ox (D.drop j) j c=some (t,x)->∃d,1<=t/\D[t-1]?=some d/\nc (D.take (t-1))<=nc (D.take j)+c/\d.cons[nc (D.take j)+c-nc (D.take (t-1))]?=some x:=by
 intro m
 induction m with
 | zero=>
  intro j c t x h1 h2 h;rw[wv (by omega)]at h;simp[Ox]at h
 | succ m ih=>
  intro j c t x h1 h2 h;obtain⟨d,hd,_⟩:=BX (l:=D) (i:=j) (by omega);have ht:=Pj hd;rw[drop_cons hd]at h;unfold Ox at h;cases hx:d.cons[c]? with
  | some y=>
   rw[hx]at h;simp only[uO,wE]at h;obtain⟨rfl,rfl⟩:=h;exact⟨d,by omega,by simpa using hd,by simp,by simpa using hx⟩
  | none=>
   rw[hx]at h;have hle:d.cons.length<=c:=by simpa using hx
   obtain⟨e,g1,g2,g3,g4⟩:=ih (j+1) (c-d.cons.length) t x (by omega) (by omega) h;rw[show nc (D.take (j+1))+(c-d.cons.length)=nc (D.take j)+c by omega]at g3 g4;exact⟨e,g1,g2,g3,g4⟩
theorem MV {D:List AP}(hD:D.length<=1048576)(hn:nc D<=1048576){c:Nat}(hc:c<nc D){N:Nat}(hN:2000000<=N):∃t x,Ox D 0 c=some (t,x)/\CK N D c=some x.fields:=by
 obtain⟨t,x,e1,e2⟩:=Ql hD hn hc hN;obtain⟨d,g1,g2,g3,g4⟩:=iH (D:=D) D.length 0 c t x (by omega) (by omega) (by simpa using e1);have hlt:=(uK.1 g2).1;have hs:=Jv D (t-1);rw[show nc (D.take 0)+c=c by simp[nc]]at g3 g4;refine⟨t,x,e1,?_⟩;unfold CK;rw[e2];simp only[uJ];rw[uY (by simp;omega),wI (n:=(t:Int)-1),show ((t:Int)-1)=((t-1:Nat):Int) by omega,Ao g2,Kp hD hn (by omega) hN];simp only[uJ];rw[wI,show ((c:Int)-(nc (D.take (t-1)):Int))=((c-nc (D.take (t-1)):Nat):Int) by omega,Ao g4];rfl
theorem Vr {D:List AP}(hD:D.length<=1048576)(hn:nc D<=1048576){c:Nat}(hc:c<nc D){N:Nat}(hN:2000000<=N):∃t x,Ox D 0 c=some (t,x)/\Ik N D c=some x.fields:=by
 obtain⟨t,x,e1,e2⟩:=Tf hD hn hc hN;exact⟨t,x,e1,by unfold Ik;rw[e2];rfl⟩
end RC
namespace RC
open Go
def Fc (D:List AP)(t:Int):List Int:=
 if 1<=t/\t<=(D.length:Int) then (List.range ((D[(t-1).toNat]?).elim 0 (·.cons.length))).map λ(i:Nat)=>(nc (D.take (t-1).toNat):Int)+(i:Int) else []
theorem X0 {f:Nat->Int}{i:Nat}:(List.range (i+1)).map f=(List.range i).map f++[f i]:=by rw[List.range_succ,vx];rfl
theorem SD {D:List AP}(hD:D.length<=1048576)(hn:nc D<=1048576){t:Int}{N:Nat}(hN:2000000<=N):LY N D t=some (Fc D t):=by
 unfold LY Fc;rw[DD,Ah,uJ];by_cases h:1<=t/\t<=(D.length:Int)
 ·obtain⟨a,ha⟩ :∃a:Nat,t=(a:Int)+1:=⟨(t-1).toNat,by omega⟩
  subst ha;obtain⟨d,hd,_⟩:=BX (l:=D) (i:=a) (by omega);have hs:=Jv D (a+1);have ht:=Pj hd;rw[uY (by simp;omega),uX h,show (((a:Int)+1)-1).toNat=a by omega,hd];simp only[wG];have key:∀{M i:Nat},i<=d.cons.length->d.cons.length-i<M->G1 N D ((a:Int)+1) M i ((List.range i).map λ(i:Nat)=>(nc (D.take a):Int)+(i:Int))=some ((List.range d.cons.length).map λ(i:Nat)=>(nc (D.take a):Int)+(i:Int)):=by
   intro M i hi hM;refine BQ d.cons.length (λM i=>G1 N D ((a:Int)+1) M i ((List.range i).map λ(i:Nat)=>(nc (D.take a):Int)+(i:Int))=some ((List.range d.cons.length).map λ(i:Nat)=>(nc (D.take a):Int)+(i:Int))) ?_ ?_ hi hM
   ·intro n;rw[G1,wI,show ((a:Int)+1-1)=((a:Nat):Int) by omega,Ao hd,uJ,CX]
   ·intro n i hi ih;rw[G1,wI (n:=(a:Int)+1-1),show ((a:Int)+1-1)=((a:Nat):Int) by omega,Ao hd,uJ,Cj,Kp hD hn (by omega) hN,uJ,BU _ _ _ (by simp;omega) (by simp;omega),wI (n:=(i:Int)+1),wI,show ((i:Int)+1)=((i+1:Nat):Int) by omega,uJ,<- ih,X0]
  have:=key (ue _) (by omega:d.cons.length-0<N);rw[show (((0:Nat):Int))=0 from rfl,List.range_zero,wW]at this;rw[this];rfl
 ·rw[uX (by simp;omega),uY h]
theorem YD {D:List AP}(hD:D.length<=1048576)(hn:nc D<=1048576){t:Int}{N:Nat}(hN:2000000<=N):Mz N D t=some (Fc D t):=by
 unfold Mz Fc;rw[Ah];by_cases h:1<=t/\t<=(D.length:Int)
 ·obtain⟨a,ha⟩ :∃a:Nat,t=(a:Int)+1:=⟨(t-1).toNat,by omega⟩
  subst ha;obtain⟨d,hd,_⟩:=BX (l:=D) (i:=a) (by omega);have hs:=Jv D (a+1);have hs0:=Jv D a;have ht:=Pj hd;have e1:¬ ((a:Int)+1<1):=by omega
  have e2:¬ ((D.length:Int)<(a:Int)+1):=by omega
  rw[uX h,show (((a:Int)+1)-1).toNat=a by omega,hd,wI,show ((a:Int)+1-1)=((a:Nat):Int) by omega,fI (by omega) (by omega),Ao hd];simp only[wG,e1,e2,vA,uN,uf,uJ];rw[V7 (by simp;omega) (by omega) hN,uJ];have key:∀{M i:Nat},i<=d.cons.length->d.cons.length-i<M->G6 d (nc (D.take a):Int) M i ((List.range i).map λ(i:Nat)=>(nc (D.take a):Int)+(i:Int))=some ((List.range d.cons.length).map λ(i:Nat)=>(nc (D.take a):Int)+(i:Int)):=by
   intro M i hi hM;refine BQ d.cons.length (λM i=>G6 d (nc (D.take a):Int) M i ((List.range i).map λ(i:Nat)=>(nc (D.take a):Int)+(i:Int))=some ((List.range d.cons.length).map λ(i:Nat)=>(nc (D.take a):Int)+(i:Int))) ?_ ?_ hi hM
   ·intro n;rw[G6,CX]
   ·intro n i hi ih;rw[G6,Cj];rw[BU _ _ _ (by simp;omega) (by simp;omega),wI (n:=(i:Int)+1),wI,show ((i:Int)+1)=((i+1:Nat):Int) by omega,uJ,<- ih,X0]
  have:=key (ue _) (by omega:d.cons.length-0<N);rw[show (((0:Nat):Int))=0 from rfl,List.range_zero,wW]at this;rw[this];rfl
 ·rw[uY h];by_cases e1:t<1
  ·simp[e1]
  ·have e2:(D.length:Int)<t:=by omega
   simp[e1,e2]
end RC
namespace RC
open Go
theorem ZQ {α:Type}{l:List α}(f:α->Nat)(L:Nat->Int->Int->Option (Int ⊕ Int))(h0 :∀n left,L (n+1) left (l.length:Int)=some (.inr left))
  (hs :∀n (i:Nat) x left,l[i]?=some x->0<=left->left<=1048576->L (n+1) left (i:Int)=if left-(f x:Int)<0 then some (.inl (-1)) else L n (left-(f x:Int)) ((i+1:Nat):Int))
  {N:Nat} (hN:l.length<N) {left:Int} (hl0:0<=left) (hl1:left<=1048576):L N left 0=some (if left-((l.map f).sum:Nat)<0 then .inl (-1) else .inr (left-((l.map f).sum:Nat))):=by
 have key:∀{N i:Nat},i<=l.length->l.length-i<N->∀left:Int,0<=left->left<=1048576->L N left (i:Int)=some (if left-(((l.drop i).map f).sum:Nat)<0 then .inl (-1) else .inr (left-(((l.drop i).map f).sum:Nat))):=by
  intro N i hi hN;refine BQ l.length (λN i=>∀left:Int,0<=left->left<=1048576->L N left (i:Int)=some (if left-(((l.drop i).map f).sum:Nat)<0 then .inl (-1) else .inr (left-(((l.drop i).map f).sum:Nat)))) ?_ ?_ hi hN
  ·intro n left a b;rw[h0,xA];simp;omega
  ·intro n i hi ih left a b;obtain⟨x,hx,_⟩:=BX hi;rw[hs n i x left hx a b,drop_cons hx,vK,wz];by_cases h:left-(f x:Int)<0
   ·rw[uX h,uX (by omega)]
   ·rw[uY h,ih (left-(f x:Int)) (by omega) (by omega)];rw[show left-((f x+(List.map f (l.drop (i+1))).sum:Nat):Int)=left-(f x:Int)-((List.map f (l.drop (i+1))).sum:Nat) by omega]
 have:=key (ue _) (by omega:l.length-0<N) left hl0 hl1;simpa using this
theorem ZH {α:Type}{l:List α}(L:Nat->Int->List α->Option (List α))(h0 :∀n m,L (n+1) (l.length:Int) m=some m)
  (hs :∀n (i:Nat) x m,l[i]?=some x->m.length=l.length->L (n+1) (i:Int) m=L n ((i+1:Nat):Int) (m.set i x)) {N:Nat} (hN:l.length<N) {m:List α} (hm:m.length=l.length):L N 0 m=some l:=by
 have key:∀{N i:Nat},i<=l.length->l.length-i<N->∀m:List α,m.length=l.length->m.take i=l.take i->L N (i:Int) m=some l:=by
  intro N i hi hN;refine BQ l.length (λN i=>∀m:List α,m.length=l.length->m.take i=l.take i->L N (i:Int) m=some l) ?_ ?_ hi hN
  ·intro n m a b;rw[h0];rw[vp,<- a,vp]at b;rw[b]
  ·intro n i hi ih m a b;obtain⟨x,hx,_⟩:=BX hi;rw[hs n i x m hx a];refine ih (m.set i x) (by simp[a]) ?_;have hi':(m.set i x)[i]?=some x:=by rw[uV (by omega)]
   rw[Ep hi',Ep hx,<- b,xL (uq _)]
 exact key (ue _) (by omega:l.length-0<N) m hm rfl
end RC
namespace RC
open Go
def Ys (left:Int)(s:Nat):Int:=if left-s<0 then -1 else left-s
theorem GW {left:Int}{s:Nat}(h:left-s<0):Ys left s=-1:=uX h
theorem I5 {left:Int}{s:Nat}(h:¬ left-s<0):Ys left s=left-s:=uY h
def cz (c:Bw):Nat:=c.fields.length
def dz (d:AP):Nat:=d.cons.length+(d.cons.map cz).sum
theorem ld {c:Bw}(hc:Vh c){left:Int}(h0:0<=left)(h1:left<=1048576):OM c left=some (Ys left (cz c)):=by
 unfold OM;rw[Ru h0 h1 hc.fields.2];unfold Ys cz;by_cases h:left-(c.fields.length:Int)<0
 ·rw[uX h];rfl
 ·rw[uY h];simp[h]
theorem iR {l:List Bw}(hl:F7 Vh l){left:Int}(h0:0<=left)(h1:left<=1048576){N:Nat}(hN:2000000<=N):Mx N l left=some (Ys left (l.length+(l.map cz).sum)):=by
 unfold Mx;have hlen:=hl.2;rw[Ah,wI];by_cases h:left-(l.length:Int)<0
 ·rw[uX (by simpa using h),GW (by omega)]
 ·rw[uY (by simpa using h),ZQ (l:=l) cz (H0 l) (λn left=>by rw[H0,CX]) (λn i x left hx a b=>?_) (by omega) (by omega) (by omega)]
  ·by_cases g:left-(l.length:Int)-((l.map cz).sum:Nat)<0
   ·rw[uX g,GW (by omega)];rfl
   ·rw[uY g,I5 (by omega)];show some _=some _;congr 1;omega
  ·have hi:=(uK.1 hx).1;rw[H0,Cj,Ao hx,uJ,ld (hl.1 x (uL hx)) a b,wI,show ((i:Int)+1)=((i+1:Nat):Int) by omega,uJ];by_cases g:left-(cz x:Int)<0
   ·rw[uX g,GW g];rfl
   ·rw[uY g,I5 g,uY (by simpa using g)]
end RC
namespace RC
open Go
theorem jq {d:AP}(hd:TV d){left:Int}(h0:0<=left)(h1:left<=1048576){N:Nat}(hN:2000000<=N):NC N d left=some (Ys left (dz d)):=by
 unfold NC;rw[iR hd.cons h0 h1 hN,uJ];by_cases a:left-((d.cons.length+(d.cons.map cz).sum:Nat):Int)<0
 ·rw[GW a,GW (by unfold dz;omega)];rfl
 ·rw[I5 a,uY (by simpa using a),I5 (by unfold dz;omega)];rfl
theorem gu {l:List AP}(hl:F7 TV l){left:Int}(h0:0<=left)(h1:left<=1048576){N:Nat}(hN:2000000<=N):Lu N l left=some (Ys left (l.length+(l.map dz).sum)):=by
 unfold Lu;have hlen:=hl.2;rw[Ah,wI];by_cases h:left-(l.length:Int)<0
 ·rw[uX (by simpa using h),GW (by omega)]
 ·rw[uY (by simpa using h),ZQ (l:=l) dz (HM N l) (λn left=>by rw[HM,CX]) (λn i x left hx a b=>?_) (by omega) (by omega) (by omega)]
  ·by_cases g:left-(l.length:Int)-((l.map dz).sum:Nat)<0
   ·rw[uX g,GW (by omega)];rfl
   ·rw[uY g,I5 (by omega)];show some _=some _;congr 1;omega
  ·have hi:=(uK.1 hx).1;rw[HM,Cj,Ao hx,uJ,jq (hl.1 x (uL hx)) a b hN,wI,show ((i:Int)+1)=((i+1:Nat):Int) by omega,uJ];by_cases g:left-(dz x:Int)<0
   ·rw[uX g,GW g];rfl
   ·rw[uY g,I5 g,uY (by simpa using g)]
end RC
namespace RC
open Go
end RC
namespace RC
open Go
def rW (op:Int):Bool:=(decide (0<=op)&&decide (op<=11)&&!decide (op=7)&&!decide (op=8)) || decide (op=18) || decide (op=19)
def preB (p:iS)(i:dI):Bool:=
 (decide (0<=i.dst)&&decide (i.dst<p.tL))&&(decide (i.dst=0) || rW i.op)&&(decide (i.BF=0) || decide (i.op=6))&&(decide (i.op=21) || decide (i.jumps.length=0))
end RC
namespace RC
open Go
section
variable {im : pO} {p : iS} {at_ : Nat} {i : dI} {N : Nat}
end
end RC
namespace RC
open Go
theorem Ij {α:Type}(f:α->Nat){l:List α}{x:α}(h:x∈l):f x<=(l.map f).sum:=by
 induction l with
 | nil=>cases h
 | cons y r ih=>
  rw[vK,wz];rcases uz.1 h with rfl|h
  ·omega
  ·have:=ih h;omega
theorem lL {c:Bw}(h:cz c<=1048576){N:Nat}(hN:2000000<=N):OI N c=some c:=by
 unfold cz at h;unfold OI;rw[Rt h hN];rfl
theorem iB {l:List Bw}(hl:l.length+(l.map cz).sum<=1048576){N:Nat}(hN:2000000<=N):Mp N l=some l:=by
 unfold Mp;rw[Ah,PR _ _ _ (by omega) (by omega)];simp only[uJ];rw[ZH (l:=l) (Hy N l) (λn m=>by rw[Hy,CX]) (λn i x m hx hm=>?_) (by omega) (by simp)]
 ·rfl
 ·have hi:=(uK.1 hx).1;have hz:=Ij cz (uL hx);obtain⟨y,hy,_⟩:=BX (l:=m) (i:=i) (by omega);rw[Hy,Cj,Ao hx];simp only[uJ];rw[lL (by omega) hN,Ao hy];simp only[uJ];rw[Pk,wI,show ((i:Int)+1)=((i+1:Nat):Int) by omega]
theorem jc {d:AP}(h:dz d<=1048576){N:Nat}(hN:2000000<=N):Mr N d=some d:=by
 unfold dz at h;unfold Mr;rw[iB h hN];rfl
theorem fX {l:List AP}(hl:l.length+(l.map dz).sum<=1048576){N:Nat}(hN:2000000<=N):L6 N l=some l:=by
 unfold L6;rw[Ah,PR _ _ _ (by omega) (by omega)];simp only[uJ];rw[ZH (l:=l) (HC N l) (λn m=>by rw[HC,CX]) (λn i x m hx hm=>?_) (by omega) (by simp)]
 ·rfl
 ·have hi:=(uK.1 hx).1;have hz:=Ij dz (uL hx);obtain⟨y,hy,_⟩:=BX (l:=m) (i:=i) (by omega);rw[HC,Cj,Ao hx];simp only[uJ];rw[jc (by omega) hN,Ao hy];simp only[uJ];rw[Pk,wI,show ((i:Int)+1)=((i+1:Nat):Int) by omega]
end RC
namespace RC
open Go
theorem lH {c:Bw}(h:cz c<=1048576){N:Nat}(hN:2000000<=N):OP N c c=some true:=by
 unfold cz at h;unfold OP;rw[Rw h hN];rfl
theorem jo {l:List Bw}(hl:l.length+(l.map cz).sum<=1048576){N:Nat}(hN:2000000<=N):Mq N l l=some true:=by
 unfold Mq;have L:=DU (l:=l) (Hs N l l) (λ_ _=>true) (λn=>by rw[Hs,CX]) (λn i x hx=>?_) (by omega:l.length<N)
 ·rw[EU (p:=λ_=>true)]at L;simp[L,Sh.cont]
 ·have hi:=(uK.1 hx).1;have hz:=Ij cz (uL hx);rw[Hs,Cj,Ao hx];simp only[uJ];rw[lH (by omega) hN,wI,show ((i:Int)+1)=((i+1:Nat):Int) by omega];rfl
theorem jn {d:AP}(h:dz d<=1048576){N:Nat}(hN:2000000<=N):ND N d d=some true:=by
 unfold dz at h;unfold ND;rw[jo h hN];simp
theorem gH {l:List AP}(hl:l.length+(l.map dz).sum<=1048576){N:Nat}(hN:2000000<=N):L5 N l l=some true:=by
 unfold L5;have L:=DU (l:=l) (HH N l l) (λ_ _=>true) (λn=>by rw[HH,CX]) (λn i x hx=>?_) (by omega:l.length<N)
 ·rw[EU (p:=λ_=>true)]at L;simp[L,Sh.cont]
 ·have hi:=(uK.1 hx).1;have hz:=Ij dz (uL hx);rw[HH,Cj,Ao hx];simp only[uJ];rw[jn (by omega) hN,wI,show ((i:Int)+1)=((i+1:Nat):Int) by omega];rfl
end RC
namespace RC
open Go
end RC
namespace RC
open Go
end RC
namespace RC
open Go
theorem P3 {α:Type}{g:Nat->α->Bool}:∀(l:List α) (k:Nat),Eb g k l=true↔∀(i:Nat) x,l[i]?=some x->g (k+i) x=true
 | [],_=>by simp[Eb]
 | x::r,k=>by
  rw[Eb,uT,P3 r (k+1)];constructor
  ·rintro⟨h1,h2⟩ i y hy;cases i with
   | zero=>simp only[vC,uO]at hy;subst hy;exact h1
   | succ i=>have:=h2 i y hy;rw[show k+(i+1)=k+1+i by omega];exact this
  ·intro h;exact⟨h 0 x rfl,λi y hy=>by have:=h (i+1) y hy;rw[show k+(i+1)=k+1+i by omega]at this;exact this⟩
theorem eJ {a b:List Int}(h:a.length=b.length):Eb (λi x=>decide (b[i]?=some x)) 0 a=decide (a=b):=by
 rw[yG,P3,xD];constructor
 ·intro g;refine xj λi=>?_;by_cases hi:i<a.length
  ·obtain⟨x,hx,_⟩:=BX hi;have:=g i x hx;rw[xD,vd]at this;rw[hx,this]
  ·rw[vf (by omega),vf (by omega)]
 ·rintro rfl i x hx;rw[xD,vd,hx]
theorem RE {a b:List Int}(ha:a.length<=1048576){N:Nat}(hN:2000000<=N):DR N a b=some (decide (a=b)):=by
 unfold DR;by_cases h:a.length=b.length
 ·rw[uY (by simp[Ah,h]),DU (l:=a) (Dw a b) (λi x=>decide (b[i]?=some x)) (λn=>by rw[Dw,CX]) (λn i x hx=>?_) (by omega),EC,eJ h]
  ·cases decide (a=b)<;>rfl
  ·have hi:=(uK.1 hx).1;obtain⟨y,hy,_⟩:=BX (l:=b) (i:=i) (by omega);rw[Dw,Cj,Ao hx,uJ,Ao hy,hy,wI,show ((i:Int)+1)=((i+1:Nat):Int) by omega,uJ];by_cases e:x=y
   ·simp[e]
   ·have e':¬ y=x:=λq=>e q.symm;simp[e,e']
 ·have hne:¬ a=b:=λe=>h (by rw[e]);have h':¬ ((a.length:Int)=(b.length:Int)):=by omega
  simp[Ah,h',hne]
structure QT (D:List AP) (F:List Kf):Prop where
 RO:D.length<=4
 ZV :∀d∈D,d.cons.length<=3
 Qr :∀d∈D,∀c∈d.cons,c.fields.length<=3/\∀t∈c.fields,Dg D t=true
 tW :∀d∈D,Dg D d.from_=true/\Dg D d.to=true
 rS:F.length<=4
 kX :∀f∈F,f.params.length<=3/\(∀t∈f.params,Dg D t=true)/\Dg D f.result=true
theorem mw {D:List AP}(h :∀d∈D,d.cons.length<=3):nc D<=3*D.length:=by
 induction D with
 | nil=>simp[nc]
 | cons d r ih=>
  have h1:=h d (by simp);have h2:=ih λe he=>h e (by simp[he]);simp only[nc,vK,wz,vD]at h2⊢;omega
theorem QT.nc {D:List AP}{F:List Kf}(S:QT D F):nc D<=12:=by have:=mw S.ZV;have:=S.RO;omega
theorem P6 {D:List AP}{t:Int}(h:Dg D t=true):0<=t/\t<=(D.length:Int):=by
 unfold Dg at h;simpa using h
theorem QT.of {p:Ej}(h:TC p.decls (p.funcs.map λf=>(f.params,f.result))=true):QT p.decls p.funcs:=by
 unfold TC at h;simp only[uT,uZ,ye,uj]at h;obtain⟨h1,⟨_,h2⟩,h3,_⟩:=h;unfold QJ at h1;simp only[uT,uj]at h1;obtain⟨h4,h5⟩:=h1;rw[P3]at h5;have hd:∀d∈p.decls,∃i,Oe p.decls i d=true:=λd hd=>by
  obtain⟨i,hi⟩:=vF.1 hd;exact⟨_,h5 i d hi⟩
 refine⟨h4,λd hm=>?_,λd hm c hc=>?_,λd hm=>?_,h2,λf hf=>?_⟩
 ·obtain⟨i,hi⟩:=hd d hm;unfold Oe at hi;split at hi
  ·simp only[uT,uj]at hi;exact hi.1.1
  ·omega
 ·obtain⟨i,hi⟩:=hd d hm;unfold Oe at hi;split at hi
  ·simp only[uT,uj,uS]at hi;have:=hi.2 c hc;unfold Ui at this;simp only[uT,uj,uS]at this;exact this
  ·have:=wj hc;omega
 ·obtain⟨i,hi⟩:=hd d hm;unfold Oe at hi;split at hi
  ·simp only[uT,uj]at hi;rw[hi.1.2.1,hi.1.2.2];have:Dg p.decls 0=true:=by unfold Dg;simp
   exact⟨this,this⟩
  ·simp only[uT]at hi;exact hi.2
 ·have:=uS.1 h3 f hf;simp only[Function.comp,Q7,uT,uj,uS]at this;exact this
section
variable {p : Ej} {sg : Ap} {R1 : Ej -> List Int -> Ee -> Option Int} {R2 : List Int -> Ap -> Ee -> Option Int} {T : List Int -> Ee -> Int} {e : Ee} {v : List Int} {N : Nat}
def IJ:List Int->Int
 | []=>-1
 | t::r=>if r.all (λx=>decide (x=t))=true then t else -1
end
end RC
namespace RC
open Go
theorem jw {n:Int}(h1:n < -9223372036854775808)(h2:-18446744073709551616<=n):Sh.w n=n+18446744073709551616:=by
 unfold Sh.w;rw[IntKind.wrap_i64];omega
theorem X3 {D:List AP}(hD:D.length<=1048576)(hn:nc D<=1048576){c:Int}(hI:Mm c)(hc:c<0∨(nc D:Int)<=c){N:Nat}(hN:2000000<=N):J2 N D c=some (-1,⟨[]⟩):=by
 have key:∀(m j N:Nat) (c:Int),D.length-j=m->j<=D.length->m<N->Mm c->(c<0∨(nc (D.drop j):Int)<=c)->Gh D N c j=some (.inr ()):=by
  intro m
  induction m with
  | zero=>
   intro j N c h1 h2 h3 _ _;obtain⟨N,rfl⟩ :∃n,N=n+1:=⟨N-1,by omega⟩
   rw[Gh,uY (by simp[Ah];omega)]
  | succ m ih=>
   intro j N c h1 h2 h3 hI h4;obtain⟨N,rfl⟩ :∃n,N=n+1:=⟨N-1,by omega⟩
   obtain⟨d,hd,_⟩:=BX (l:=D) (i:=j) (by omega);have hs:=Jv D j;rw[WY hd]at h4 hs;rw[Gh,Cj,Ao hd,uJ];have hlo:=hI.1;have hhi:=hI.2;have e1:¬ (0<=c/\c<(d.cons.length:Int)):=by omega
   have e2:(if decide (0<=c)=true then some (decide (c<Sh.len d.cons)) else some false)=some false:=by
    by_cases h0:0<=c
    ·have:¬ c<(d.cons.length:Int):=by omega
     simp[h0,Ah,this]
    ·simp[h0]
   rw[wI (n:=(j:Int)+1),show ((j:Int)+1)=((j+1:Nat):Int) by omega,Ah];rw[Ah]at e2;by_cases h5:c-(d.cons.length:Int) < -9223372036854775808
   ·have:=ih (j+1) N (Sh.w (c-(d.cons.length:Int))) (by omega) (by omega) (by omega) (by rw[jw h5 (by omega)];unfold Mm;omega) (by rw[jw h5 (by omega)];omega);rw[e2];simp only[uJ,uN,uf];exact this
   ·have:=ih (j+1) N (Sh.w (c-(d.cons.length:Int))) (by omega) (by omega) (by omega) (by rw[wI];unfold Mm;omega) (by rw[wI];omega);rw[e2];simp only[uJ,uN,uf];exact this
 have:=key D.length 0 N c (by omega) (by omega) (by omega) hI (by simpa using hc);unfold J2;rw[show (((0:Nat):Int))=0 from rfl]at this;rw[this];rfl
theorem Tu:∀{D:List AP} {k c t:Nat} {x:Bw},Ox D k c=some (t,x)->k<t/\t<=k+D.length/\∃d∈D,x∈d.cons
 | [],_,_,_,_,h=>by simp[Ox]at h
 | d::r,k,c,t,x,h=>by
  unfold Ox at h;cases hx:d.cons[c]? with
  | some y=>
   rw[hx]at h;simp only[uO,wE]at h;obtain⟨rfl,rfl⟩:=h;exact⟨by omega,by simp,d,by simp,uL hx⟩
  | none=>
   rw[hx]at h;obtain⟨h1,h2,e,h3,h4⟩:=Tu h;exact⟨by omega,by simp;omega,e,by simp[h3],h4⟩
def XE (a b:Int)(d:AP):Bool:=decide (d.cons.length=0)&&(decide (d.from_=a)&&decide (d.to=b))
def Ku (a b:Int):List AP->Nat->Int
 | [],_=>-1
 | d::r,k=>if XE a b d=true then (k:Int)+1 else Ku a b r (k+1)
theorem gi {a b:Int}:∀(l:List AP) (k:Nat),Ku a b l k=-1∨((k:Int)<Ku a b l k/\Ku a b l k<=k+l.length)
 | [],_=>.inl rfl
 | d::r,k=>by
  unfold Ku;by_cases h:XE a b d=true
  ·rw[uX h];right;simp only[vD];omega
  ·rw[uY h];rcases gi r (k+1) with h1|h1
   ·exact .inl h1
   ·right;simp only[vD];omega
theorem cV {a b:Int}{d:AP}:(if decide ((Sh.len d.cons)=0)=true then if decide (d.from_=a)=true then some (decide (d.to=b)) else some false else some false)=some (XE a b d):=by
 unfold XE;by_cases h1:d.cons.length=0<;>by_cases h2:d.from_=a<;>simp[Ah,h1,h2]
theorem Wt {D:List AP}(hD:D.length<=1048576){a b:Int}{N:Nat}(hN:2000000<=N):Kc N D a b=some (Ku a b D 0):=by
 unfold Kc;have key:∀{M i:Nat},i<=D.length->D.length-i<M->Sh.cont (GV D a b M i) id (λ()=>some (-1))=some (Ku a b (D.drop i) i):=by
  intro M i hi hM;refine BQ D.length (λM i=>Sh.cont (GV D a b M i) id (λ()=>some (-1))=some (Ku a b (D.drop i) i)) ?_ ?_ hi hM
  ·intro n;rw[GV,CX];simp[Ku,Sh.cont]
  ·intro n i hi ih;obtain⟨d,hd,_⟩:=BX hi;rw[GV,Cj,Ao hd,drop_cons hd,uJ,cV,wI,show ((i:Int)+1)=((i+1:Nat):Int) by omega];simp only[uJ,Ku];by_cases h:XE a b d=true
   ·rw[uX h,uX h];simp[Sh.cont]
   ·rw[uY h,uY h,ih]
 have:=key (ue _) (by omega:D.length-0<N);simpa using this
theorem XW {D:List AP}(hD:D.length<=1048576){a b:Int}{N:Nat}(hN:2000000<=N):Lv N D a b=some (Ku a b D 0):=by
 unfold Lv;have key:∀{M i:Nat},i<=D.length->D.length-i<M->Sh.cont (GU D a b M i) id (λ()=>some (-1))=some (Ku a b (D.drop i) i):=by
  intro M i hi hM;refine BQ D.length (λM i=>Sh.cont (GU D a b M i) id (λ()=>some (-1))=some (Ku a b (D.drop i) i)) ?_ ?_ hi hM
  ·intro n;rw[GU,CX];simp[Ku,Sh.cont]
  ·intro n i hi ih;obtain⟨d,hd,_⟩:=BX hi;rw[GU,Cj,Ao hd,drop_cons hd,uJ,cV,wI,show ((i:Int)+1)=((i+1:Nat):Int) by omega];simp only[uJ,Ku];by_cases h:XE a b d=true
   ·rw[uX h,uX h];simp[Sh.cont]
   ·rw[uY h,uY h,ih]
 have:=key (ue _) (by omega:D.length-0<N);simpa using this
def NS (D:List AP)(t:Int):Option AP:=if 1<=t/\t<=(D.length:Int) then (D[(t-1).toNat]?).bind λd=>if d.cons.length=0 then some d else none else none
theorem dD {D:List AP}{t:Int}{d:AP}(h:NS D t=some d):d∈D/\1<=t/\t<=(D.length:Int)/\D[(t-1).toNat]?=some d:=by
 unfold NS at h;split at h
 ·rename_i h1;obtain⟨e,he,h2⟩:=vO.1 h;split at h2
  ·cases h2;exact⟨uL he,h1.1,h1.2,he⟩
  ·cases h2
 ·cases h
theorem RA {D:List AP}(hD:D.length<=1048576){t:Int}:JQ D t=some ((NS D t).elim (⟨0,0,[]⟩,false) λd=>(d,true)):=by
 unfold JQ NS;by_cases h:1<=t/\t<=(D.length:Int)
 ·obtain⟨a,ha⟩ :∃a:Nat,t=(a:Int)+1:=⟨(t-1).toNat,by omega⟩
  subst ha;obtain⟨d,hd,_⟩:=BX (l:=D) (i:=a) (by omega);have e1:¬ ((a:Int)+1<1):=by omega
  have e2:¬ ((D.length:Int)<(a:Int)+1):=by omega
  rw[uX h,wI,show ((a:Int)+1-1)=((a:Nat):Int) by omega,Ao hd,wH,hd];by_cases h2:d.cons.length=0
  ·have h2':d.cons=[]:=vM h2;simp[e1,e2,Ah,h2']
  ·have h3:0<d.cons.length:=by omega
   have h2':¬ d.cons=[]:=λq=>h2 (by rw[q];rfl);simp[e1,e2,Ah,h2',h3]
 ·rw[uY h];by_cases h1:t<1
  ·simp[h1]
  ·have h2:(D.length:Int)<t:=by omega
   simp[h1,Ah,h2]
theorem Qw {D:List AP}(hD:D.length<=1048576){t:Int}:JW D t=some (NS D t).isSome:=by
 unfold JW NS;rw[DD];by_cases h:1<=t/\t<=(D.length:Int)
 ·obtain⟨a,ha⟩ :∃a:Nat,t=(a:Int)+1:=⟨(t-1).toNat,by omega⟩
  subst ha;obtain⟨d,hd,_⟩:=BX (l:=D) (i:=a) (by omega);have e1:((1:Int)<=(a:Int)+1):=by omega
  have e2:((a:Int)+1<=(D.length:Int)):=by omega
  rw[uX h,wI,show ((a:Int)+1-1)=((a:Nat):Int) by omega,Ao hd,wH,hd];by_cases h2:d.cons=[]<;>simp[e1,e2,Ah,h2]
 ·rw[uY h];have:(decide (1<=t)&&decide (t<=Sh.len D))=false:=by
   rw[Ah];by_cases h1:1<=t
   ·have h2:¬ t<=(D.length:Int):=λq=>h ⟨h1,q⟩;simp[h1,h2]
   ·simp[h1]
  simp[this]
section
variable {p : Ej} {sg : Ap} {R1 : Ej -> List Int -> Ee -> Option Int} {R2 : List Int -> Ap -> Ee -> Option Int} {T : List Int -> Ee -> Int} {e : Ee} {v : List Int} {N : Nat}
end
end RC
namespace RC
open Go
section
variable {p : Ej} {R1 : Ej -> List Int -> Ee -> Option Int} {R2 : List Int -> Ap -> Ee -> Option Int} {T : List Int -> Ee -> Int} {e : Ee} {v : List Int} {N : Nat}
theorem sv {D:List AP}:Dg D 0=true:=by unfold Dg;simp
theorem len_nil {α:Type}{l:List α}:decide ((Sh.len l)=0)=decide (l=[]):=by
 cases l with
 | nil=>rfl
 | cons x r=>exact vX.2 (by rw[Ah,vD];exact⟨λh=>by omega,λh=>nomatch h⟩)
end
end RC
namespace RC
open Go
section
variable {p : Ej} {R1 : Ej -> List Int -> Ee -> Option Int} {R2 : List Int -> Ap -> Ee -> Option Int} {T : List Int -> Ee -> Int} {e : Ee} {v : List Int} {N : Nat}
theorem gU {α:Type}{l:List α}{m:Nat}(h:m<=l.length):Sh.sl l 0 (m:Int)=some (l.take m):=by
 unfold Sh.sl;rw[uX ⟨by omega,by omega,by omega⟩];simp
end
end RC
namespace RC
open Go
def Pb (D:List AP)(c:Int):List Int:=(Ox D 0 c.toNat).elim [] λx=>x.2.fields
theorem iC {D:List AP}{t c:Int}(h:c∈Fc D t):∃k:Nat,c=(k:Int)/\k<nc D:=by
 unfold Fc at h;split at h
 ·rename_i h1;obtain⟨a,ha⟩ :∃a:Nat,t=(a:Int)+1:=⟨(t-1).toNat,by omega⟩
  subst ha;obtain⟨d,hd,_⟩:=BX (l:=D) (i:=a) (by omega);rw[show (((a:Int)+1)-1).toNat=a by omega,hd]at h;simp only[wG,uw,wQ]at h;obtain⟨i,hi,rfl⟩:=h;have hs:=Jv D a;rw[WY hd]at hs;exact⟨nc (D.take a)+i,by omega,by omega⟩
 ·cases h
theorem Pe {D:List AP}(h :∀d∈D,d.cons.length<=3)(t:Int):(Fc D t).length<=3:=by
 unfold Fc;split
 ·rename_i h1;obtain⟨a,ha⟩ :∃a:Nat,t=(a:Int)+1:=⟨(t-1).toNat,by omega⟩
  subst ha;obtain⟨d,hd,hm⟩:=BX (l:=D) (i:=a) (by omega);rw[show (((a:Int)+1)-1).toNat=a by omega,hd];simp only[wG,uZ,List.length_range];exact h d hm
 ·simp
theorem Re {D:List AP}{F:List Kf}(S:QT D F){t c:Int}(h:c∈Fc D t){N:Nat}(hN:2000000<=N):CK N D c=some (Pb D c)/\Ik N D c=some (Pb D c)/\(Pb D c).length<=3/\∀x∈Pb D c,Dg D x=true:=by
 obtain⟨k,rfl,hk⟩:=iC h;have hD:=S.RO;have hn:=S.nc;obtain⟨t,x,e1,e2⟩:=MV (D:=D) (by omega) (by omega) hk hN;obtain⟨t',x',e1',e3⟩:=Vr (D:=D) (by omega) (by omega) hk hN;rw[e1]at e1';cases e1';obtain⟨_,_,d,g3,g4⟩:=Tu e1;have hf:Pb D (k:Int)=x.fields:=by unfold Pb;rw[wH,e1];rfl
 rw[hf];exact⟨e2,e3,S.Qr d g3 x g4⟩
section
variable {p : Ej} {R1 : Ej -> List Int -> Ee -> Option Int} {R2 : List Int -> Ap -> Ee -> Option Int} {T : List Int -> Ee -> Int} {e : Ee} {v : List Int} {N : Nat}
end
end RC
namespace RC
open Go
end RC
namespace RC
open Go
end RC
namespace RC
open Go
mutual
def Py:Step->Nat|.mk _ _ _ a k=>a.length+k.length+NF k
def NF:List (GX Step)->Nat|[]=>0|b::k=>KF b+NF k
def KF:GX Step->Nat|⟨ss,_⟩=>ss.length+OG ss
def OG:List Step->Nat|[]=>0|s::l=>Py s+OG l
end
theorem O8 (s:Step):Py s=s.args.length+s.kids.length+NF s.kids:=by cases s;simp[Py,Step.args,Step.kids]
theorem N2 (b:Block):KF b=b.steps.length+OG b.steps:=by cases b;simp[KF]
theorem lA {k:List Block}{i:Nat}{b:Block}(h:k[i]?=some b):NF (k.drop i)=KF b+NF (k.drop (i+1)):=by rw[drop_cons h];simp[NF]
theorem mE {l:List Step}{i:Nat}{s:Step}(h:l[i]?=some s):OG (l.drop i)=Py s+OG (l.drop (i+1)):=by rw[drop_cons h];simp[OG]
theorem mm {k:List Block}{b:Block}(h:b∈k):KF b<=NF k:=by
 induction k with
 | nil=>cases h
 | cons c k ih=>
  simp only[NF];rcases uz.1 h with rfl|h
  ·omega
  ·have:=ih h;omega
theorem ga {l:List Step}{s:Step}(h:s∈l):Py s<=OG l:=by
 induction l with
 | nil=>cases h
 | cons c l ih=>
  simp only[OG];rcases uz.1 h with rfl|h
  ·omega
  ·have:=ih h;omega
inductive Kg:Step->Prop where
 | mk {s:Step}:Mm s.op->Mm s.num->Mm s.BF->F7 Mm s.args->s.kids.length<=9223372036854775807->(∀b∈s.kids,b.steps.length<=9223372036854775807)->(∀b∈s.kids,Mm b.result)->(∀b∈s.kids,∀t∈b.steps,Kg t)->Kg s
structure Lt (b:Block):Prop where
 steps:F7 Kg b.steps
 result:Mm b.result
theorem Kg.args {s:Step}(h:Kg s):F7 Mm s.args:=by cases h;assumption
theorem Kg.Zd {s:Step}(h:Kg s):s.kids.length<=9223372036854775807:=by cases h;assumption
theorem Kg.kids {s:Step}(h:Kg s):∀b∈s.kids,Lt b:=by
 cases h with
 | mk _ _ _ _ _ h1 h2 h3=>exact λb hb=>⟨⟨h3 b hb,h1 b hb⟩,h2 b hb⟩
def lf (left:Int)(s:Nat):Int:=if left-s<0 then -1 else left-s
theorem YP {rec:Block->Int->Option Int}{k:List Block}{L:Int}(hk:k.length<=1048576)(hrec :∀b∈k,∀left:Int,0<=left->left<=L->rec b left=some (lf left (KF b))){N i:Nat}(hi:i<=k.length)(hN:k.length-i<N):
  ∀left:Int,0<=left->left<=L->Fp k rec N left i=some (if left-NF (k.drop i)<0 then Sum.inl (-1) else Sum.inr (left-NF (k.drop i))):=by
 refine BQ k.length (λN i=>∀left:Int,0<=left->left<=L->Fp k rec N left i=some (if left-NF (k.drop i)<0 then Sum.inl (-1) else Sum.inr (left-NF (k.drop i)))) ?_ ?_ hi hN
 ·intro n left h0 h1;rw[Fp,CX];simp[NF];omega
 ·intro n i hi ih left h0 h1;obtain⟨b,hb,hbm⟩:=BX hi;rw[Fp,Cj,Ao hb,uJ,hrec b hbm left h0 h1,lA hb,uJ];unfold lf;by_cases h2:left-KF b<0
  ·simp only[h2,vH];rw[uX (by simp),uX (by omega)]
  ·simp only[h2,uf];rw[uY (by simp),wI,show ((i:Int)+1)=((i+1:Nat):Int) by omega,ih (left-KF b) (by omega) (by omega)];have e:left-(KF b:Int)-NF (k.drop (i+1))=left-((KF b+NF (k.drop (i+1)):Nat):Int):=by omega
   rw[e]
theorem dm {N:Nat}(hN:2000000<=N){rec:Block->Int->Option Int}{k:List Block}(hk:k.length<=9223372036854775807){left:Int}(h0:0<=left)(h1:left<=1048576)
  (hrec :∀b∈k,∀l:Int,0<=l->l<=left-k.length->rec b l=some (lf l (KF b))):LQ N rec k left=some (lf left (k.length+NF k)):=by
 unfold LQ;rw[Ah,wI];unfold lf;by_cases h2:left-(k.length:Int)<0
 ·rw[uX (by simpa using h2),uX (by omega)]
 ·rw[uY (by simpa using h2)];have:=YP (by omega) hrec (ue _) (by omega:k.length-0<N) (left-k.length) (by omega) (xg _);rw[zQ,vG]at this;rw[this];by_cases h3:left-(k.length:Int)-NF k<0
  ·rw[uX h3,uX (by omega)];rfl
  ·rw[uY h3,uY (by omega)];simp only[Sh.Kd];congr 1;omega
theorem iq {N:Nat}(hN:2000000<=N){rec:Block->Int->Option Int}{s:Step}(hs:Kg s){left:Int}(h0:0<=left)(h1:left<=1048576)
  (hrec :∀b∈s.kids,∀l:Int,0<=l->l<left->rec b l=some (lf l (KF b))):My N rec s left=some (lf left (Py s)):=by
 unfold My;rw[Ru h0 h1 hs.args.2,O8,uJ];by_cases h2:left-(s.args.length:Int)<0
 ·have:left-((s.args.length+s.kids.length+NF s.kids:Nat):Int)<0:=by omega
  simp only[lf,uX h2,uX this];rfl
 ·rw[uY h2,uY (by simpa using h2),dm hN hs.Zd (by omega) (by omega) (λb hb l l0 l1=>hrec b hb l l0 (by
   have:0<s.kids.length:=wj hb;omega))]
  simp only[uJ];have e:lf (left-(s.args.length:Int)) (s.kids.length+NF s.kids)=lf left (s.args.length+s.kids.length+NF s.kids):=by
   unfold lf;have e:left-(s.args.length:Int)-((s.kids.length+NF s.kids:Nat):Int)=left-((s.args.length+s.kids.length+NF s.kids:Nat):Int):=by omega
   rw[e]
  rw[e];unfold lf;split<;>simp<;>omega
theorem Zw {M:Nat}(hM:2000000<=M){rec:Block->Int->Option Int}{l:List Step}{L:Int}(hL:L<=1048576)(hk:l.length<=1048576)(hs :∀s∈l,Kg s)(hrec :∀s∈l,∀b∈s.kids,∀left:Int,0<=left->left<L->rec b left=some (lf left (KF b))){N i:Nat}(hi:i<=l.length)(hN:l.length-i<N):
  ∀left:Int,0<=left->left<=L->GL M l rec N left i=some (if left-OG (l.drop i)<0 then Sum.inl (-1) else Sum.inr (left-OG (l.drop i))):=by
 refine BQ l.length (λN i=>∀left:Int,0<=left->left<=L->GL M l rec N left i=some (if left-OG (l.drop i)<0 then Sum.inl (-1) else Sum.inr (left-OG (l.drop i)))) ?_ ?_ hi hN
 ·intro n left h0 h1;rw[GL,CX];simp[OG];omega
 ·intro n i hi ih left h0 h1;obtain⟨b,hb,hbm⟩:=BX hi;rw[GL,Cj,Ao hb,uJ,iq hM (hs b hbm) h0 (by omega) (λc hc l' l0 l1=>hrec b hbm c hc l' l0 (by omega)),mE hb,uJ];unfold lf;by_cases h2:left-Py b<0
  ·simp only[h2,vH];rw[uX (by simp),uX (by omega)]
  ·simp only[h2,uf];rw[uY (by simp),wI,show ((i:Int)+1)=((i+1:Nat):Int) by omega,ih (left-Py b) (by omega) (by omega)];have e:left-(Py b:Int)-OG (l.drop (i+1))=left-((Py b+OG (l.drop (i+1)):Nat):Int):=by omega
   rw[e]
theorem bW {N:Nat}(hN:2000000<=N):∀(n:Nat) (b:Block) (left:Int),Lt b->0<=left->left<=1048576->left<n->H5 N n b left=some (lf left (KF b)):=by
 intro n
 induction n with
 | zero=>intro b left _ h0 _ h2;omega
 | succ n ih=>
  intro b left hb h0 h1 h2;rw[H5];unfold L8 N8;have hl:=hb.steps.2;rw[Ah,wI,N2];by_cases h3:left-(b.steps.length:Int)<0
  ·have:left-((b.steps.length+OG b.steps:Nat):Int)<0:=by omega
   rw[uX (by simpa using h3)];simp only[lf,uX this];rfl
  ·rw[uY (by simpa using h3)];have:=Zw hN (rec:=H5 N n) (l:=b.steps) (L:=left-b.steps.length) (by omega) (by omega) hb.steps.1 (λs hs c hc l l0 l1=>ih c l ((hb.steps.1 s hs).kids c hc) l0 (by omega) (by have:=wj hs;omega)) (ue _) (by omega:b.steps.length-0<N) (left-b.steps.length) (by omega) (xg _);rw[zQ,vG]at this;rw[this];unfold lf;by_cases h5:left-(b.steps.length:Int)-OG b.steps<0
   ·rw[uX h5,uX (by omega)];rfl
   ·rw[uY h5,uY (by omega)];simp only[Sh.Kd,uJ];rw[uY (by simp;omega)];congr 1;omega
end RC
namespace RC
open Go
def Bs (b:Block):Prop:=KF b<=1048576
theorem Bs.len {b:Block}(h:Bs b):b.steps.length<=1048576:=by unfold Bs at h;rw[N2]at h;omega
theorem LI {b:Block}{s:Step}(hs:s∈b.steps):Py s+1<=KF b:=by
 have h1:=ga hs;have h2:=wj hs;rw[N2];omega
theorem Rv {s:Step}{b:Block}(hb:b∈s.kids):KF b+1<=Py s:=by
 have h1:=mm hb;have h2:=wj hb;rw[O8];omega
theorem YM {rec:Block->Option Block}{k:List Block}(hk:k.length<=1048576)(hrec :∀b∈k,rec b=some b){N i:Nat}(hi:i<=k.length)(hN:k.length-i<N):∀m:List Block,m.length=k.length->m.take i=k.take i->Fm k rec N i m=some k:=by
 refine BQ k.length (λN i=>∀m:List Block,m.length=k.length->m.take i=k.take i->Fm k rec N i m=some k) ?_ ?_ hi hN
 ·intro n m hm ht;rw[Fm,CX];rw[wO (by omega),vp]at ht;rw[ht]
 ·intro n i hi ih m hm ht;obtain⟨x,hx,hxm⟩:=BX hi;obtain⟨y,hy,_⟩:=BX (l:=m) (i:=i) (by omega);rw[Fm,Cj,Ao hx,uJ,hrec x hxm,uJ,Ao hy,uJ,wI,Pk,show ((i:Int)+1)=((i+1:Nat):Int) by omega];refine ih _ (by simp[hm]) ?_;rw[Ep hx,Ep (x:=x) (by rw[yS];simp;omega),xL (uq _),ht]
theorem ig {N:Nat}(hN:2000000<=N){rec:Block->Option Block}{s:Step}(hs:Py s<=1048576)(hrec :∀b∈s.kids,rec b=some b):Mw N rec s=some s:=by
 rw[O8]at hs;unfold Mw NH;rw[Rt (by omega) hN,Ah,PR _ s.kids.length 32 (by omega) (by omega)];simp only[uJ];have:=YM (by omega) hrec (ue _) (by omega:s.kids.length-0<N) (List.replicate s.kids.length (Block.mk [] 0)) (by simp) (by simp);rw[zQ]at this;rw[this];exact vI some (Step.eta s).symm
theorem Zt {M:Nat}(hM:2000000<=M){rec:Block->Option Block}{k:List Step}(hk:k.length<=1048576)(hs :∀s∈k,Py s<=1048576)(hrec :∀s∈k,∀b∈s.kids,rec b=some b){N i:Nat}(hi:i<=k.length)(hN:k.length-i<N):∀m:List Step,m.length=k.length->m.take i=k.take i->GM M k rec N i m=some k:=by
 refine BQ k.length (λN i=>∀m:List Step,m.length=k.length->m.take i=k.take i->GM M k rec N i m=some k) ?_ ?_ hi hN
 ·intro n m hm ht;rw[GM,CX];rw[wO (by omega),vp]at ht;rw[ht]
 ·intro n i hi ih m hm ht;obtain⟨x,hx,hxm⟩:=BX hi;obtain⟨y,hy,_⟩:=BX (l:=m) (i:=i) (by omega);rw[GM,Cj,Ao hx,uJ,ig hM (hs x hxm) (hrec x hxm),uJ,Ao hy,uJ,wI,Pk,show ((i:Int)+1)=((i+1:Nat):Int) by omega];refine ih _ (by simp[hm]) ?_;rw[Ep hx,Ep (x:=x) (by rw[yS];simp;omega),xL (uq _),ht]
theorem ba {N:Nat}(hN:2000000<=N):∀(n:Nat) (b:Block),Bs b->KF b<n->H2 N n b=some b:=by
 intro n
 induction n with
 | zero=>intro b _ h;omega
 | succ n ih=>
  intro b hb hn;have hl:=hb.len;rw[H2];unfold MM N4;rw[Ah,PR _ b.steps.length 72 (by omega) (by omega),uJ];have:=Zt hN (rec:=H2 N n) hl (λs hs=>by have:=LI hs;unfold Bs at hb;omega) (λs hs c hc=>ih c (by have:=LI hs;have:=Rv hc;unfold Bs at *;omega) (by have:=LI hs;have:=Rv hc;omega)) (ue _) (by omega:b.steps.length-0<N) (List.replicate b.steps.length (Step.mk 0 0 0 [] [])) (by simp) (by simp);rw[zQ]at this;rw[this];rfl
theorem fG {b:Block}(hb:Bs b){N:Nat}(hN:2000000<=N):OC N b=some b:=by
 unfold OC;exact ba hN N b hb (by unfold Bs at hb;omega)
theorem YY {rec:Block->Block->Option Bool}{k:List Block}(hk:k.length<=1048576)(hrec :∀b∈k,rec b b=some true){N i:Nat}(hi:i<=k.length)(hN:k.length-i<N):Fk k k rec N i=some (Sum.inr ()):=by
 refine BQ k.length (λN i=>Fk k k rec N i=some (Sum.inr ())) ?_ ?_ hi hN
 ·intro n;rw[Fk,CX]
 ·intro n i hi ih;obtain⟨x,hx,hxm⟩:=BX hi;rw[Fk,Cj,Ao hx];simp only[uJ];rw[hrec x hxm,wI,show ((i:Int)+1)=((i+1:Nat):Int) by omega];simpa using ih
theorem iz {N:Nat}(hN:2000000<=N){rec:Block->Block->Option Bool}{s:Step}(hs:Py s<=1048576)(hrec :∀b∈s.kids,rec b b=some true):Mv N rec s s=some true:=by
 rw[O8]at hs;unfold Mv NR;have:=YY (k:=s.kids) (by omega) hrec (ue _) (by omega:s.kids.length-0<N);rw[zQ]at this;simp[Rw (l:=s.args) (by omega) hN,this]
theorem aS {M:Nat}(hM:2000000<=M){rec:Block->Block->Option Bool}{k:List Step}(hk:k.length<=1048576)(hs :∀s∈k,Py s<=1048576)(hrec :∀s∈k,∀b∈s.kids,rec b b=some true){N i:Nat}(hi:i<=k.length)(hN:k.length-i<N):GQ M k k rec N i=some (Sum.inr ()):=by
 refine BQ k.length (λN i=>GQ M k k rec N i=some (Sum.inr ())) ?_ ?_ hi hN
 ·intro n;rw[GQ,CX]
 ·intro n i hi ih;obtain⟨x,hx,hxm⟩:=BX hi;rw[GQ,Cj,Ao hx];simp only[uJ];rw[iz hM (hs x hxm) (hrec x hxm),wI,show ((i:Int)+1)=((i+1:Nat):Int) by omega];simpa using ih
theorem bA {N:Nat}(hN:2000000<=N):∀(n:Nat) (b:Block),Bs b->KF b<n->Hw N n b b=some true:=by
 intro n
 induction n with
 | zero=>intro b _ h;omega
 | succ n ih=>
  intro b hb hn;have hl:=hb.len;rw[Hw];unfold MI N9;have:=aS hN (rec:=Hw N n) hl (λs hs=>by have:=LI hs;unfold Bs at hb;omega) (λs hs c hc=>ih c (by have:=LI hs;have:=Rv hc;unfold Bs at *;omega) (by have:=LI hs;have:=Rv hc;omega)) (ue _) (by omega:b.steps.length-0<N);rw[zQ]at this;simp[this]
theorem fV {b:Block}(hb:Bs b){N:Nat}(hN:2000000<=N):Nz N b b=some true:=by
 unfold Nz;exact bA hN N b hb (by unfold Bs at hb;omega)
mutual
def SW:Step->Nat|.mk _ _ _ _ k=>Lp k+1
def Lp:List (GX Step)->Nat|[]=>0|b::k=>E3 b+Lp k
def E3:GX Step->Nat|⟨ss,_⟩=>Ld ss
def Ld:List Step->Nat|[]=>0|s::l=>SW s+Ld l
end
theorem RX (s:Step):SW s=Lp s.kids+1:=by cases s;simp[SW,Step.kids]
theorem N1 (b:Block):E3 b=Ld b.steps:=by cases b;simp[E3]
theorem cm {k:List Block}{i:Nat}{b:Block}(h:k[i]?=some b):Lp (k.drop i)=E3 b+Lp (k.drop (i+1)):=by rw[drop_cons h];simp[Lp]
theorem T6 {l:List Step}{i:Nat}{s:Step}(h:l[i]?=some s):Ld (l.drop i)=SW s+Ld (l.drop (i+1)):=by rw[drop_cons h];simp[Ld]
theorem gn {b:Block}{s:Step}{i:Nat}{rec:Block->Int->Option Int}(hs:b.steps[i]?=some s)(hk:s.kids.length<=1048576)(hrec :∀c∈s.kids,∀l:Int,0<=l->l<=600->rec c l=some (lf l (E3 c))){N k:Nat}(hi:k<=s.kids.length)(hN:s.kids.length-k<N):∀left:Int,0<=left->left<=600->
  EI i b rec N left k=some (if left-Lp (s.kids.drop k)<0 then Sum.inl (-1) else Sum.inr (left-Lp (s.kids.drop k))):=by
 refine BQ s.kids.length (λN k=>∀left:Int,0<=left->left<=600->EI i b rec N left k=some (if left-Lp (s.kids.drop k)<0 then Sum.inl (-1) else Sum.inr (left-Lp (s.kids.drop k)))) ?_ ?_ hi hN
 ·intro n left h0 h1;rw[EI,Ao hs,uJ,CX];simp[Lp];omega
 ·intro n k hi ih left h0 h1;obtain⟨c,hc,hcm⟩:=BX hi;rw[EI,Ao hs,uJ,Cj,Ao hc,uJ,hrec c hcm left h0 h1,cm hc,uJ];unfold lf;by_cases h2:left-E3 c<0
  ·simp only[h2,vH];rw[uX (by simp),uX (by omega)]
  ·simp only[h2,uf];rw[uY (by simp),wI,show ((k:Int)+1)=((k+1:Nat):Int) by omega,ih (left-E3 c) (by omega) (by omega)];have e:left-(E3 c:Int)-Lp (s.kids.drop (k+1))=left-((E3 c+Lp (s.kids.drop (k+1)):Nat):Int):=by omega
   rw[e]
theorem Xm {b:Block}{rec:Block->Int->Option Int}{M:Nat}(hM:2000000<=M)(hl:b.steps.length<=1048576)(hk :∀s∈b.steps,s.kids.length<=1048576)(hrec :∀s∈b.steps,∀c∈s.kids,∀l:Int,0<=l->l<=600->rec c l=some (lf l (E3 c))){N i:Nat}(hi:i<=b.steps.length)(hN:b.steps.length-i<N):∀left:Int,0<=left->left<=600->
  EJ M b rec N left i=some (if left-Ld (b.steps.drop i)<0 then Sum.inl (-1) else Sum.inr (left-Ld (b.steps.drop i))):=by
 refine BQ b.steps.length (λN i=>∀left:Int,0<=left->left<=600->EJ M b rec N left i=some (if left-Ld (b.steps.drop i)<0 then Sum.inl (-1) else Sum.inr (left-Ld (b.steps.drop i)))) ?_ ?_ hi hN
 ·intro n left h0 h1;rw[EJ,CX];simp[Ld];omega
 ·intro n i hi ih left h0 h1;obtain⟨s,hs,hsm⟩:=BX hi;rw[EJ,Cj,T6 hs,RX];by_cases h2:left<1
  ·rw[uX (by simpa using h2),uX (by omega)]
  ·rw[uY (by simpa using h2),wI (n:=left-1)];have hks:=hk s hsm;have L2:=gn hs hks (hrec s hsm) (ue _) (by omega:s.kids.length-0<M) (left-1) (by omega) (by omega);rw[zQ,vG]at L2;rw[L2];by_cases h3:left-1-(Lp s.kids:Int)<0
   ·rw[uX h3,uX (by omega)];rfl
   ·rw[uY h3];simp only[Sh.Kd];rw[wI,show ((i:Int)+1)=((i+1:Nat):Int) by omega,ih _ (by omega) (by omega)];have e:left-1-(Lp s.kids:Int)-Ld (b.steps.drop (i+1))=left-((Lp s.kids+1+Ld (b.steps.drop (i+1)):Nat):Int):=by omega
    rw[e]
theorem Nu {b:Block}(hb:Bs b){s:Step}(hs:s∈b.steps):s.kids.length<=1048576:=by
 have h1:=LI hs;rw[O8]at h1;unfold Bs at hb;omega
theorem cv {b:Block}(hb:Bs b){s:Step}(hs:s∈b.steps):s.args.length<=1048576:=by
 have h1:=LI hs;rw[O8]at h1;unfold Bs at hb;omega
theorem MG {b:Block}(hb:Bs b){s:Step}(hs:s∈b.steps){c:Block}(hc:c∈s.kids):Bs c/\KF c+2<=KF b:=by
 have h1:=LI hs;have h2:=Rv hc;unfold Bs at *;exact⟨by omega,by omega⟩
theorem X9 {N:Nat}(hN:2000000<=N):∀(n:Nat) (b:Block) (left:Int),Bs b->KF b<n->0<=left->left<=600->EF N n b left=some (lf left (E3 b)):=by
 intro n
 induction n with
 | zero=>intro b left _ h;omega
 | succ n ih=>
  intro b left hb hn h0 h1;have hl:=hb.len;rw[EF];unfold JL;have:=Xm (rec:=EF N n) hN hl (λs hs=>Nu hb hs) (λs hs c hc l l0 l1=>ih c l (MG hb hs hc).1 (by have:=(MG hb hs hc).2;omega) l0 l1) (ue _) (by omega:b.steps.length-0<N) left h0 h1;rw[zQ,vG,<- N1]at this;rw[this];unfold lf;by_cases h3:left-(E3 b:Int)<0
  ·rw[uX h3,uX h3];rfl
  ·rw[uY h3,uY h3];rfl
theorem Qv {b:Block}(hb:Bs b){N:Nat}(hN:2000000<=N):IG N b=some (if E3 b<=600 then (E3 b:Int) else -1):=by
 unfold IG MQ;rw[X9 hN N b 600 hb (by unfold Bs at hb;omega) (by decide) (by decide),uJ];by_cases h:E3 b<=600
 ·have e:lf 600 (E3 b)=600-(E3 b:Int):=by unfold lf;rw[uY (by omega)]
  rw[e,uY (by simp;omega),uX h,wI];congr 1;omega
 ·have e:lf 600 (E3 b)=-1:=by unfold lf;rw[uX (by omega)]
  rw[e,uY h];rfl
def Cs (n:Int)(m:Nat)(r:Bool×Int):Prop:=(n+m<=600->r=(true,n+m))/\(¬ n+m<=600->r.1=false)
theorem eQ {s:Step}{rec:Int->Block->Option (Bool×Int)}(hk:s.kids.length<=1048576)(hrec :∀c∈s.kids,∀n:Int,0<=n->n<=600->∃r,rec n c=some r/\Cs n (E3 c) r){N k:Nat}(hi:k<=s.kids.length)(hN:s.kids.length-k<N):∀n:Int,0<=n->n<=600->
  ∃r,D0 s rec N k n=some r/\(n+Lp (s.kids.drop k)<=600->r=Sum.inr (n+Lp (s.kids.drop k)))/\(¬ n+Lp (s.kids.drop k)<=600->∃m,r=Sum.inl (false,m)):=by
 refine BQ s.kids.length (λN k=>∀n:Int,0<=n->n<=600->∃r,D0 s rec N k n=some r/\(n+Lp (s.kids.drop k)<=600->r=Sum.inr (n+Lp (s.kids.drop k)))/\(¬ n+Lp (s.kids.drop k)<=600->∃m,r=Sum.inl (false,m))) ?_ ?_ hi hN
 ·intro f n h0 h1;rw[D0,CX];refine⟨_,rfl,λ_=>by simp[Lp],λh=>?_⟩;simp[Lp]at h;omega
 ·intro f k hi ih n h0 h1;obtain⟨c,hc,hcm⟩:=BX hi;obtain⟨⟨ok,m⟩,r1,r2,r3⟩:=hrec c hcm n h0 h1;rw[D0,Cj,Ao hc,uJ,r1,cm hc,uJ];by_cases h2:n+(E3 c:Int)<=600
  ·cases r2 h2;rw[uY (by simp),wI,show ((k:Int)+1)=((k+1:Nat):Int) by omega];obtain⟨r,e1,e2,e3⟩:=ih (n+E3 c) (by omega) h2;have e:n+(E3 c:Int)+Lp (s.kids.drop (k+1))=n+((E3 c+Lp (s.kids.drop (k+1)):Nat):Int):=by omega
   rw[e]at e2 e3;exact⟨r,e1,e2,e3⟩
  ·have:ok=false:=r3 h2;subst this;rw[uX (by simp)];exact⟨_,rfl,λh=>by omega,λ_=>⟨_,rfl⟩⟩
theorem We {b:Block}{rec:Int->Block->Option (Bool×Int)}{M:Nat}(hM:2000000<=M)(hl:b.steps.length<=1048576)(hk :∀s∈b.steps,s.kids.length<=1048576)(hrec :∀s∈b.steps,∀c∈s.kids,∀n:Int,0<=n->n<=600->∃r,rec n c=some r/\Cs n (E3 c) r){N i:Nat}(hi:i<=b.steps.length)(hN:b.steps.length-i<N):∀n:Int,0<=n->n<=600->
  ∃r,D1 M b rec N i n=some r/\(n+Ld (b.steps.drop i)<=600->r=Sum.inr (n+Ld (b.steps.drop i)))/\(¬ n+Ld (b.steps.drop i)<=600->∃m,r=Sum.inl (false,m)):=by
 refine BQ b.steps.length (λN i=>∀n:Int,0<=n->n<=600->∃r,D1 M b rec N i n=some r/\(n+Ld (b.steps.drop i)<=600->r=Sum.inr (n+Ld (b.steps.drop i)))/\(¬ n+Ld (b.steps.drop i)<=600->∃m,r=Sum.inl (false,m))) ?_ ?_ hi hN
 ·intro f n h0 h1;rw[D1,CX];refine⟨_,rfl,λ_=>by simp[Ld],λh=>?_⟩;simp[Ld]at h;omega
 ·intro f i hi ih n h0 h1;obtain⟨s,hs,hsm⟩:=BX hi;rw[D1,Cj,Ao hs,T6 hs,RX,uJ,wI (n:=n+1)];by_cases h2:600<n+1
  ·rw[uX (by simpa using h2)];exact⟨_,rfl,λh=>by omega,λ_=>⟨_,rfl⟩⟩
  ·rw[uY (by simpa using h2)];have hks:=hk s hsm;obtain⟨r,e1,e2,e3⟩:=eQ hks (hrec s hsm) (ue _) (by omega:s.kids.length-0<M) (n+1) (by omega) (by omega);rw[zQ]at e1;rw[vG]at e2 e3;rw[e1];by_cases h3:n+1+(Lp s.kids:Int)<=600
   ·rw[e2 h3];simp only[Sh.Kd];rw[wI,show ((i:Int)+1)=((i+1:Nat):Int) by omega];obtain⟨r',f1,f2,f3⟩:=ih _ (by omega) h3;have e:n+1+(Lp s.kids:Int)+Ld (b.steps.drop (i+1))=n+((Lp s.kids+1+Ld (b.steps.drop (i+1)):Nat):Int):=by omega
    rw[e]at f2 f3;exact⟨r',f1,f2,f3⟩
   ·obtain⟨m,hm⟩:=e3 h3;rw[hm];exact⟨_,rfl,λh=>by omega,λ_=>⟨_,rfl⟩⟩
theorem XU {N:Nat}(hN:2000000<=N):∀(f:Nat) (b:Block) (n:Int),Bs b->KF b<f->0<=n->n<=600->∃r,Ds N f n b=some r/\Cs n (E3 b) r:=by
 intro f
 induction f with
 | zero=>intro b n _ h;omega
 | succ f ih=>
  intro b n hb hn h0 h1;have hl:=hb.len;rw[Ds];unfold Ia;obtain⟨r,e1,e2,e3⟩:=We (rec:=Ds N f) hN hl (λs hs=>Nu hb hs) (λs hs c hc l l0 l1=>ih c l (MG hb hs hc).1 (by have:=(MG hb hs hc).2;omega) l0 l1) (ue _) (by omega:b.steps.length-0<N) n h0 h1;rw[zQ]at e1;rw[vG,<- N1]at e2 e3;rw[e1];by_cases h3:n+(E3 b:Int)<=600
  ·rw[e2 h3];exact⟨_,rfl,λ_=>rfl,λh=>absurd h3 h⟩
  ·obtain⟨m,hm⟩:=e3 h3;rw[hm];exact⟨_,rfl,λh=>absurd h h3,λ_=>rfl⟩
theorem Xi {b:Block}(hb:Bs b){N:Nat}(hN:2000000<=N):IH N b=some (if E3 b<=600 then (E3 b:Int) else -1):=by
 unfold IH Lg;obtain⟨⟨ok,m⟩,e1,e2,e3⟩:=XU hN N b 0 hb (by unfold Bs at hb;omega) (by decide) (by decide);rw[e1,uJ];by_cases h:E3 b<=600
 ·cases e2 (by omega);rw[uY (by simp),uX h];congr 1;omega
 ·have:ok=false:=e3 (by omega);subst this;rw[uX (by simp),uY h]
end RC
namespace RC
open Go
def Oi (o:Int):Bool:=decide (14<=o)&&decide (o<=17)
mutual
def us (v:Int):Step->Nat|.mk o _ _ a k=>if Oi o then 0 else a.countP (λx=>decide (x=v))+uk v k
def uk (v:Int):List (GX Step)->Nat|[]=>0|b::k=>ub v b+uk v k
def ub (v:Int):GX Step->Nat|⟨ss,r⟩=>(if r=v then 1 else 0)+ul v ss
def ul (v:Int):List Step->Nat|[]=>0|s::l=>us v s+ul v l
end
def ua (v:Int)(a:List Int):Nat:=a.countP λx=>decide (x=v)
theorem uG (v:Int)(a:List Int):ua v a<=a.length:=List.countP_le_length
theorem cr (o:Int):IM o=some (Oi o):=by unfold IM;rw[DD];rfl
theorem Ns (o:Int):Dh o=some (Oi o):=by
 unfold Dh Oi;by_cases h:14<=o<;>simp[h]
end RC
namespace RC
open Go
def PY (v:List Int)(a:Int):Option Int:=if 0<=a/\a<(v.length:Int) then v[a.toNat]? else none
def DO (v:List Int):List Int->Option (List Int)
 | []=>some []
 | a::r=>(PY v a).bind λt=>(DO v r).map (t::·)
theorem Yo {v:List Int}{a:Int}(h0:0<=a)(h1:a<(v.length:Int)):∃t,PY v a=some t/\Sh.get v a=some t/\t∈v:=by
 obtain⟨t,g1,g2⟩:=PZ h0 h1;exact⟨t,by unfold PY;rw[uX ⟨h0,h1⟩,g2],g1,uL g2⟩
theorem gx {v:List Int}{a:Int}(h:¬ (0<=a/\a<(v.length:Int))):PY v a=none:=uY h
theorem PB {v:List Int}:∀{args l:List Int},DO v args=some l↔args.length=l.length/\∀(i:Nat) a,args[i]?=some a->PY v a=l[i]?/\(PY v a).isSome=true
 | [],l=>by
  simp only[DO,uO,vl];constructor
  ·rintro rfl;simp
  ·rintro⟨h,_⟩;exact (vM h.symm).symm
 | a::r,l=>by
  simp only[DO];constructor
  ·intro h;obtain⟨t,h1,h2⟩:=vO.1 h;obtain⟨m,h3,rfl⟩:=uR.1 h2;obtain⟨h4,h5⟩:=PB.1 h3;refine⟨by simp[h4],λi b hb=>?_⟩;cases i with
   | zero=>simp only[vC,uO]at hb⊢;subst hb;rw[h1];simp
   | succ i=>simpa using h5 i b (by simpa using hb)
  ·rintro⟨h1,h2⟩;cases l with
   | nil=>simp at h1
   | cons t m=>
    have h3:=h2 0 a rfl;simp only[vC]at h3;have h4:DO v r=some m:=PB.2 ⟨by simpa using h1,λi b hb=>by have:=h2 (i+1) b (by simpa using hb);simpa using this⟩;rw[h3.1,h4];rfl
theorem Mf {v args types:List Int}(hv:v.length<=1048576)(ha:args.length<=1048576){N:Nat}(hN:2000000<=N):CG N v args types=some (decide (DO v args=some types)):=by
 unfold CG;by_cases h:args.length=types.length
 ·rw[uY (by simp[Ah,h]),DU (l:=args) (Ih v args types) (λi a=>decide (PY v a=types[i]?/\(PY v a).isSome=true)) (λn=>by rw[Ih,CX]) (λn i a hi=>?_) (by omega),EC]
  ·have:Eb (λi a=>decide (PY v a=types[i]?/\(PY v a).isSome=true)) 0 args=decide (DO v args=some types):=by
    rw[yG,P3,xD,PB];constructor
    ·intro g;exact⟨h,λi a ha=>by have:=g i a ha;rw[xD,vd]at this;exact this⟩
    ·rintro⟨_,g⟩ i a ha;rw[xD,vd];exact g i a ha
   rw[this];cases decide (DO v args=some types)<;>rfl
  ·have hil:=(uK.1 hi).1;obtain⟨t,ht,_⟩:=BX (l:=types) (i:=i) (by omega);rw[Ih,Cj,Ao hi,uJ,DD,Ah,wI (n:=(v.length:Int)-1),wI (n:=(i:Int)+1),show ((i:Int)+1)=((i+1:Nat):Int) by omega,uJ];by_cases hr:0<=a/\a<(v.length:Int)
   ·obtain⟨x,x1,x2,_⟩:=Yo hr.1 hr.2;have hr2:a<=(v.length:Int)-1:=by omega
    rw[x1,x2,Ao ht,ht];by_cases q:x=t<;>simp[hr.1,hr2,q]
   ·rw[gx hr];have:(decide (0<=a)&&decide (a<=(v.length:Int)-1))=false:=by
     rw[ve,uW,uW];omega
    rw[this];simp
 ·have h1:¬ ((args.length:Int)=(types.length:Int)):=by omega
  have h2:¬ DO v args=some types:=λq=>h (PB.1 q).1;simp[Ah,h1,h2]
theorem jG {v:List Int}{s:Step}(hv:v.length<=1048576)(ha:s.args.length<=1048576){N:Nat}(hN:2000000<=N):
  Bt v s N 0 []=some ((DO v s.args).elim (.inl (-1,false)) .inr):=by
 have key:∀{M i:Nat},i<=s.args.length->s.args.length-i<M->∀acc:List Int,acc.length=i->Bt v s M i acc=some ((DO v (s.args.drop i)).elim (.inl (-1,false)) λl=>.inr (acc++l)):=by
  intro M i hi hM;refine BQ s.args.length (λM i=>∀acc:List Int,acc.length=i->Bt v s M i acc=some ((DO v (s.args.drop i)).elim (.inl (-1,false)) λl=>.inr (acc++l))) ?_ ?_ hi hM
  ·intro n acc _;rw[Bt,CX,xA];simp[DO]
  ·intro n i hi ih acc hacc;obtain⟨a,hx,_⟩:=BX hi;rw[Bt,Cj,Ao hx,drop_cons hx];simp only[uJ,DO,Ah];by_cases hr:0<=a/\a<(v.length:Int)
   ·obtain⟨x,x1,x2,_⟩:=Yo hr.1 hr.2;have r1:¬ a<0:=by omega
    have r2:¬ (v.length:Int)<=a:=by omega
    rw[x1,x2];simp only[r1,r2,vA,uN,uf,uJ];rw[BU acc [x] 8 (by simp;omega) (by simp;omega),wI,show ((i:Int)+1)=((i+1:Nat):Int) by omega,uJ,ih (acc++[x]) (by simp[hacc])];cases DO v (s.args.drop (i+1))<;>simp
   ·rw[gx hr];by_cases r1:a<0
    ·simp[r1]
    ·have r2:(v.length:Int)<=a:=by omega
     simp[r1,r2]
 have:=key (ue _) (by omega:s.args.length-0<N) [] rfl;simpa using this
section
variable {D : List AP} {G : List Aw} {ks : List Int} {op num : Int} {N : Nat}
theorem cD (h:op=0):Ak N ⟨D,G⟩ op num ks=some (0,(decide (-999<=num)&&decide (num<=999))&&decide (ks=[])):=by
 unfold Ak;simp only[h,vB,vH,len_nil];by_cases a:-999<=num<;>by_cases b:num<=999<;>simp[a,b,Sh.cont]
theorem S8 (hk:ks.length<=1048576)(hN:2000000<=N)(h:op=1∨op=2∨op=3∨op=4):Ak N ⟨D,G⟩ op num ks=some (0,decide (num=0)&&decide (ks=[0,0])):=by
 unfold Ak;have e3:DR N ks [0,0]=some (decide (ks=[0,0])):=RE hk hN;rcases h with h|h|h|h<;>simp only[h,Int.reduceEq,vB,vA,uN,vH,uf,uJ,Sh.Kd]<;>rw[e3]<;>by_cases a:num=0<;>simp[a]
theorem Tb (hk:ks.length<=1048576)(hN:2000000<=N)(h:op=5):Ak N ⟨D,G⟩ op num ks=some (0,decide (num=0)&&decide (ks=[0])):=by
 unfold Ak;simp only[h,Int.reduceEq,vB,vA,uN,vH,uf,uJ,Sh.Kd];rw[RE hk hN];by_cases a:num=0<;>simp[a]
theorem Tt {F:List Kf}(S:QT D F)(hk:ks.length<=1048576)(hI:Mm num)(hN:2000000<=N)(h:op=6):
  (∃t x,0<t/\Dg D t=true/\(∀y∈x,0<=y)/\Dp N D num=some t/\CK N D num=some x/\Ak N ⟨D,G⟩ op num ks=some (t,decide (ks=x)))∨
  (Dp N D num=some (-1)/\Ak N ⟨D,G⟩ op num ks=some (-1,false)):=by
 have hD:=S.RO;have hn:=S.nc;by_cases hr:0<=num/\num<(nc D:Int)
 ·obtain⟨c,hc⟩:=vu hr.1;have hc2:c<nc D:=by omega
  obtain⟨t,x,e1,e2⟩:=Ql (D:=D) (by omega) (by omega) hc2 hN;obtain⟨t',x',e1',e3⟩:=MV (D:=D) (by omega) (by omega) hc2 hN;obtain⟨t'',x'',e1'',e4⟩:=Tf (D:=D) (by omega) (by omega) hc2 hN;rw[e1]at e1' e1'';cases e1';cases e1'';obtain⟨g1,g2,d,g3,g4⟩:=Tu e1;have hx:=S.Qr d g3 x g4;refine .inl ⟨(t:Int),x.fields,by omega,by unfold Dg;simp;omega,λy hy=>(P6 (hx.2 y hy)).1,by rw[hc,e2],by rw[hc,e3],?_⟩;unfold Ak;simp only[h,Int.reduceEq,vB,vA,uN,vH,uf,uJ];rw[hc,e4,uJ,RE hk hN,uX (by simp)];simp[Sh.cont]
 ·refine .inr ⟨QH (by omega) (by omega) (by omega) hN,?_⟩;unfold Ak;simp only[h,Int.reduceEq,vB,vA,uN,vH,uf,uJ];rw[X3 (by omega) (by omega) hI (by omega) hN];simp[Sh.cont]
theorem Y6 {f:Aw}(hk:ks.length<=1048576)(hG:G.length<=4)(hN:2000000<=N)(h:op=9)(f0:0<=num)(f1:num<(G.length:Int))(f5:Sh.get G num=some f):Ak N ⟨D,G⟩ op num ks=some (f.result,decide (ks=f.params)):=by
 have f0':¬ num<0:=by omega
 have f1':¬ (G.length:Int)<=num:=by omega
 unfold Ak;simp only[h,Int.reduceEq,vB,vA,uN,vH,uf,uJ,Ah,f0',f1'];rw[f5,uJ,RE hk hN];simp[Sh.cont]
theorem S3 {f:Aw}(hk:ks.length<=1048576)(hD:D.length<=4)(hG:G.length<=4)(hp:f.params.length<=3)(hN:2000000<=N)(h:op=10)(f0:0<=num)(f1:num<(G.length:Int))(f5:Sh.get G num=some f):
  (f.params=[]/\Ak N ⟨D,G⟩ op num ks=some (-1,false))∨
  (∃m x,f.params.length=m+1/\f.params[m]?=some x/\Ak N ⟨D,G⟩ op num ks=some (Ku x f.result D 0,decide (0<=Ku x f.result D 0)&&decide (ks=f.params.take m))):=by
 have f0':¬ num<0:=by omega
 have f1':¬ (G.length:Int)<=num:=by omega
 by_cases hp0:f.params.length=0
 ·refine .inl ⟨vM hp0,?_⟩;unfold Ak;simp only[h,Int.reduceEq,vB,vA,uN,vH,uf,uJ,Ah,f0',f1'];rw[f5];simp only[uJ,hp0];rw[wI];simp[Sh.cont]
 ·obtain⟨m,hm⟩ :∃m,f.params.length=m+1:=⟨f.params.length-1,by omega⟩
  obtain⟨x,hx,hxm⟩:=BX (l:=f.params) (i:=m) (by omega);have hw:Sh.w ((f.params.length:Int)-1)=(m:Int):=by rw[wI];omega
  have hm0:¬ ((m:Int)<0):=by omega
  refine .inr ⟨m,x,hm,hx,?_⟩;unfold Ak;simp only[h,Int.reduceEq,vB,vA,uN,vH,uf,uJ,Ah,f0',f1'];rw[f5];simp only[uJ,hw,hm0,vA,uN,uf];rw[Ao hx];simp only[uJ];rw[XW (by omega) hN,gU (by omega)];simp only[uJ];rw[RE hk hN];by_cases z:0<=Ku x f.result D 0<;>simp[z,Sh.cont]
theorem OA (hG:G.length<=4)(h:op=9∨op=10)(hr:num<0∨(G.length:Int)<=num):Ak N ⟨D,G⟩ op num ks=some (-1,false):=by
 unfold Ak;rcases h with h|h<;>simp only[h,Int.reduceEq,vB,vA,uN,vH,uf,uJ,Ah]<;>rcases hr with hr|hr
 ·simp[hr,Sh.cont]
 ·have:¬ num<0:=by omega
  simp[hr,this,Sh.cont]
 ·simp[hr,Sh.cont]
 ·have:¬ num<0:=by omega
  simp[hr,this,Sh.cont]
theorem TD (hD:D.length<=4)(h:op=11){a b:Int}(hk:ks=[a,b]):Ak N ⟨D,G⟩ op num ks=some ((NS D a).elim (0,false) λd=>(d.to,decide (b=d.from_/\num=0))):=by
 subst hk;unfold Ak;simp only[h,Int.reduceEq,vB,vA,uN,vH,uf,uJ,Ah,vD,vl];rw[show Sh.get [a,b] 0=some a from rfl,show Sh.get [a,b] 1=some b from rfl,uJ,RA (by omega),uJ];cases hA:NS D a with
 | none=>simp[Sh.cont]
 | some d=>by_cases c1:b=d.from_<;>by_cases c2:num=0<;>simp[c1,c2,Sh.cont]
theorem PK (h:op=11)(hk:¬ ks.length=2):Ak N ⟨D,G⟩ op num ks=some (-1,false):=by
 have hk':¬ ((ks.length:Int)=2):=by omega
 unfold Ak;simp only[h,Int.reduceEq,vB,vA,uN,vH,uf,uJ,Ah,hk'];simp[Sh.cont]
theorem fC (h:op<0∨11<op∨op=7∨op=8):Ak N ⟨D,G⟩ op num ks=some (-1,false):=by
 unfold Ak;simp only[show ¬ op=0 by omega,show ¬ op=1 by omega,show ¬ op=2 by omega,show ¬ op=3 by omega,show ¬ op=4 by omega,show ¬ op=5 by omega,show ¬ op=6 by omega,show ¬ op=9 by omega,show ¬ op=10 by omega,show ¬ op=11 by omega,vA,uN,uf,uJ];simp[Sh.cont]
end
end RC
namespace RC
open Go
def CL (n:AL):Ap:=⟨n.decls,n.AF.map λr=>⟨r.params,r.Aq,r.result⟩⟩
def UX (r:Ad):Kf:=⟨r.params,r.result,.mk 0 0 []⟩
abbrev Ji (n:AL):Prop:=QT n.decls (n.AF.map UX)
theorem IZ {n:AL}:(CL n).funcs.length=n.AF.length:=by show (n.AF.map _).length=_;simp
theorem Ji.S5 {n:AL}(S:Ji n):n.AF.length<=4:=by have:=S.rS;simpa using this
theorem Vd {n:AL}(S:Ji n)(k:Int):(∃r,0<=k/\k<(n.AF.length:Int)/\Sh.get n.AF k=some r/\Sh.get (CL n).funcs k=some ⟨r.params,r.Aq,r.result⟩/\r.params.length<=3/\(∀t∈r.params,Dg n.decls t=true)/\Dg n.decls r.result=true)∨(k<0∨(n.AF.length:Int)<=k):=by
 by_cases h:0<=k/\k<(n.AF.length:Int)
 ·obtain⟨r,h1,h2⟩:=PZ h.1 h.2;have hm:=uL h2;obtain⟨q1,q2,q3⟩:=S.kX (UX r) (xc hm);refine .inl ⟨r,h.1,h.2,h1,?_,q1,q2,q3⟩;rw[Nv h.1];show ((n.AF.map λr=>(⟨r.params,r.Aq,r.result⟩:Aw)))[k.toNat]?=_;rw[uP,h2];rfl
 ·exact .inr (by omega)
theorem ck {γ:Type}{bad:γ}{ts:List Int}(L:Nat->Int->Int->Option (γ ⊕ Int))(h0 :∀n r,L (n+1) r (ts.length:Int)=some (.inr r))
  (hs :∀n (i:Nat) r t,ts[i]?=some t->L (n+1) r (i:Int)=if t<0∨(0<i/\t≠r) then some (.inl bad) else L n t ((i+1:Nat):Int)) {N:Nat} (hN:ts.length<N) (hne:ts≠[]) (hty :∀t∈ts,t<0->t=-1) (r0:Int) :
  L N r0 0=some (if IJ ts<0 then .inl bad else .inr (IJ ts)):=by
 have rest:∀(d i n:Nat) (r:Int),0<=r->ts.length-i=d->0<i->i<=ts.length->d<n->L n r i=some (if (ts.drop i).all (λx=>decide (x=r))=true then .inr r else .inl bad):=by
  intro d
  induction d with
  | zero=>
   intro i n r _ h1 h2 h3 h4;obtain⟨n,rfl⟩ :∃q,n=q+1:=⟨n-1,by omega⟩
   rw[show i=ts.length by omega,h0,xA];rfl
  | succ d ih=>
   intro i n r hr h1 h2 h3 h4;obtain⟨n,rfl⟩ :∃q,n=q+1:=⟨n-1,by omega⟩
   obtain⟨t,ht,_⟩:=BX (l:=ts) (i:=i) (by omega);rw[hs n i r t ht,drop_cons ht,xT];by_cases h5:t=r
   ·subst h5;rw[uY (by rintro (h|h);omega;exact h.2 rfl),ih (i+1) n _ hr (by omega) (by omega) (by omega) (by omega)];simp
   ·rw[uX (.inr ⟨h2,h5⟩)];simp[h5]
 cases hts:ts with
 | nil=>exact absurd hts hne
 | cons t r=>
  obtain⟨n,hn⟩ :∃q,N=q+1:=⟨N-1,by omega⟩
  have h1:=hs n 0 r0 t (by rw[hts];rfl);rw[zQ]at h1;have hpos:1<=ts.length:=by rw[hts];simp
  rw[hn,h1];by_cases h2:t<0
  ·have:=hty t (by rw[hts];simp) h2;subst this;have ho:IJ (-1::r)=-1:=by
    show (if (r.all λx=>decide (x=-1))=true then (-1:Int) else -1)=-1;split<;>rfl
   rw[uX (.inl h2),ho,uX (by omega)]
  ·rw[uY (by rintro (h|h);exact h2 h;exact absurd h.1 (yY _)),rest _ 1 n t (by omega) rfl (by omega) hpos (by omega),hts,yI,vG];by_cases h3:r.all (λx=>decide (x=t))=true
   ·have ho:IJ (t::r)=t:=uX h3;rw[uX h3,ho,uY h2]
   ·have ho:IJ (t::r)=-1:=uY h3;rw[uY h3,ho,uX (by omega)]
theorem cj {ts:List Int}:IJ ts=-1∨IJ ts∈ts:=by
 cases ts with
 | nil=>exact .inl rfl
 | cons t r=>
  unfold IJ;dsimp only;split
  ·exact .inr (by simp)
  ·exact .inl rfl
def Ss (n:AL)(R1:AL->List Int->Block->Option Int)(R2:Ap->List Int->Block->Option Int)(T:List Int->Block->Int)(m:Nat):Prop:=
 ∀(v:List Int) (b:Block),Lt b->Bs b->E3 b<m->v.length+4*E3 b<=4000->(∀x∈v,Dg n.decls x=true)->R1 n v b=some (T v b)/\R2 (CL n) v b=some (T v b)/\(T v b=-1∨Dg n.decls (T v b)=true)
structure SK (n:AL) (s:Step) (v:List Int):Prop where
 ay:Kg s
 size:Py s<=1048576
 len:v.length+4*SW s<=4000
 lS :∀x∈v,Dg n.decls x=true
theorem gr {k:List Block}{b:Block}(h:b∈k):E3 b<=Lp k:=by
 induction k with
 | nil=>cases h
 | cons c k ih=>
  simp only[Lp];rcases uz.1 h with rfl|h
  ·omega
  ·have:=ih h;omega
theorem Xu {N:Nat}{a b:List Int}(ha:a.length<=4000)(hb:b.length<=4000)(hN:2000000<=N):Dk N [a,b]=some (a++b):=by
 obtain⟨n,rfl⟩ :∃n,N=n+3:=⟨N-3,by omega⟩
 unfold Dk;have e1:Cw [a,b] (n+3) 0 0=some ((a.length+b.length:Nat):Int):=by
  rw[Cw,uX (by simp[Ah]),show Sh.get [a,b] 0=some a from rfl,uJ,Ah,wI (n:=(0:Int)+1),wI,uY (by rw[uj];omega)];rw[Cw,uX (by simp[Ah]),show Sh.get [a,b] (0+1)=some b from rfl,uJ,Ah,wI (n:=(0:Int)+1+1),wI,uY (by rw[uj];omega)];rw[Cw,uY (by simp[Ah])];congr 1;omega
 have e2:Cv [a,b] (n+3) 0 []=some (a++b):=by
  rw[Cv,uX (by simp[Ah]),show Sh.get [a,b] 0=some a from rfl,uJ,BU [] a 8 (by simp;omega) (by simp;omega),wI (n:=(0:Int)+1)];simp only[uJ,vh];rw[Cv,uX (by simp[Ah]),show Sh.get [a,b] (0+1)=some b from rfl,uJ,BU a b 8 (by omega) (by omega),cJ (n:=(0:Int)+1+1) (by omega) (by omega),uJ,Cv,uY (by simp[Ah])]
 have e3:Hi ((a.length+b.length:Nat):Int)=some []:=by
  unfold Hi;rw[uY (by simp;omega),wI (n:=(0:Int)-0),wI];by_cases h:0<a.length+b.length
  ·rw[uX (by simp;omega),show (((a.length+b.length:Nat):Int)-(0-0))=((a.length+b.length:Nat):Int) by omega,PR _ _ _ (by omega) (by omega),uJ];have:=sn (l:=List.replicate (a.length+b.length) (0:Int)) (j:=0) (by omega);rw[zQ]at this;rw[this];rfl
  ·rw[uY (by simp;omega)];rfl
 rw[e1,uJ,e3,uJ];rw[e2];rfl
section
variable {n : AL} {R1 : AL -> List Int -> Block -> Option Int} {R2 : Ap -> List Int -> Block -> Option Int} {T : List Int -> Block -> Int} {s : Step} {v : List Int} {N : Nat}
theorem SK.Ov (V:SK n s v):v.length<=4000:=by have:=V.len;omega
theorem SK.KK (V:SK n s v):s.args.length<=1048576:=by have:=V.size;rw[O8]at this;omega
theorem dy (H:Ss n R1 R2 T (SW s))(V:SK n s v){b:Block}(hb:b∈s.kids){m:List Int}(hm:m.length<=3)(ht :∀x∈m,Dg n.decls x=true):
  R1 n (v++m) b=some (T (v++m) b)/\R2 (CL n) (v++m) b=some (T (v++m) b)/\(T (v++m) b=-1∨Dg n.decls (T (v++m) b)=true):=by
 have h1:=gr hb;have h2:=RX s;have h3:=Rv hb;have h4:=V.size;have h5:=V.len;refine H (v++m) b (V.ay.kids b hb) (by unfold Bs;omega) (by omega) (by rw[uu];omega) λx hx=>?_;rcases vJ.1 hx with h|h
 ·exact V.lS x h
 ·exact ht x h
def LF (T:List Int->Block->Int)(v:List Int)(ms:List (List Int))(ks:List Block):List Int:=List.zipWith (λm k=>T (v++m) k) ms ks
theorem ZF {ms:List (List Int)}{ks:List Block}{i:Nat}{m:List Int}{k:Block}(h1:ms[i]?=some m)(h2:ks[i]?=some k):(LF T v ms ks)[i]?=some (T (v++m) k):=by
 unfold LF;rw[List.getElem?_zipWith,h1,h2]
theorem Yp (H:Ss n R1 R2 T (SW s))(V:SK n s v){ms:List (List Int)}(hm :∀m∈ms,m.length<=3/\∀x∈m,Dg n.decls x=true):∀t∈LF T v ms s.kids,t=-1∨Dg n.decls t=true:=λt ht=>by
 obtain⟨i,hi⟩:=vF.1 ht;unfold LF at hi;rw[List.getElem?_zipWith]at hi;cases h1:ms[i]? with
 | none=>rw[h1]at hi;simp at hi
 | some m=>
  cases h2:s.kids[i]? with
  | none=>rw[h1,h2]at hi;simp at hi
  | some k=>
   rw[h1,h2]at hi;simp only[uO]at hi;subst hi;obtain⟨q1,q2⟩:=hm m (uL h1);exact (dy H V (uL h2) q1 q2).2.2
theorem Ri (H:Ss n R1 R2 T (SW s))(V:SK n s v)(hN:2000000<=N){ms:List (List Int)}(hl:ms.length=s.kids.length)(hne:ms≠[])(hml:ms.length<=10)(hm :∀m∈ms,m.length<=3/\∀x∈m,Dg n.decls x=true):
  Cx N R2 (CL n) v s.kids ms=some (if IJ (LF T v ms s.kids)<0 then (-1,false) else (IJ (LF T v ms s.kids),true)):=by
 unfold Cx;have hkl:(LF T v ms s.kids).length=s.kids.length:=by unfold LF;simp[hl]
 rw[ck (bad:=(-1,false)) (ts:=LF T v ms s.kids) (Ct N (CL n) v s.kids ms R2) (λq r=>by rw[Ct,uY (by simp[Ah,hkl])]) (λq i r t ht=>?_) (by omega) (λq=>by have:=vI List.length q;rw[hkl,<- hl]at this;exact hne (vM (by simpa using this))) (λt ht hn=>by rcases Yp H V hm t ht with q|q;exact q;have:=(P6 q).1;omega) (-1)]
 ·by_cases h:IJ (LF T v ms s.kids)<0<;>simp[h,Sh.cont]
 ·have hi:=(uK.1 ht).1;obtain⟨m,h1,hmm⟩:=BX (l:=ms) (i:=i) (by omega);obtain⟨k,h2,hkm⟩:=BX (l:=s.kids) (i:=i) (by omega);rw[ZF h1 h2]at ht;simp only[uO]at ht;subst ht;obtain⟨q1,q2⟩:=hm m hmm;rw[Ct,Cj,Ao h2,uJ,Ao h1,uJ];have hvl:=V.Ov;have hc:Dk N [v,m]=some (v++m):=Xu hvl (by omega) hN;rw[hc,uJ,(dy H V hkm q1 q2).2.1,wI,show ((i:Int)+1)=((i+1:Nat):Int) by omega,uJ];by_cases c1:T (v++m) k<0
  ·simp[c1]
  ·by_cases c2:0<i
   ·by_cases c3:T (v++m) k=r
    ·have c1':¬ r<0:=c3▸c1;simp[c1',c2,c3]
    ·simp[c1,c2,c3]
   ·simp[c1,c2]
theorem Zc (H:Ss n R1 R2 T (SW s))(V:SK n s v)(S:Ji n)(hN:2000000<=N){ms:List (List Int)}(h:(s.op=7/\ms=[[],[]])∨(s.op=8/\ms=(Fc n.decls s.num).map (Pb n.decls))):
  Ha N R1 n v s=some (if ms=[]∨¬ s.kids.length=ms.length then -1 else IJ (LF T v ms s.kids)):=by
 have hD:=S.RO;have hn:=S.nc;have hvl:=V.Ov;have hcl:=Pe S.ZV s.num;unfold Ha;rw[SD (by omega) (by omega) hN,uJ];have hmany:(if decide (s.op=7)=true then some (2:Int) else some (Sh.len (Fc n.decls s.num)))=some (ms.length:Int):=by
  rcases h with ⟨h1,h2⟩|⟨h1,h2⟩
  ·rw[h2];simp[h1]
  ·rw[h2];simp[h1,Ah]
 rw[hmany];simp only[uJ,Ah];by_cases h0:ms=[]
 ·have eg:(if ms=[]∨¬ s.kids.length=ms.length then (-1:Int) else IJ (LF T v ms s.kids))=-1:=uX (.inl h0);rw[eg];simp[h0]
 ·have h0':¬ ((ms.length:Int)=0):=λq=>h0 (vM (by omega));by_cases hl:s.kids.length=ms.length
  ·have hl':((s.kids.length:Int)=(ms.length:Int)):=by omega
   have eg:(if ms=[]∨¬ s.kids.length=ms.length then (-1:Int) else IJ (LF T v ms s.kids))=IJ (LF T v ms s.kids):=uY (by rintro (q|q);exact h0 q;exact q hl);rw[eg];simp only[h0',hl',vA,vB,vT,uN,uf,uJ];have hkl:(LF T v ms s.kids).length=s.kids.length:=by unfold LF;simp[hl]
   have hml:ms.length<=3:=by rcases h with ⟨_,h2⟩|⟨_,h2⟩<;>rw[h2]<;>simp;exact hcl
   have hm:∀m∈ms,m.length<=3/\∀x∈m,Dg n.decls x=true:=λm hm=>by
    rcases h with ⟨_,h2⟩|⟨_,h2⟩
    ·rw[h2]at hm;simp at hm;subst hm;simp
    ·rw[h2]at hm;obtain⟨c,hc,rfl⟩:=uw.1 hm;exact (Re S hc hN).2.2
   rw[ck (bad:=(-1:Int)) (ts:=LF T v ms s.kids) (Gq N (ms.length:Int) n v s (Fc n.decls s.num) R1) (λq r=>by rw[Gq,uY (by simp;omega)]) (λq i r t ht=>?_) (by omega) (λq=>by have:=vI List.length q;rw[hkl,hl]at this;exact h0 (vM (by simpa using this))) (λt ht hn=>by rcases Yp H V hm t ht with q|q;exact q;have:=(P6 q).1;omega) 0]
   ·by_cases q:IJ (LF T v ms s.kids)<0
    ·have:IJ (LF T v ms s.kids)=-1:=by
      rcases cj (ts:=LF T v ms s.kids) with z|z
      ·exact z
      ·rcases Yp H V hm _ z with y|y
       ·exact y
       ·have:=(P6 y).1;omega
     rw[this];simp[Sh.cont]
    ·simp[q,Sh.cont]
   ·have hi:=(uK.1 ht).1;obtain⟨m,h1,hmm⟩:=BX (l:=ms) (i:=i) (by omega);obtain⟨k,h2,hkm⟩:=BX (l:=s.kids) (i:=i) (by omega);rw[ZF h1 h2]at ht;simp only[uO]at ht;subst ht;obtain⟨q1,q2⟩:=hm m hmm;have hin:(if decide (s.op=8)=true then (Sh.get (Fc n.decls s.num) i).bind λc43=>(CK N n.decls c43).bind λq44=>(IC v q44).bind λq45=>some q45 else some v)=some (v++m):=by
     rcases h with ⟨o1,o2⟩|⟨o1,o2⟩
     ·have:m=[]:=by rw[o2]at hmm;simpa using hmm
      simp[o1,this]
     ·rw[o2]at h1;rw[uP,uR]at h1;obtain⟨c,hc,rfl⟩:=h1;simp only[o1,vB,vH];rw[Ao hc,uJ,(Re S (uL hc) hN).1,uJ];unfold IC DB;rw[BU [] v 8 (by simp;omega) (by simp;omega)];simp only[uJ,vh];rw[BU _ _ 8 (by omega) (by omega)];rfl
    rw[Gq,uX (by simp;omega),hin,Ao h2];simp only[uJ];rw[(dy H V hkm q1 q2).1,wI,show ((i:Int)+1)=((i+1:Nat):Int) by omega];simp only[uJ];by_cases c1:T (v++m) k<0
    ·simp[c1]
    ·by_cases c2:0<i
     ·by_cases c3:T (v++m) k=r
      ·have c1':¬ r<0:=c3▸c1;simp[c1',c2,c3]
      ·simp[c1,c2,c3]
     ·simp[c1,c2]
  ·have hl':¬ ((s.kids.length:Int)=(ms.length:Int)):=by omega
   have eg:(if ms=[]∨¬ s.kids.length=ms.length then (-1:Int) else IJ (LF T v ms s.kids))=-1:=uX (.inr hl);rw[eg];simp[h0,h0',hl']
theorem TY (S:Ji n)(hN:2000000<=N)(t:Int):Cc N (CL n) t=some ((Fc n.decls t).map (Pb n.decls)):=by
 have hD:=S.RO;have hn:=S.nc;have hcl:=Pe S.ZV t;unfold Cc;rw[show (CL n).decls=n.decls from rfl,YD (by omega) (by omega) hN,uJ];have hm:∀c∈Fc n.decls t,Ik N n.decls c=some (Pb n.decls c):=λc hc=>(Re S hc hN).2.1;generalize Fc n.decls t=C at hcl hm;have key:∀{M i:Nat},i<=C.length->C.length-i<M->CI N (CL n) C M i ((C.take i).map (Pb n.decls))=some (C.map (Pb n.decls)):=by
  intro M i hi hM;refine BQ C.length (λM i=>CI N (CL n) C M i ((C.take i).map (Pb n.decls))=some (C.map (Pb n.decls))) ?_ ?_ hi hM
  ·intro q;rw[CI,CX,vp]
  ·intro q i hi ih;obtain⟨c,hc,hcm⟩:=BX hi;rw[CI,Cj,Ao hc,uJ,show (CL n).decls=n.decls from rfl,hm c hcm,uJ,BU _ _ _ (by simp;omega) (by simp;omega),wI,show ((i:Int)+1)=((i+1:Nat):Int) by omega,uJ];rw[<- ih,Ep hc,vx];rfl
 have:=key (ue _) (by omega:C.length-0<N);rw[zQ,yO,wW]at this;rw[this];rfl
end
end RC
namespace RC
open Go
def Cr (N:Nat)(zX:AL->(List Int)->Block->Option (Int))(p0:AL)(p1:(List Int))(p2:Step):Option (Int):=
 Sh.cont (
  if (decide (p2.op=0))=true then
   (
    if (decide ((Sh.len p2.args)=0))=true then
     (Bq p2.num (-999) 999).bind λq20=>
     some q20
    else
     some false
   ).bind λt15=>
   if t15=true then
    some (Sum.inl 0)
   else
    some (Sum.inr ())
  else
   (
    if (decide (p2.op=1))=true then
     some true
    else
    if (decide (p2.op=2))=true then
     some true
    else
    if (decide (p2.op=3))=true then
     some true
    else
     some (decide (p2.op=4))
   ).bind λt22=>
   if t22=true then
    (CG N p1 p2.args [(0:Int),0]).bind λq26=>
    if q26=true then
     some (Sum.inl 0)
    else
     some (Sum.inr ())
   else
   if (decide (p2.op=5))=true then
    (CG N p1 p2.args [(0:Int)]).bind λq32=>
    if q32=true then
     some (Sum.inl 0)
    else
     some (Sum.inr ())
   else
   if (decide (p2.op=6))=true then
    (
     Option.bind (Dp N p0.decls p2.num) λq43=>
     if (decide (0<q43))=true then
      (CK N p0.decls p2.num).bind λq45=>
      (CG N p1 p2.args q45).bind λq46=>
      some q46
     else
      some false
    ).bind λt38=>
    if t38=true then
     (Dp N p0.decls p2.num).bind λq42=>
     some (Sum.inl q42)
    else
     some (Sum.inr ())
   else
   if (decide (p2.op=7))=true then
    (CG N p1 p2.args [(0:Int)]).bind λq50=>
    if q50=true then
     (Ha N zX p0 p1 p2).bind λq53=>
     some (Sum.inl q53)
    else
     some (Sum.inr ())
   else
   if (decide (p2.op=8))=true then
    (CG N p1 p2.args [p2.num]).bind λq57=>
    if q57=true then
     (Ha N zX p0 p1 p2).bind λq60=>
     some (Sum.inl q60)
    else
     some (Sum.inr ())
   else
    (
     if (decide (p2.op=9))=true then
      some true
     else
      some (decide (p2.op=10))
    ).bind λt62=>
    if t62=true then
     (Fo N p0 p1 p2).bind λq66=>
     some (Sum.inl q66)
    else
    if (decide (p2.op=11))=true then
     (
      if (decide ((Sh.len p2.args)=2))=true then
       (Sh.get p2.args 0).bind λc79=>
       (Bq c79 0 (Sh.w ((Sh.len p1)-1))).bind λq80=>
       if q80=true then
        (Sh.get p1 c79).bind λc82=>
        (JW p0.decls c82).bind λq83=>
        some q83
       else
        some false
      else
       some false
     ).bind λt70=>
     if t70=true then
      (Sh.get p2.args 0).bind λc74=>
      (Sh.get p1 c74).bind λc75=>
      (Sh.get p0.decls (Sh.w (c75-1))).bind λc76=>
      (Sh.sl p2.args 1 (Sh.len p2.args)).bind λl79=>
      (CG N p1 l79 [c76.from_]).bind λq80=>
      if q80=true then
       some (Sum.inl c76.to)
      else
       some (Sum.inr ())
     else
      some (Sum.inr ())
    else
     (
      if (decide (p2.op=14))=true then
       some true
      else
      if (decide (p2.op=15))=true then
       some true
      else
      if (decide (p2.op=16))=true then
       some true
      else
       some (decide (p2.op=17))
     ).bind λt85=>
     if t85=true then
      (HF p0 p1 p2).bind λq89=>
      some (Sum.inl q89)
     else
      some (Sum.inr ())
 ) (id) λ()=>
 some (-1)
def Df (N:Nat)(zV:Ap->(List Int)->Block->Option (Int))(p0:Ap)(p1:(List Int))(p2:Step)(l8:List Int):Option (Int×Bool):=
 (Dh p2.op).bind λq18=>
 if q18=true then
  (
   if (decide ((Sh.len l8)=1))=true then
    (Sh.get l8 0).bind λc38=>
    if (!decide (c38=0))=true then
     if (decide (p2.num=0))=true then
      some (decide ((Sh.len p2.kids)=0))
     else
      some false
    else
     some false
   else
    some false
  ).bind λok21=>
  (
   Option.bind (
    if ok21=true then
     if (decide (p2.op=16))=true then
      some true
     else
      some (decide (p2.op=17))
    else
     some false
   ) λt28=>
   if t28=true then
    (Sh.get l8 0).bind λc32=>
    (JQ p0.decls c32).bind λq33=>
    some (!q33.2)
   else
    some ok21
  ).bind λok24=>
  some (-1,ok24)
 else
 if (decide (p2.op=7))=true then
  (
   if (!decide ((Sh.len l8)=1))=true then
    some true
   else
    (Sh.get l8 0).bind λc53=>
    if (!decide (c53=0))=true then
     some true
    else
    if (!decide (p2.num=0))=true then
     some true
    else
     some (!decide ((Sh.len p2.kids)=2))
  ).bind λt45=>
  if t45=true then
   some (-1,false)
  else
   (Sh.mk [] 2 24).bind λl50=>
   (Cx N zV p0 p1 p2.kids l50).bind λq51=>
   some (q51.1,q51.2)
 else
 if (decide (p2.op=8))=true then
  (Cc N p0 p2.num).bind λq59=>
  (
   if (!decide ((Sh.len l8)=1))=true then
    some true
   else
    (Sh.get l8 0).bind λc69=>
    if (!decide (c69=p2.num))=true then
     some true
    else
    if (decide ((Sh.len q59)=0))=true then
     some true
    else
     some (!decide ((Sh.len p2.kids)=(Sh.len q59)))
  ).bind λt62=>
  if t62=true then
   some (-1,false)
  else
   (Cx N zV p0 p1 p2.kids q59).bind λq67=>
   some (q67.1,q67.2)
 else
  (
   if (decide (0<(Sh.len p2.kids)))=true then
    some true
   else
   if (decide (p2.op=10))=true then
    if (decide (0<=p2.num))=true then
     if (decide (p2.num<(Sh.len p0.funcs)))=true then
      (Sh.get p0.funcs p2.num).bind λc83=>
      some (decide (0<(Sh.len c83.Aq)))
     else
      some false
    else
     some false
   else
    some false
  ).bind λt73=>
  if t73=true then
   some (-1,false)
  else
   (Ak N p0 p2.op p2.num l8).bind λq78=>
   some (q78.1,q78.2)
def FX (p1:(List Int))(p2:Step):Option Bool:=
  if (!decide (p2.BF=0))=true then
   if (!decide (p2.op=6))=true then
    some true
   else
   if (decide (p2.BF<1))=true then
    some true
   else
   if (decide ((Sh.len p1)<p2.BF))=true then
    some true
   else
    (Sh.get p1 (Sh.w (p2.BF-1))).bind λc88=>
    some (decide (c88=0))
  else
   some false
section
variable {n : AL} {R1 : AL -> List Int -> Block -> Option Int} {R2 : Ap -> List Int -> Block -> Option Int} {T : List Int -> Block -> Int} {s : Step} {v : List Int} {N : Nat}
theorem Yt (hv :∀x∈v,Dg n.decls x=true)(hl:v.length<=1048576):∃b,Bp v s=some b/\FX v s=some (!b):=by
 unfold Bp FX;by_cases h0:s.BF=0
 ·exact⟨true,by simp[h0],by simp[h0]⟩
 ·by_cases h6:s.op=6
  ·by_cases hr:1<=s.BF/\s.BF<=(v.length:Int)
   ·have hw:Sh.w (s.BF-1)=s.BF-1:=wI;obtain⟨x,x1,x2⟩:=PZ (l:=v) (j:=s.BF-1) (by omega) (by omega);have hx:=(P6 (hv x (uL x2))).1;have r1:¬ s.BF<1:=by omega
    have r2:¬ (v.length:Int)<s.BF:=by omega
    rw[DD,hw,x1,Ah];by_cases q:x=0
    ·exact⟨false,by simp[h0,h6,hr.1,hr.2,q],by simp[h0,h6,r1,r2,q]⟩
    ·have q':0<x:=by omega
     exact⟨true,by simp[h0,h6,hr.1,hr.2,q'],by simp[h0,h6,r1,r2,q]⟩
   ·refine⟨false,?_,?_⟩
    ·rw[DD,Ah];have:(decide (1<=s.BF)&&decide (s.BF<=(v.length:Int)))=false:=by
      rw[ve,uW,uW];omega
     rw[this];simp[h0,h6]
    ·rw[Ah];by_cases r1:s.BF<1
     ·simp[h0,h6,r1]
     ·have r2:(v.length:Int)<s.BF:=by omega
      simp[h0,h6,r1,r2]
  ·exact⟨false,by simp[h0,h6],by simp[h0,h6]⟩
def Qt (o:Int):Bool:=decide (o=0∨o=6∨o=8∨o=9∨o=10)
theorem jg (o:Int):LW o=some (Qt o):=by
 unfold LW Qt;by_cases h0:o=0
 ·simp[h0]
 by_cases h6:o=6
 ·simp[h6]
 by_cases h8:o=8
 ·simp[h8]
 by_cases h9:o=9
 ·simp[h9]
 simp[h0,h6,h8,h9]
def IX (b:Bool)(s:Step):Bool:=((decide (s.num=0) || Qt s.op)&&b)&&(decide (s.kids=[]) || (decide (s.op=7) || decide (s.op=8)))
theorem PI {b:Bool}(hb:Bp v s=some b):FP N R1 n v s=if IX b s=true then Cr N R1 n v s else some (-1):=by
 have e:FP N R1 n v s=(
  if (!decide (s.num=0))=true then
   (LW s.op).bind λq105=>
   if (!q105)=true then some true
   else (Bp v s).bind λq107=>if (!q107)=true then some true else if (decide (0<(Sh.len s.kids)))=true then (if (!decide (s.op=7))=true then some (!decide (s.op=8)) else some false) else some false
  else (Bp v s).bind λq111=>if (!q111)=true then some true else if (decide (0<(Sh.len s.kids)))=true then (if (!decide (s.op=7))=true then some (!decide (s.op=8)) else some false) else some false).bind λt4=>if t4=true then some (-1) else Cr N R1 n v s:=rfl
 rw[e,jg,hb];have hk:(if (decide (0<(Sh.len s.kids)))=true then (if (!decide (s.op=7))=true then some (!decide (s.op=8)) else some false) else some false)=some (!(decide (s.kids=[]) || (decide (s.op=7) || decide (s.op=8)))):=by
  cases hk:s.kids with
  | nil=>simp[Ah]
  | cons a r=>
   have:decide ((0:Int)<Sh.len (a::r))=true:=xm (by rw[Ah,vD];omega);rw[this];by_cases h7:s.op=7
   ·simp[h7]
   ·simp[h7]
 simp only[uJ];rw[hk];unfold IX;cases decide (s.num=0)<;>cases Qt s.op<;>cases b<;>cases (decide (s.kids=[]) || (decide (s.op=7) || decide (s.op=8)))<;>simp
theorem Np (hl:v.length<=1048576)(ha:s.args.length<=1048576)(hN:2000000<=N){b:Bool}(hb:FX v s=some (!b)):
  Bx N R2 (CL n) v s=(DO v s.args).elim (some (-1,false)) λl=>if b=true then Df N R2 (CL n) v s l else some (-1,false):=by
 have e:Bx N R2 (CL n) v s=(Sh.mk (0:Nat) (Sh.len s.args) 8).bind λl3=>Sh.cont (Bt v s N 0 []) (id) λl8=>(FX v s).bind λt12=>if t12=true then some (-1,false) else Df N R2 (CL n) v s l8:=rfl;rw[e,Ah,PR _ _ _ (by omega) (by omega),jG hl ha hN,hb];cases DO v s.args with
 | none=>rfl
 | some l=>cases b<;>simp[Sh.cont]
def Ln (n:AL)(R1:AL->List Int->Block->Option Int)(R2:Ap->List Int->Block->Option Int)(N:Nat)(v:List Int)(s:Step):Prop:=
 ∃(q t:Int) (ok:Bool),FP N R1 n v s=some q/\Bx N R2 (CL n) v s=some (t,ok)/\(if ok=true then 0<=q/\(if Oi s.op=true then True else t=q/\Dg n.decls q=true/\0<=s.op/\s.op<=11) else q<0)
theorem IF {q t:Int}{ok:Bool}(h1:FP N R1 n v s=some q)(h2:Bx N R2 (CL n) v s=some (t,ok))(h3:ok=false)(h4:q<0):Ln n R1 R2 N v s:=⟨q,t,ok,h1,h2,by rw[h3];exact h4⟩
theorem oP {q:Int}(h1:FP N R1 n v s=some q)(h2:Bx N R2 (CL n) v s=some (q,true))(h3:Dg n.decls q=true)(h4:0<=s.op)(h5:s.op<=11):Ln n R1 R2 N v s:=
 ⟨q,q,true,h1,h2,by
  have:Oi s.op=false:=by unfold Oi;rw[ve,uW,uW];omega
  rw[uX rfl,uY (by rw[this];simp)];exact⟨(P6 h3).1,rfl,h3,h4,h5⟩⟩
theorem Ic (V:SK n s v)(hN:2000000<=N){b:Bool}(hb1:Bp v s=some b)(hb2:FX v s=some (!b))(h0:0<=s.op)(h5:s.op<=11){want:List Int}{c:Bool}{t:Int}(ht:c=true->Dg n.decls t=true)
  (hs:IX b s=true->Cr N R1 n v s=some (if c=true/\DO v s.args=some want then t else -1))
  (hi :∀l,DO v s.args=some l->IX b s=true->∃t',Df N R2 (CL n) v s l=some (t',c&&decide (l=want))/\(c=true->l=want->t'=t))
  (hi2 :∀l,DO v s.args=some l->IX b s=false->b=true->∃t',Df N R2 (CL n) v s l=some (t',false)):Ln n R1 R2 N v s:=by
 have hl:v.length<=1048576:=by have:=V.Ov;omega
 have e1:=PI (n:=n) (R1:=R1) (N:=N) hb1;have e2:=Np (n:=n) (R2:=R2) hl V.KK hN hb2;cases hA:DO v s.args with
 | none=>
  rw[hA]at e2 hs;refine IF (q:=-1) ?_ e2 rfl (by omega);rw[e1];by_cases hp:IX b s=true
  ·rw[uX hp,hs hp];simp
  ·rw[uY hp]
 | some l=>
  rw[hA]at e2 hs;simp only[wG]at e2;cases hp:IX b s with
  | false=>
   rw[hp]at e1;simp only[uN,uf]at e1;cases b with
   | false=>exact IF e1 e2 rfl (by omega)
   | true=>
    obtain⟨t',h7⟩:=hi2 l hA hp rfl;simp only[vH]at e2;exact IF e1 (e2.trans h7) rfl (by omega)
  | true=>
   rw[hp]at e1;simp only[vH]at e1;have hbt:b=true:=by
    unfold IX at hp;simp only[uT]at hp;exact hp.1.2
   rw[hbt]at e2;simp only[vH]at e2;obtain⟨t',h7,h8⟩:=hi l hA hp;by_cases hc:c=true/\l=want
   ·have ht':=h8 hc.1 hc.2;rw[hs hp,uX ⟨hc.1,by rw[hc.2]⟩]at e1;rw[h7,ht',hc.1,hc.2]at e2;simp only[vB,Bool.and_self]at e2;exact oP e1 e2 (ht hc.1) h0 h5
   ·rw[hs hp,uY (by rintro⟨q1,q2⟩;exact hc ⟨q1,by simpa using q2⟩)]at e1;refine IF e1 (e2.trans h7) ?_ (by omega);cases c with
    | false=>rfl
    | true=>simp only[true_and]at hc;simp[hc]
end
end RC
namespace RC
open Go
section
variable {n : AL} {R1 : AL -> List Int -> Block -> Option Int} {R2 : Ap -> List Int -> Block -> Option Int} {T : List Int -> Block -> Int} {s : Step} {v : List Int} {N : Nat} {b : Bool}
theorem Ho {v args l:List Int}(h:DO v args=some l):l.length=args.length:=(PB.1 h).1.symm
theorem fP (h0:0<=s.op)(h5:s.op<=11):Dh s.op=some false:=by
 rw[Ns];have:Oi s.op=false:=by unfold Oi;rw[ve,uW,uW];omega
 rw[this]
theorem ES {l:List Int}{t:Int}{ok:Bool}(hk:s.kids=[])(hs:Ak N (CL n) s.op s.num l=some (t,ok))(h0:0<=s.op:=by omega)(h5:s.op<=11:=by omega)(h7:¬ s.op=7:=by omega)(h8:¬ s.op=8:=by omega)(h10:¬ s.op=10:=by omega):Df N R2 (CL n) v s l=some (t,ok):=by
 unfold Df;rw[fP h0 h5];simp only[uJ,uN,uf,h7,h8,h10,vA];rw[hs,hk];simp[Ah]
theorem MW {l:List Int}(hk:¬ s.kids=[])(h0:0<=s.op:=by omega)(h5:s.op<=11:=by omega)(h7:¬ s.op=7:=by omega)(h8:¬ s.op=8:=by omega):Df N R2 (CL n) v s l=some (-1,false):=by
 unfold Df;rw[fP h0 h5];have:decide ((0:Int)<Sh.len s.kids)=true:=by
  cases hq:s.kids with
  | nil=>exact absurd hq hk
  | cons a r=>exact xm (by rw[Ah,vD];omega)
 simp only[uJ,uN,uf,h7,h8,vA,this,vH]
theorem IS (hp:IX b s=true)(h7:¬ s.op=7:=by omega)(h8:¬ s.op=8:=by omega):s.kids=[]:=by
 unfold IX at hp;simp only[uT,xH,uj,h7,h8,yc]at hp;exact hp.2
theorem Qs (hp:IX b s=false)(hb:b=true)(h7:¬ s.op=7:=by omega)(h8:¬ s.op=8:=by omega):¬ s.kids=[]∨(¬ s.num=0/\Qt s.op=false):=by
 by_cases hk:s.kids=[]
 ·right;unfold IX at hp;simp only[hb,hk,vB,yC,Bool.true_or,yE,uW]at hp;exact hp
 ·exact .inl hk
theorem ZR (hn:Qt s.op=false)(hp:IX b s=true):s.num=0:=by
 unfold IX at hp;simp only[uT,xH,uj,hn,uN,yc]at hp;exact hp.1.1
theorem qD (V:SK n s v)(hN:2000000<=N)(hb1:Bp v s=some b)(hb2:FX v s=some (!b))(h:s.op=0):Ln n R1 R2 N v s:=by
 have ha:=V.KK;refine Ic V hN hb1 hb2 (by omega) (by omega) (want:=[]) (c:=decide (-999<=s.num)&&decide (s.num<=999)) (t:=0) (λ_=>sv) (λhp=>?_) (λl hA hp=>⟨0,?_,λ_ _=>rfl⟩) (λl hA hp hb=>?_)
 ·have e1:(DO v s.args=some [])↔s.args=[]:=by
   constructor
   ·intro q;exact vM (Ho q).symm
   ·intro q;rw[q];rfl
  unfold Cr;simp only[h,vB,vH,len_nil,DD,e1];by_cases a:-999<=s.num<;>by_cases c:s.num<=999<;>by_cases d:s.args=[]<;>simp[a,c,d,Sh.cont]
 ·exact ES (IS hp) (cD h)
 ·rcases Qs hp hb with q|q
  ·exact⟨_,MW q⟩
  ·rw[h]at q;exact absurd q.2 (by decide)
theorem lM (V:SK n s v)(hN:2000000<=N)(hb1:Bp v s=some b)(hb2:FX v s=some (!b))(h:s.op=1∨s.op=2∨s.op=3∨s.op=4):Ln n R1 R2 N v s:=by
 have ha:=V.KK;have hvl:=V.Ov;have hh:Qt s.op=false:=by rcases h with h|h|h|h<;>rw[h]<;>decide
 refine Ic V hN hb1 hb2 (by omega) (by omega) (want:=[0,0]) (c:=decide (s.num=0)) (t:=0) (λ_=>sv) (λhp=>?_) (λl hA hp=>⟨0,?_,λ_ _=>rfl⟩) (λl hA hp hb=>?_)
 ·have hn:=ZR hh hp;have e2:CG N v s.args [0,0]=some (decide (DO v s.args=some [0,0])):=Mf (by omega) ha hN;unfold Cr;rcases h with h|h|h|h<;>simp only[h,Int.reduceEq,vB,vA,uN,vH,uf,uJ]<;>rw[e2]<;>by_cases q:DO v s.args=some [0,0]<;>simp[q,hn,Sh.cont]
 ·have hl:=Ho hA;exact ES (IS hp) (S8 (by omega) hN h)
 ·have hl:=Ho hA;by_cases hk:s.kids=[]
  ·rcases Qs hp hb with q|q
   ·exact absurd hk q
   ·exact⟨0,ES hk (by rw[show (CL n)=⟨n.decls,(CL n).funcs⟩ from rfl,S8 (by omega) hN h];simp[q.1])⟩
  ·exact⟨_,MW hk⟩
theorem lx (V:SK n s v)(hN:2000000<=N)(hb1:Bp v s=some b)(hb2:FX v s=some (!b))(h:s.op=5):Ln n R1 R2 N v s:=by
 have ha:=V.KK;have hvl:=V.Ov;have hh:Qt s.op=false:=by rw[h];decide
 refine Ic V hN hb1 hb2 (by omega) (by omega) (want:=[0]) (c:=decide (s.num=0)) (t:=0) (λ_=>sv) (λhp=>?_) (λl hA hp=>⟨0,?_,λ_ _=>rfl⟩) (λl hA hp hb=>?_)
 ·have hn:=ZR hh hp;have e2:CG N v s.args [0]=some (decide (DO v s.args=some [0])):=Mf (by omega) ha hN;unfold Cr;simp only[h,Int.reduceEq,vB,vA,uN,vH,uf,uJ];rw[e2];by_cases q:DO v s.args=some [0]<;>simp[q,hn,Sh.cont]
 ·have hl:=Ho hA;exact ES (IS hp) (Tb (by omega) hN h)
 ·have hl:=Ho hA;by_cases hk:s.kids=[]
  ·rcases Qs hp hb with q|q
   ·exact absurd hk q
   ·exact⟨0,ES hk (by rw[show (CL n)=⟨n.decls,(CL n).funcs⟩ from rfl,Tb (by omega) hN h];simp[q.1])⟩
  ·exact⟨_,MW hk⟩
theorem eu (h:Kg s):Mm s.num:=by cases h;assumption
theorem qQ (V:SK n s v)(S:Ji n)(hN:2000000<=N)(hb1:Bp v s=some b)(hb2:FX v s=some (!b))(h:s.op=6):Ln n R1 R2 N v s:=by
 have ha:=V.KK;have hvl:=V.Ov;have hI:=eu V.ay;have hbad:∀l,DO v s.args=some l->IX b s=false->b=true->∃t',Df N R2 (CL n) v s l=some (t',false):=λl hA hp hb=>by
  rcases Qs hp hb with q|q
  ·exact⟨_,MW q⟩
  ·rw[h]at q;exact absurd q.2 (by decide)
 have hcase:(∃t x,0<t/\Dg n.decls t=true/\Dp N n.decls s.num=some t/\CK N n.decls s.num=some x)∨Dp N n.decls s.num=some (-1):=by
  rcases Tt (G:=(CL n).funcs) (ks:=[]) S (by simp) hI hN h with ⟨t,x,q1,q2,q3,q4,q5,q6⟩|⟨q1,q2⟩
  ·exact .inl ⟨t,x,q1,q2,q4,q5⟩
  ·exact .inr q1
 rcases hcase with ⟨t,x,q1,q2,q4,q5⟩|q1
 ·refine Ic V hN hb1 hb2 (by omega) (by omega) (want:=x) (c:=true) (t:=t) (λ_=>q2) (λhp=>?_) (λl hA hp=>⟨t,?_,λ_ _=>rfl⟩) hbad
  ·have e2:CG N v s.args x=some (decide (DO v s.args=some x)):=Mf (by omega) ha hN;unfold Cr;simp only[h,Int.reduceEq,vB,vA,uN,vH,uf,uJ];rw[q4,q5];simp only[uJ];rw[e2];by_cases q:DO v s.args=some x<;>simp[q,q1,Sh.cont]
  ·have hl:=Ho hA;refine ES (IS hp) ?_;rcases Tt (G:=(CL n).funcs) (ks:=l) S (by omega) hI hN h with ⟨t',x',p1,p2,p3,p4,p5,p6⟩|⟨p1,p2⟩
   ·rw[q4]at p4;rw[q5]at p5;cases p4;cases p5;rw[wU];exact p6
   ·rw[q4]at p1;cases p1;omega
 ·refine Ic V hN hb1 hb2 (by omega) (by omega) (want:=[]) (c:=false) (t:=0) (λq=>nomatch q) (λhp=>?_) (λl hA hp=>⟨-1,?_,λq=>nomatch q⟩) hbad
  ·unfold Cr;simp only[h,Int.reduceEq,vB,vA,uN,vH,uf,uJ];rw[q1];simp[Sh.cont]
  ·have hl:=Ho hA;refine ES (IS hp) ?_;rcases Tt (G:=(CL n).funcs) (ks:=l) S (by omega) hI hN h with ⟨t',x',p1,p2,p3,p4,p5,p6⟩|⟨p1,p2⟩
   ·rw[q1]at p4;cases p4;omega
   ·rw[wh];exact p2
end
end RC
namespace RC
open Go
section
variable {n : AL} {R1 : AL -> List Int -> Block -> Option Int} {R2 : Ap -> List Int -> Block -> Option Int} {T : List Int -> Block -> Int} {s : Step} {v : List Int} {N : Nat} {b : Bool}
theorem ZU:∀m∈([[],[]]:List (List Int)),m.length<=3/\∀x∈m,Dg n.decls x=true:=λm hm=>by
 simp at hm;subst hm;simp
theorem kJ {o:Int}(h0:0<=s.op)(h5:s.op<=11)(ho:o=-1∨Dg n.decls o=true)(h1:FP N R1 n v s=some o)(h2:Bx N R2 (CL n) v s=some (if o<0 then (-1,false) else (o,true))):Ln n R1 R2 N v s:=by
 by_cases h:o<0
 ·rw[uX h]at h2;exact IF h1 h2 rfl h
 ·rw[uY h]at h2;refine oP h1 h2 ?_ h0 h5;rcases ho with q|q
  ·omega
  ·exact q
theorem ka (H:Ss n R1 R2 T (SW s))(V:SK n s v){ms:List (List Int)}(hm :∀m∈ms,m.length<=3/\∀x∈m,Dg n.decls x=true):IJ (LF T v ms s.kids)=-1∨Dg n.decls (IJ (LF T v ms s.kids))=true:=by
 rcases cj (ts:=LF T v ms s.kids) with z|z
 ·exact .inl z
 ·exact Yp H V hm _ z
theorem sO (H:Ss n R1 R2 T (SW s))(V:SK n s v)(S:Ji n)(hN:2000000<=N)(hb1:Bp v s=some b)(hb2:FX v s=some (!b))(h:s.op=7):Ln n R1 R2 N v s:=by
 have hl:v.length<=1048576:=by have:=V.Ov;omega
 have e1:=PI (n:=n) (R1:=R1) (N:=N) hb1;have e2:=Np (n:=n) (R2:=R2) hl V.KK hN hb2;have ht:CG N v s.args [0]=some (decide (DO v s.args=some [0])):=Mf hl V.KK hN;have hp:IX b s=(decide (s.num=0)&&b):=by
  unfold IX;rw[h,show Qt 7=false by decide];simp
 have hcore:Cr N R1 n v s=some (if DO v s.args=some [0] then (if s.kids.length=2 then IJ (LF T v [[],[]] s.kids) else -1) else -1):=by
  unfold Cr;simp only[h,Int.reduceEq,vB,vA,uN,vH,uf,uJ];rw[ht,Zc H V S hN (.inl ⟨h,rfl⟩)];by_cases q:DO v s.args=some [0]
  ·by_cases q2:s.kids.length=2<;>simp[q,q2,Sh.cont]
  ·simp[q,Sh.cont]
 rw[hp,hcore]at e1;cases hA:DO v s.args with
 | none=>
  rw[hA]at e1 e2;refine IF (q:=-1) ?_ e2 rfl (by omega);rw[e1];simp
 | some l=>
  rw[hA]at e1 e2;simp only[wG]at e2;have ilen:decide (Sh.len l=1)=decide (l.length=1):=vX.2 (by rw[Ah];omega);cases b with
  | false=>
   refine IF (q:=-1) ?_ e2 rfl (by omega);rw[e1];simp
  | true=>
   simp only[vH]at e2;have hc:Df N R2 (CL n) v s l=if l=[0]/\s.num=0/\s.kids.length=2 then some (if IJ (LF T v [[],[]] s.kids)<0 then (-1,false) else (IJ (LF T v [[],[]] s.kids),true)) else some (-1,false):=by
    unfold Df;rw[fP (by omega) (by omega),ilen];simp only[uJ,uN,uf,h,vB,vH]
    match l with
    | []=>simp
    | [x]=>
     have Zd:decide (Sh.len s.kids=2)=decide (s.kids.length=2):=vX.2 (by rw[Ah];omega);rw[show Sh.get [x] 0=some x from rfl,Zd,uJ];by_cases q1:x=0
     ·by_cases q2:s.num=0
      ·by_cases q3:s.kids.length=2
       ·have mk2:Sh.mk ([]:List Int) 2 24=some [[],[]]:=PR [] 2 24 (by omega) (by omega);rw[mk2];have ik:=Ri (ms:=[[],[]]) H V hN (by rw[q3];rfl) (by simp) (by simp) ZU;simp only[uJ];rw[ik];by_cases z:IJ (LF T v [[],[]] s.kids)<0<;>simp[q1,q2,q3,z]
       ·simp[q1,q2,q3]
      ·simp[q1,q2]
     ·simp[q1]
    | x::y::r=>simp
   rw[hc]at e2;by_cases q:l=[0]/\s.num=0/\s.kids.length=2
   ·rw[uX q]at e2;refine kJ (by omega) (by omega) (ka H V ZU) ?_ e2;rw[e1];simp[q.1,q.2.1,q.2.2]
   ·rw[uY q]at e2;refine IF (q:=-1) ?_ e2 rfl (by omega);rw[e1];by_cases q1:s.num=0
    ·by_cases q2:l=[0]
     ·have q3:¬ s.kids.length=2:=λz=>q ⟨q2,q1,z⟩;simp[q1,q2,q3]
     ·simp[q1,q2]
    ·simp[q1]
theorem mj (H:Ss n R1 R2 T (SW s))(V:SK n s v)(S:Ji n)(hN:2000000<=N)(hb1:Bp v s=some b)(hb2:FX v s=some (!b))(h:s.op=8):Ln n R1 R2 N v s:=by
 have hl:v.length<=1048576:=by have:=V.Ov;omega
 have e1:=PI (n:=n) (R1:=R1) (N:=N) hb1;have e2:=Np (n:=n) (R2:=R2) hl V.KK hN hb2;have ht:CG N v s.args [s.num]=some (decide (DO v s.args=some [s.num])):=Mf hl V.KK hN;have hp:IX b s=b:=by
  unfold IX;rw[h,show Qt 8=true by decide];simp
 have hcl:=Pe S.ZV s.num;have hm:∀m∈(Fc n.decls s.num).map (Pb n.decls),m.length<=3/\∀x∈m,Dg n.decls x=true:=λm hm=>by
  obtain⟨c,hc,rfl⟩:=uw.1 hm;exact (Re S hc hN).2.2
 have sk:=Zc H V S hN (.inr ⟨h,rfl⟩);have af:=TY (n:=n) S hN s.num;have hml:((Fc n.decls s.num).map (Pb n.decls)).length<=10:=by simp;omega
 generalize (Fc n.decls s.num).map (Pb n.decls)=ms at hm sk af hml;have hcore:Cr N R1 n v s=some (if DO v s.args=some [s.num] then (if ms=[]∨¬ s.kids.length=ms.length then -1 else IJ (LF T v ms s.kids)) else -1):=by
  unfold Cr;simp only[h,Int.reduceEq,vB,vA,uN,vH,uf,uJ];rw[ht,sk];by_cases q:DO v s.args=some [s.num]<;>simp[q,Sh.cont]
 rw[hp,hcore]at e1;cases hA:DO v s.args with
 | none=>
  rw[hA]at e1 e2;refine IF (q:=-1) ?_ e2 rfl (by omega);rw[e1];simp
 | some l=>
  rw[hA]at e1 e2;simp only[wG]at e2;have ilen:decide (Sh.len l=1)=decide (l.length=1):=vX.2 (by rw[Ah];omega);cases b with
  | false=>
   refine IF (q:=-1) ?_ e2 rfl (by omega);rw[e1];simp
  | true=>
   simp only[vH]at e1 e2;have hc:Df N R2 (CL n) v s l=if l=[s.num]/\¬ ms=[]/\s.kids.length=ms.length then some (if IJ (LF T v ms s.kids)<0 then (-1,false) else (IJ (LF T v ms s.kids),true)) else some (-1,false):=by
    unfold Df;rw[fP (by omega) (by omega),ilen,af];simp only[uJ,uN,uf,h,Int.reduceEq,vA,vB,vH,len_nil]
    match l with
    | []=>simp
    | [x]=>
     have Zd:decide (Sh.len s.kids=Sh.len ms)=decide (s.kids.length=ms.length):=vX.2 (by rw[Ah,Ah];omega);rw[show Sh.get [x] 0=some x from rfl,Zd,uJ];by_cases q1:x=s.num
     ·by_cases q2:ms=[]
      ·simp[q1,q2]
      ·by_cases q3:s.kids.length=ms.length
       ·have ik:=Ri (ms:=ms) H V hN q3.symm q2 hml hm;rw[ik];by_cases z:IJ (LF T v ms s.kids)<0<;>simp[q1,q2,q3,z]
       ·simp[q1,q2,q3]
     ·simp[q1]
    | x::y::r=>simp
   rw[hc]at e2;by_cases q:l=[s.num]/\¬ ms=[]/\s.kids.length=ms.length
   ·rw[uX q]at e2;refine kJ (by omega) (by omega) (ka H V hm) ?_ e2;rw[e1];simp[q.1,q.2.1,q.2.2]
   ·rw[uY q]at e2;refine IF (q:=-1) ?_ e2 rfl (by omega);rw[e1];by_cases q2:l=[s.num]
    ·have q3:ms=[]∨¬ s.kids.length=ms.length:=by
      by_cases z:ms=[]
      ·exact .inl z
      ·exact .inr λy=>q ⟨q2,z,y⟩
     rw[uX (by rw[q2]),uX q3]
    ·rw[uY (by simpa using q2)]
theorem cH (hh:Qt s.op=true)(h0:0<=s.op)(h5:s.op<=11)(h7:¬ s.op=7)(h8:¬ s.op=8):∀l,DO v s.args=some l->IX b s=false->b=true->∃t',Df N R2 (CL n) v s l=some (t',false):=λl _ hp hb=>by
 rcases Qs hp hb with q|q
 ·exact⟨_,MW q⟩
 ·rw[hh]at q;exact absurd q.2 (by decide)
theorem pA (V:SK n s v)(S:Ji n)(hN:2000000<=N)(hb1:Bp v s=some b)(hb2:FX v s=some (!b))(h:s.op=9):Ln n R1 R2 N v s:=by
 have hl:v.length<=1048576:=by have:=V.Ov;omega
 have ha:=V.KK;have hR:=S.S5;have hG:(CL n).funcs.length<=4:=by rw[IZ];exact hR
 have hbad:=cH (n:=n) (R2:=R2) (N:=N) (v:=v) (b:=b) (s:=s) (by rw[h];decide) (by omega) (by omega) (by omega) (by omega);rcases Vd S s.num with ⟨r,r0,r1,r2,r3,r4,r5,r6⟩|hr
 ·refine Ic V hN hb1 hb2 (by omega) (by omega) (want:=r.params) (c:=true) (t:=r.result) (λ_=>r6) (λhp=>?_) (λl hA hp=>⟨r.result,?_,λ_ _=>rfl⟩) hbad
  ·have ht:CG N v s.args r.params=some (decide (DO v s.args=some r.params)):=Mf hl ha hN;have r1':s.num<=(n.AF.length:Int)-1:=by omega
   unfold Cr Fo;simp only[h,Int.reduceEq,vB,vA,uN,vH,uf,uJ];rw[DD,Ah n.AF,wI (n:=(n.AF.length:Int)-1),r2];simp only[uJ,r0,r1',vB,Bool.and_self,vT,uN,uf];rw[ht];by_cases q:DO v s.args=some r.params<;>simp[q,Sh.cont]
  ·have hl2:=Ho hA;refine ES (IS hp) ?_;rw[wU];exact Y6 (D:=n.decls) (f:=⟨r.params,r.Aq,r.result⟩) (by omega) hG hN h r0 (by first|(rw[IZ];exact r1)|(rw[uZ];exact r1)) r3
 ·refine Ic V hN hb1 hb2 (by omega) (by omega) (want:=[]) (c:=false) (t:=0) (λq=>nomatch q) (λhp=>?_) (λl hA hp=>⟨-1,?_,λq=>nomatch q⟩) hbad
  ·unfold Cr Fo;simp only[h,Int.reduceEq,vB,vA,uN,vH,uf,uJ];rw[DD,Ah n.AF,wI (n:=(n.AF.length:Int)-1)];have:(decide (0<=s.num)&&decide (s.num<=(n.AF.length:Int)-1))=false:=by
    rw[ve,uW,uW];omega
   rw[this];simp[Sh.cont]
  ·refine ES (IS hp) ?_;rw[wh];exact OA (D:=n.decls) hG (.inl h) (by first|(rw[IZ];exact hr)|(rw[uZ];exact hr))
theorem TO {l:List Int}{t:Int}{ok Aq:Bool}(h:s.op=10)(hk:s.kids=[])(hle:(if decide (0<=s.num)=true then if decide (s.num<Sh.len (CL n).funcs)=true then (Sh.get (CL n).funcs s.num).bind λc83=>some (decide (0<Sh.len c83.Aq)) else some false else some false)=some Aq)
  (hs:Ak N (CL n) s.op s.num l=some (t,ok)):Df N R2 (CL n) v s l=if Aq=true then some (-1,false) else some (t,ok):=by
 unfold Df;rw[fP (by omega) (by omega),hs,hk];simp only[uJ,uN,uf,h,Int.reduceEq,vA,vB,vH];rw[show decide ((0:Int)<Sh.len ([]:List Block))=false from rfl];simp only[uN,uf];rw[hle];cases Aq<;>rfl
theorem kt (V:SK n s v)(S:Ji n)(hN:2000000<=N)(hb1:Bp v s=some b)(hb2:FX v s=some (!b))(h:s.op=10):Ln n R1 R2 N v s:=by
 have hl:v.length<=1048576:=by have:=V.Ov;omega
 have ha:=V.KK;have hR:=S.S5;have hD:=S.RO;have hG:(CL n).funcs.length<=4:=by rw[IZ];exact hR
 have hbad:=cH (n:=n) (R2:=R2) (N:=N) (v:=v) (b:=b) (s:=s) (by rw[h];decide) (by omega) (by omega) (by omega) (by omega);rcases Vd S s.num with ⟨r,r0,r1,r2,r3,r4,r5,r6⟩|hr
 ·have r1':s.num<=(n.AF.length:Int)-1:=by omega
  have hle:(if decide (0<=s.num)=true then if decide (s.num<Sh.len (CL n).funcs)=true then (Sh.get (CL n).funcs s.num).bind λc83=>some (decide (0<Sh.len c83.Aq)) else some false else some false)=some (decide (¬ r.Aq=[])):=by
   rw[r3,Ah,IZ];simp only[r0,r1,vB,vH,uJ];cases r.Aq with
   | nil=>rfl
   | cons a q=>simp[Ah]<;>omega
  have hcore:∀(X:Option Int),Cr N R1 n v s=Sh.cont (((
     if decide (r.params=[])=true then some true
     else if decide (0<Sh.len r.Aq)=true then some true
     else (Sh.sl r.params 0 (Sh.w (Sh.len r.params-1))).bind λl36=>(CG N v s.args l36).bind λq37=>some !q37).bind λt25=>
     if t25=true then some (-1) else (Sh.get r.params (Sh.w (Sh.len r.params-1))).bind λc30=>(Kc N n.decls c30 r.result).bind λq31=>some q31).bind λq66=>some (Sum.inl q66)) id λ()=>some (-1):=λ_=>by
   unfold Cr Fo;simp only[h,Int.reduceEq,vB,vA,uN,vH,uf,uJ];rw[DD,Ah n.AF,wI (n:=(n.AF.length:Int)-1),r2];simp only[uJ,r0,r1',vB,Bool.and_self,vT,uN,uf,len_nil]
  have hcore:=hcore none;have hlent:decide ((0:Int)<Sh.len r.Aq)=decide (¬ r.Aq=[]):=by
   cases r.Aq with
   | nil=>rfl
   | cons a q=>exact vX.2 (by rw[Ah,vD];simp<;>omega)
  rw[hlent]at hcore;by_cases hp0:r.params=[]
  ·refine Ic V hN hb1 hb2 (by omega) (by omega) (want:=[]) (c:=false) (t:=0) (λq=>nomatch q) (λhp=>by rw[hcore];simp[hp0,Sh.cont]) (λl hA hp=>⟨-1,?_,λq=>nomatch q⟩) hbad;have hl2:=Ho hA;rcases S3 (D:=n.decls) (G:=(CL n).funcs) (ks:=l) (N:=N) (f:=⟨r.params,r.Aq,r.result⟩) (by omega) hD hG r4 hN h r0 (by first|(rw[IZ];exact r1)|(rw[uZ];exact r1)) r3 with ⟨_,z⟩|⟨m,x,z,_⟩
   ·rw[TO h (IS hp) hle z];cases decide (¬ r.Aq=[])<;>rfl
   ·exfalso;rw[hp0]at z;simp at z
  ·obtain⟨m,hm⟩ :∃m,r.params.length=m+1:=⟨r.params.length-1,by have:=yK.2 hp0;omega⟩
   obtain⟨x,hx,hxm⟩:=BX (l:=r.params) (i:=m) (by omega);have hw:Sh.w (Sh.len r.params-1)=(m:Int):=by rw[Ah,wI];omega
   have ht:CG N v s.args (r.params.take m)=some (decide (DO v s.args=some (r.params.take m))):=Mf hl ha hN;have hty:Ku x r.result n.decls 0=-1∨Dg n.decls (Ku x r.result n.decls 0)=true:=by
    rcases gi (a:=x) (b:=r.result) n.decls 0 with q|q
    ·exact .inl q
    ·right;unfold Dg;simp;omega
   rw[hw,gU (by omega),Ao hx]at hcore;simp only[uJ]at hcore;rw[Wt (by omega) hN,ht]at hcore;simp only[uJ]at hcore;refine Ic V hN hb1 hb2 (by omega) (by omega) (want:=r.params.take m) (c:=decide (r.Aq=[])&&decide (0<=Ku x r.result n.decls 0)) (t:=Ku x r.result n.decls 0) (λq=>?_) (λhp=>?_) (λl hA hp=>?_) hbad
   ·simp only[uT,uj]at q;rcases hty with z|z
    ·omega
    ·exact z
   ·rw[hcore];by_cases c1:r.Aq=[]
    ·by_cases c2:DO v s.args=some (r.params.take m)
     ·by_cases c3:0<=Ku x r.result n.decls 0
      ·simp[hp0,c1,c2,c3,Sh.cont]
      ·have:Ku x r.result n.decls 0=-1:=by
        rcases hty with z|z
        ·exact z
        ·exact absurd (P6 z).1 c3
       simp[hp0,c1,c2,this,Sh.cont]
     ·simp[hp0,c1,c2,Sh.cont]
    ·simp[hp0,c1,Sh.cont]
   ·have hl2:=Ho hA;rcases S3 (D:=n.decls) (G:=(CL n).funcs) (ks:=l) (N:=N) (f:=⟨r.params,r.Aq,r.result⟩) (by omega) hD hG r4 hN h r0 (by first|(rw[IZ];exact r1)|(rw[uZ];exact r1)) r3 with ⟨z,_⟩|⟨m',x',z,z2,z3⟩
    ·exact absurd z hp0
    ·have:m'=m:=by rw[hm]at z;omega
     subst this;have z2':r.params[m']?=some x':=z2;rw[hx]at z2';cases z2';rw[TO h (IS hp) hle z3];by_cases c1:r.Aq=[]
     ·exact⟨_,by simp[c1],λ_ _=>rfl⟩
     ·exact⟨-1,by simp[c1],λq=>by simp[c1]at q⟩
 ·refine Ic V hN hb1 hb2 (by omega) (by omega) (want:=[]) (c:=false) (t:=0) (λq=>nomatch q) (λhp=>?_) (λl hA hp=>⟨-1,?_,λq=>nomatch q⟩) hbad
  ·unfold Cr Fo;simp only[h,Int.reduceEq,vB,vA,uN,vH,uf,uJ];rw[DD,Ah n.AF,wI (n:=(n.AF.length:Int)-1)];have:(decide (0<=s.num)&&decide (s.num<=(n.AF.length:Int)-1))=false:=by
    rw[ve,uW,uW];omega
   rw[this];simp[Sh.cont]
  ·have hle:(if decide (0<=s.num)=true then if decide (s.num<Sh.len (CL n).funcs)=true then (Sh.get (CL n).funcs s.num).bind λc83=>some (decide (0<Sh.len c83.Aq)) else some false else some false)=some false:=by
    rw[Ah,IZ];by_cases c:0<=s.num
    ·have:¬ s.num<(n.AF.length:Int):=by omega
     simp[c,this]
    ·simp[c]
   rw[TO h (IS hp) hle (OA (D:=n.decls) hG (.inr h) (by first|(rw[IZ];exact hr)|(rw[uZ];exact hr)))];simp
end
end RC
namespace RC
open Go
section
variable {n : AL} {R1 : AL -> List Int -> Block -> Option Int} {R2 : Ap -> List Int -> Block -> Option Int} {T : List Int -> Block -> Int} {s : Step} {v : List Int} {N : Nat} {b : Bool}
theorem XV {a x:Int}(h:PY v a=some x):0<=a/\a<(v.length:Int)/\Sh.get v a=some x/\x∈v:=by
 unfold PY at h;split at h
 ·rename_i hr;exact⟨hr.1,hr.2,by rw[Nv hr.1,h],uL h⟩
 ·cases h
theorem XN {a0 a1:Int}:DO v [a0,a1]=(PY v a0).bind λx=>(PY v a1).map λy=>[x,y]:=by
 simp only[DO];cases PY v a0<;>cases PY v a1<;>rfl
theorem Wh {a0:Int}:DO v [a0]=(PY v a0).map λx=>[x]:=by
 simp only[DO];cases PY v a0<;>rfl
theorem ku (V:SK n s v)(S:Ji n)(hN:2000000<=N)(hb1:Bp v s=some b)(hb2:FX v s=some (!b))(h:s.op=11):Ln n R1 R2 N v s:=by
 have hl:v.length<=1048576:=by have:=V.Ov;omega
 have ha:=V.KK;have hD:=S.RO;have hh:Qt s.op=false:=by rw[h];decide
 by_cases h2:s.args.length=2
 ·obtain⟨a0,a1,hargs⟩ :∃a0 a1,s.args=[a0,a1]:=by
   match hk:s.args,h2 with
   | [a,c],_=>exact⟨a,c,rfl⟩
  have hcore:Cr N R1 n v s=some (match PY v a0 with
    | some x=>match NS n.decls x with
     | some d=>if DO v [a1]=some [d.from_] then d.to else -1
     | none=>-1
    | none=>-1):=by
   unfold Cr;simp only[h,Int.reduceEq,vB,vA,uN,vH,uf,uJ];rw[hargs,show decide (Sh.len [a0,a1]=2)=true from rfl,show Sh.get [a0,a1] 0=some a0 from rfl,show Sh.sl [a0,a1] 1 (Sh.len [a0,a1])=some [a1] from rfl];simp only[vH,uJ];rw[DD,Ah v,wI (n:=(v.length:Int)-1),uJ];cases hA:PY v a0 with
   | none=>
    have hr:¬ (0<=a0/\a0<(v.length:Int)):=λq=>by obtain⟨x,q1,_⟩:=Yo q.1 q.2;rw[hA]at q1;cases q1
    have:(decide (0<=a0)&&decide (a0<=(v.length:Int)-1))=false:=by
     rw[ve,uW,uW];omega
    rw[this];simp[Sh.cont]
   | some x=>
    obtain⟨q1,q2,q3,q4⟩:=XV hA;have:(decide (0<=a0)&&decide (a0<=(v.length:Int)-1))=true:=by
     rw[uT,uj,uj];omega
    rw[this,q3];simp only[vH,uJ];rw[Qw (by omega),uJ];cases hB:NS n.decls x with
    | none=>simp[Sh.cont]
    | some d=>
     obtain⟨m1,m2,m3,m4⟩:=dD hB;have g5:Sh.get n.decls (Sh.w (x-1))=some d:=by rw[wI,Nv (by omega),m4]
     have ht:CG N v [a1] [d.from_]=some (decide (DO v [a1]=some [d.from_])):=Mf hl (by simp) hN;rw[g5];simp only[Option.isSome_some,vH,uJ];rw[ht];by_cases q:DO v [a1]=some [d.from_]<;>simp[q,Sh.cont]
  cases hA0:PY v a0 with
  | none=>
   have hA:DO v s.args=none:=by rw[hargs,XN,hA0];rfl
   refine Ic V hN hb1 hb2 (by omega) (by omega) (want:=[]) (c:=false) (t:=0) (λq=>nomatch q) (λhp=>by rw[hcore,hA0];simp) (λl q=>by rw[hA]at q;cases q) (λl q=>by rw[hA]at q;cases q)
  | some x=>
   cases hA1:PY v a1 with
   | none=>
    have hA:DO v s.args=none:=by rw[hargs,XN,hA0,hA1];rfl
    have hA2:DO v [a1]=none:=by rw[Wh,hA1];rfl
    refine Ic V hN hb1 hb2 (by omega) (by omega) (want:=[]) (c:=false) (t:=0) (λq=>nomatch q) (λhp=>by rw[hcore,hA0,hA2];simp;split<;>rfl) (λl q=>by rw[hA]at q;cases q) (λl q=>by rw[hA]at q;cases q)
   | some y=>
    have hA:DO v s.args=some [x,y]:=by rw[hargs,XN,hA0,hA1];rfl
    have hA2:DO v [a1]=some [y]:=by rw[Wh,hA1];rfl
    have hbad:∀l,DO v s.args=some l->IX b s=false->b=true->∃t',Df N R2 (CL n) v s l=some (t',false):=λl hl2 hp hb=>by
     by_cases hk:s.kids=[]
     ·rcases Qs hp hb with q|q
      ·exact absurd hk q
      ·rw[hA]at hl2;cases hl2;have e:=TD (D:=n.decls) (G:=(CL n).funcs) (ks:=[x,y]) (num:=s.num) (N:=N) hD h rfl;cases hB:NS n.decls x with
       | none=>rw[hB]at e;exact⟨0,ES hk e⟩
       | some d=>
        rw[hB]at e;refine⟨d.to,ES hk (e.trans ?_)⟩;simp[q.1]
     ·exact⟨_,MW hk⟩
    cases hB:NS n.decls x with
    | none=>
     refine Ic V hN hb1 hb2 (by omega) (by omega) (want:=[]) (c:=false) (t:=0) (λq=>nomatch q) (λhp=>by rw[hcore,hA0];dsimp only;rw[hB];simp) (λl hl2 hp=>⟨0,?_,λq=>nomatch q⟩) hbad;rw[hA]at hl2;cases hl2;refine ES (IS hp) ((TD (D:=n.decls) (G:=(CL n).funcs) (N:=N) hD h rfl).trans ?_);rw[hB];rfl
    | some d=>
     obtain⟨m1,m2,m3,m4⟩:=dD hB;have hty:=(S.tW d m1).2;refine Ic V hN hb1 hb2 (by omega) (by omega) (want:=[x,y]) (c:=decide (y=d.from_)) (t:=d.to) (λ_=>hty) (λhp=>?_) (λl hl2 hp=>⟨d.to,?_,λ_ _=>rfl⟩) hbad
     ·rw[hcore,hA0];dsimp only;rw[hB,hA2,hA];by_cases q:y=d.from_<;>simp[q]
     ·rw[hA]at hl2;cases hl2;have hn:=ZR hh hp;refine ES (IS hp) ((TD (D:=n.decls) (G:=(CL n).funcs) (N:=N) hD h rfl).trans ?_);rw[hB];simp[hn]
 ·have h2':¬ ((s.args.length:Int)=2):=by omega
  refine Ic V hN hb1 hb2 (by omega) (by omega) (want:=[]) (c:=false) (t:=0) (λq=>nomatch q) (λhp=>?_) (λl hA hp=>⟨-1,?_,λq=>nomatch q⟩) (λl hA hp hb=>?_)
  ·unfold Cr;simp only[h,Int.reduceEq,vB,vA,uN,vH,uf,uJ,Ah,h2'];simp[Sh.cont]
  ·have:=Ho hA;exact ES (IS hp) ((PK (D:=n.decls) (G:=(CL n).funcs) (N:=N) h (by omega)).trans (by simp))
  ·have:=Ho hA;by_cases hk:s.kids=[]
   ·exact⟨-1,ES hk (PK (D:=n.decls) (G:=(CL n).funcs) (N:=N) h (by omega))⟩
   ·exact⟨_,MW hk⟩
def fR (D:List AP)(s:Step):List Int->Bool
 | [x]=>decide (¬ x=0/\s.num=0/\s.kids=[]/\¬ ((s.op=16∨s.op=17)/\(NS D x).isSome=true))
 | _=>false
theorem lJ (V:SK n s v)(S:Ji n)(hN:2000000<=N)(hb1:Bp v s=some b)(hb2:FX v s=some (!b))(h:s.op=14∨s.op=15∨s.op=16∨s.op=17):Ln n R1 R2 N v s:=by
 have hl:v.length<=1048576:=by have:=V.Ov;omega
 have hD:=S.RO;have e1:=PI (n:=n) (R1:=R1) (N:=N) hb1;have e2:=Np (n:=n) (R2:=R2) hl V.KK hN hb2;have hc:Oi s.op=true:=by rcases h with h|h|h|h<;>rw[h]<;>decide
 have hp:IX b s=((decide (s.num=0)&&b)&&decide (s.kids=[])):=by
  unfold IX;rcases h with h|h|h|h<;>rw[h]<;>simp[Qt]
 have hcore:Cr N R1 n v s=some (match DO v s.args with
   | some [x]=>if x=0∨((s.op=16∨s.op=17)/\(NS n.decls x).isSome=true) then -1 else 0
   | _=>-1):=by
  have hct:Cr N R1 n v s=Sh.cont ((HF n v s).bind λq=>some (Sum.inl q)) id λ()=>some (-1):=by
   unfold Cr;rcases h with h|h|h|h<;>simp only[h,Int.reduceEq,vB,vA,uN,vH,uf,uJ]
  rw[hct];unfold HF;have Zd:decide (Sh.len s.args=1)=decide (s.args.length=1):=vX.2 (by rw[Ah];omega);rw[Zd];by_cases h1:s.args.length=1
  ·obtain⟨a,hargs⟩ :∃a,s.args=[a]:=by
    match hk:s.args,h1 with
    | [a],_=>exact⟨a,rfl⟩
   rw[hargs,show Sh.get [a] 0=some a from rfl,Wh];simp only[uJ,vD,vl,vB,vT,uN,uf];rw[DD,Ah,wI,uJ];cases hA:PY v a with
   | none=>
    have hr:¬ (0<=a/\a<(v.length:Int)):=λq=>by obtain⟨x,q1,_⟩:=Yo q.1 q.2;rw[hA]at q1;cases q1
    have:(decide (0<=a)&&decide (a<=(v.length:Int)-1))=false:=by
     rw[ve,uW,uW];omega
    rw[this];simp[Sh.cont]
   | some x=>
    obtain⟨q1,q2,q3,q4⟩:=XV hA;have:(decide (0<=a)&&decide (a<=(v.length:Int)-1))=true:=by
     rw[uT,uj,uj];omega
    rw[this,q3];simp only[vT,uN,uf,uJ];rw[Qw (by omega)];by_cases z:x=0
    ·simp[z,Sh.cont]
    ·rcases h with h|h|h|h<;>cases hB:NS n.decls x<;>simp[h,z,hB,Sh.cont]
  ·have :∀x,DO v s.args≠some [x]:=λx q=>h1 (by have:=Ho q;simpa using this.symm);simp only[h1,vA,wB,vH,uJ];cases hA:DO v s.args with
   | none=>rfl
   | some l=>
    match l,hA with
    | [],_=>rfl
    | [x],hA=>exact absurd hA (this x)
    | x::y::r,_=>rfl
 rw[hp,hcore]at e1;cases hA:DO v s.args with
 | none=>
  rw[hA]at e1 e2;refine IF (q:=-1) ?_ e2 rfl (by omega);rw[e1];simp
 | some l=>
  rw[hA]at e1 e2;simp only[wG]at e2;cases b with
  | false=>
   refine IF (q:=-1) ?_ e2 rfl (by omega);rw[e1];simp
  | true=>
   simp only[vH]at e2;have ilen:decide (Sh.len l=1)=decide (l.length=1):=vX.2 (by rw[Ah];omega);have hci:Dh s.op=some true:=by rw[Ns,hc]
   have hic:Df N R2 (CL n) v s l=some (-1,fR n.decls s l):=by
    unfold Df;rw[hci,ilen];simp only[uJ,vH,len_nil]
    match l with
    | []=>simp[fR]
    | [x]=>
     rw[show Sh.get [x] 0=some x from rfl];simp only[uJ,fR];rw[show (CL n).decls=n.decls from rfl,RA (by omega)];by_cases z:x=0
     ·simp[z]
     ·by_cases z2:s.num=0
      ·by_cases z3:s.kids=[]
       ·rcases h with h|h|h|h<;>cases hB:NS n.decls x<;>simp[h,z,z2,z3,hB]
       ·simp[z,z2,z3]
      ·simp[z,z2]
    | x::y::r=>simp[fR]
   rw[hic]at e2
   match l with
   | []=>exact IF (q:=-1) (by rw[e1];simp) e2 rfl (by omega)
   | x::y::r=>exact IF (q:=-1) (by rw[e1];simp) e2 rfl (by omega)
   | [x]=>
    simp only[fR]at e2;simp only at e1;by_cases g:¬ x=0/\s.num=0/\s.kids=[]/\¬ ((s.op=16∨s.op=17)/\(NS n.decls x).isSome=true)
    ·refine⟨0,-1,true,?_,?_,?_⟩
     ·rw[e1];have:¬ (x=0∨((s.op=16∨s.op=17)/\(NS n.decls x).isSome=true)):=λq=>by
       rcases q with q|q
       ·exact g.1 q
       ·exact g.2.2.2 q
      rw[uY this];simp[g.2.1,g.2.2.1]
     ·rw[e2,xm g]
     ·rw[uX rfl,uX hc];exact⟨by omega,uM⟩
    ·refine IF (q:=-1) ?_ e2 (decide_eq_false g) (by omega);rw[e1];by_cases z2:s.num=0
     ·by_cases z3:s.kids=[]
      ·have:x=0∨((s.op=16∨s.op=17)/\(NS n.decls x).isSome=true):=by
        by_cases q:x=0
        ·exact .inl q
        ·refine .inr (Classical.byContradiction λq2=>g ⟨q,z2,z3,q2⟩)
       rw[uX this];simp
      ·simp[z3]
     ·simp[z2]
theorem lN (V:SK n s v)(hN:2000000<=N)(hb1:Bp v s=some b)(hb2:FX v s=some (!b))(h:s.op<0∨s.op=12∨s.op=13∨17<s.op):Ln n R1 R2 N v s:=by
 have hl:v.length<=1048576:=by have:=V.Ov;omega
 have e1:=PI (n:=n) (R1:=R1) (N:=N) hb1;have e2:=Np (n:=n) (R2:=R2) hl V.KK hN hb2;have hc:Oi s.op=false:=by unfold Oi;rw[ve,uW,uW];omega
 have hcore:Cr N R1 n v s=some (-1):=by
  unfold Cr;simp only[show ¬ s.op=0 by omega,show ¬ s.op=1 by omega,show ¬ s.op=2 by omega,show ¬ s.op=3 by omega,show ¬ s.op=4 by omega,show ¬ s.op=5 by omega,show ¬ s.op=6 by omega,show ¬ s.op=7 by omega,show ¬ s.op=8 by omega,show ¬ s.op=9 by omega,show ¬ s.op=10 by omega,show ¬ s.op=11 by omega,show ¬ s.op=14 by omega,show ¬ s.op=15 by omega,show ¬ s.op=16 by omega,show ¬ s.op=17 by omega,vA,uN,uf,uJ];simp[Sh.cont]
 have h1:FP N R1 n v s=some (-1):=by rw[e1,hcore];split<;>rfl
 cases hA:DO v s.args with
 | none=>rw[hA]at e2;exact IF h1 e2 rfl (by omega)
 | some l=>
  rw[hA]at e2;simp only[wG]at e2;cases b with
  | false=>exact IF h1 e2 rfl (by omega)
  | true=>
   simp only[vH]at e2;have hic:Df N R2 (CL n) v s l=some (-1,false):=by
    unfold Df;rw[Ns,hc];simp only[uJ,uN,uf,show ¬ s.op=7 by omega,show ¬ s.op=8 by omega,show ¬ s.op=10 by omega,vA];rw[show (CL n)=⟨n.decls,(CL n).funcs⟩ from rfl,fC (by omega)];by_cases hk:decide (0<Sh.len s.kids)=true<;>simp[hk]
   rw[hic]at e2;exact IF h1 e2 rfl (by omega)
theorem ZB (H:Ss n R1 R2 T (SW s))(V:SK n s v)(S:Ji n)(hN:2000000<=N):Ln n R1 R2 N v s:=by
 obtain⟨b,hb1,hb2⟩:=Yt (n:=n) (s:=s) V.lS (by have:=V.Ov;omega);by_cases h0:s.op=0
 ·exact qD V hN hb1 hb2 h0
 by_cases h1:s.op=1∨s.op=2∨s.op=3∨s.op=4
 ·exact lM V hN hb1 hb2 h1
 by_cases h5:s.op=5
 ·exact lx V hN hb1 hb2 h5
 by_cases h6:s.op=6
 ·exact qQ V S hN hb1 hb2 h6
 by_cases h7:s.op=7
 ·exact sO H V S hN hb1 hb2 h7
 by_cases h8:s.op=8
 ·exact mj H V S hN hb1 hb2 h8
 by_cases h9:s.op=9
 ·exact pA V S hN hb1 hb2 h9
 by_cases h10:s.op=10
 ·exact kt V S hN hb1 hb2 h10
 by_cases h11:s.op=11
 ·exact ku V S hN hb1 hb2 h11
 by_cases hc:s.op=14∨s.op=15∨s.op=16∨s.op=17
 ·exact lJ V S hN hb1 hb2 hc
 exact lN V hN hb1 hb2 (by omega)
end
end RC
namespace RC
open Go
section
variable {n : AL} {R1 : AL -> List Int -> Block -> Option Int} {R2 : Ap -> List Int -> Block -> Option Int} {T : List Int -> Block -> Int} {b : Block} {v : List Int} {N : Nat}
theorem Q8 (o:Int):JP o=some (decide (0<=o)&&decide (o<=11)):=by unfold JP;rw[DD];rfl
theorem Zb {l:List Step}{s:Step}(h:s∈l):SW s<=Ld l:=by
 induction l with
 | nil=>cases h
 | cons c k ih=>
  simp only[Ld];rcases uz.1 h with rfl|h
  ·omega
  ·have:=ih h;omega
structure BK (n:AL) (b:Block) (v:List Int):Prop where
 ay:Lt b
 size:Bs b
 len:v.length+4*E3 b<=4000
 lS :∀x∈v,Dg n.decls x=true
theorem WI (H:Ss n R1 R2 T (E3 b))(B:BK n b v)(S:Ji n)(hN:2000000<=N):∃o:Option (List Int),
  Bh N n b R1 N 0 v=some (o.elim (.inl (-1)) .inr)/\BZ N (CL n) b R2 N 0 v=some (o.elim (.inl (-1)) .inr)/\∀l,o=some l->l.length<=8000/\∀x∈l,Dg n.decls x=true:=by
 have hb:=B.size;have hsl:=hb.len;have key:∀{M i:Nat},i<=b.steps.length->b.steps.length-i<M->∀w:List Int,w.length+4*Ld (b.steps.drop i)<=4000->(∀x∈w,Dg n.decls x=true)->∃o:Option (List Int),
   Bh N n b R1 M i w=some (o.elim (.inl (-1)) .inr)/\BZ N (CL n) b R2 M i w=some (o.elim (.inl (-1)) .inr)/\∀l,o=some l->l.length<=8000/\∀x∈l,Dg n.decls x=true:=by
  intro M i hi hM;refine BQ b.steps.length (λM i=>∀w:List Int,w.length+4*Ld (b.steps.drop i)<=4000->(∀x∈w,Dg n.decls x=true)->∃o:Option (List Int),
   Bh N n b R1 M i w=some (o.elim (.inl (-1)) .inr)/\BZ N (CL n) b R2 M i w=some (o.elim (.inl (-1)) .inr)/\∀l,o=some l->l.length<=8000/\∀x∈l,Dg n.decls x=true) ?_ ?_ hi hM
  ·intro q w hw ht;refine⟨some w,?_,?_,λl hl=>?_⟩
   ·rw[Bh,CX];rfl
   ·rw[BZ,CX];rfl
   ·cases hl;exact⟨by omega,ht⟩
  ·intro q i hi ih w hw ht;obtain⟨s,hs,hsm⟩:=BX hi;rw[T6 hs]at hw;have hn1:=Zb hsm;have hn2:=N1 b;have hz:=LI hsm;have hbz:KF b<=1048576:=hb;have V:SK n s w:=⟨B.ay.steps.1 s hsm,by omega,by omega,ht⟩
   obtain⟨y,t,ok,e1,e2,e3⟩:=ZB (T:=T) (N:=N) (λv b a1 a2 a3 a4 a5=>H v b a1 a2 (by omega) a4 a5) V S hN;have f1:Bh N n b R1 (q+1) i w=Sh.cont (if decide (y<0)=true then some (Sum.inl (Sum.inl (-1))) else (JP s.op).bind λq33=>if q33=true then (Sh.app w [y] 8).bind λl35=>some (Sum.inr l35) else some (Sum.inr w)) id λl23=>Bh N n b R1 q ((i+1:Nat):Int) l23:=by
    rw[Bh,Cj,Ao hs,uJ,e1,wI,show ((i:Int)+1)=((i+1:Nat):Int) by omega];rfl
   have f2:BZ N (CL n) b R2 (q+1) i w=Sh.cont (if (!ok)=true then some (Sum.inl (Sum.inl (-1))) else (Dh s.op).bind λq36=>if (!q36)=true then (Sh.app w [t] 8).bind λl39=>some (Sum.inr l39) else some (Sum.inr w)) id λl23=>BZ N (CL n) b R2 q ((i+1:Nat):Int) l23:=by
    rw[BZ,Cj,Ao hs,uJ,e2,wI,show ((i:Int)+1)=((i+1:Nat):Int) by omega];rfl
   rw[f1,f2,Q8,Ns];cases ok with
   | false=>
    simp only[uN,uf]at e3;exact⟨none,by simp[e3,Sh.cont],by simp[Sh.cont],λl hl=>nomatch hl⟩
   | true=>
    simp only[vH]at e3;obtain⟨e3,e4⟩:=e3;have e3':¬ y<0:=by omega
    have hns:=RX s;cases hc:Oi s.op with
    | true=>
     have hop:(decide (0<=s.op)&&decide (s.op<=11))=false:=by
      unfold Oi at hc;simp only[uT,uj]at hc;rw[ve,uW,uW];omega
     obtain⟨o,g1,g2,g3⟩:=ih w (by omega) ht;refine⟨o,?_,?_,g3⟩
     ·rw[hop,<- g1];simp[e3',Sh.cont]
     ·rw[<- g2];simp[Sh.cont]
    | false=>
     rw[hc]at e4;simp only[uN,uf]at e4;obtain⟨rfl,e5,e6,e7⟩:=e4;have hop:(decide (0<=s.op)&&decide (s.op<=11))=true:=by
      rw[uT,uj,uj];exact⟨e6,e7⟩
     obtain⟨o,g1,g2,g3⟩:=ih (w++[t]) (by rw[uu];simp only[vD,vl];omega) (λx hx=>by
      rcases vJ.1 hx with h|h
      ·exact ht x h
      ·simp only[vQ]at h;rw[h];exact e5)
     refine⟨o,?_,?_,g3⟩
     ·rw[hop,<- g1,BU w [t] 8 (by simp;omega) (by simp;omega)];simp[e3',Sh.cont]
     ·rw[<- g2,BU w [t] 8 (by simp;omega) (by simp;omega)];simp[Sh.cont]
 have:=key (ue _) (by omega:b.steps.length-0<N) v (by rw[vG,<- N1];exact B.len) B.lS;simpa using this
theorem fL (H:Ss n R1 R2 T (E3 b))(B:BK n b v)(S:Ji n)(hN:2000000<=N):∃t,Dm N R1 n v b=some t/\Di N R2 (CL n) v b=some t/\(t=-1∨Dg n.decls t=true):=by
 have hvl:v.length<=4000:=by have:=B.len;omega
 obtain⟨o,h1,h2,h3⟩:=WI H B S hN;unfold Dm Di DB Bu;rw[BU [] v 8 (by simp;omega) (by simp;omega)];simp only[uJ,vh];rw[h1,h2];cases o with
 | none=>exact⟨-1,rfl,rfl,.inl rfl⟩
 | some l=>
  obtain⟨l1,l2⟩:=h3 l rfl;simp only[wG,Sh.Kd];rw[DD,Ah,wI];by_cases hr:0<=b.result/\b.result<(l.length:Int)
  ·obtain⟨x,x1,x2⟩:=PZ hr.1 hr.2;have r1:b.result<=(l.length:Int)-1:=by omega
   have r2:¬ b.result<0:=by omega
   have r3:¬ (l.length:Int)<=b.result:=by omega
   exact⟨x,by simp[hr.1,r1,x1],by simp[r2,r3,x1],.inr (l2 x (uL x2))⟩
  ·refine⟨-1,?_,?_,.inl rfl⟩
   ·have:(decide (0<=b.result)&&decide (b.result<=(l.length:Int)-1))=false:=by
     rw[ve,uW,uW];omega
    rw[this];simp
   ·by_cases r2:b.result<0
    ·simp[r2]
    ·have r3:(l.length:Int)<=b.result:=by omega
     simp[r2,r3]
end
theorem V6 {n:AL}(S:Ji n){N:Nat}(hN:2000000<=N):∀(m:Nat),∃T:List Int->Block->Int,∀(v:List Int) (b:Block),E3 b<m->BK n b v->
  ∀n1 n2,m<=n1->m<=n2->Dn N n1 n v b=some (T v b)/\Cq N n2 (CL n) v b=some (T v b)/\(T v b=-1∨Dg n.decls (T v b)=true):=by
 intro m
 induction m with
 | zero=>exact⟨λ_ _=>0,λv b h=>by omega⟩
 | succ m ih=>
  obtain⟨T,hT⟩:=ih;refine⟨λv b=>(Dn N (m+1) n v b).getD 0,λv b hn B n1 n2 h1 h2=>?_⟩;have step:∀n1 n2,m<=n1->m<=n2->∃t,Dm N (Dn N n1) n v b=some t/\Di N (Cq N n2) (CL n) v b=some t/\(t=-1∨Dg n.decls t=true):=λn1 n2 h1 h2=>
   fL (T:=T) (λv c a1 a2 a3 a4 a5=>hT v c (by omega) ⟨a1,a2,a4,a5⟩ n1 n2 h1 h2) B S hN
  obtain⟨m1,rfl⟩ :∃q,n1=q+1:=⟨n1-1,by omega⟩
  obtain⟨m2,rfl⟩ :∃q,n2=q+1:=⟨n2-1,by omega⟩
  obtain⟨t,q1,q2,q3⟩:=step m m (uq _) (uq _);obtain⟨t',r1,r2,_⟩:=step m m2 (uq _) (by omega);obtain⟨t'',s1,s2,_⟩:=step m1 m (by omega) (uq _);have e1:t'=t:=by rw[q1]at r1;cases r1;rfl
  have e2:t''=t:=by rw[q2]at s2;cases s2;rfl
  subst e1;subst e2;have e3:(Dn N (m+1) n v b).getD 0=t'':=by rw[Dn,q1];rfl
  dsimp only;rw[e3];exact⟨by rw[Dn];exact s1,by rw[Cq];exact r2,q3⟩
end RC
namespace RC
open Go
structure OJ (r:Ad):Prop where
 params:F7 Mm r.params
 Aq:F7 Mm r.Aq
 result:Mm r.result
 body:Lt r.body
structure Rx (n:AL):Prop where
 decls:F7 TV n.decls
 AF:F7 OJ n.AF
def OH (r:Ad):Nat:=r.params.length+r.Aq.length+KF r.body
def RW (n:AL):Nat:=(n.decls.length+(n.decls.map dz).sum)+(n.AF.length+(n.AF.map OH).sum)
theorem fD {b:Block}(hb:Lt b){left:Int}(h0:0<=left)(h1:left<=1048576){N:Nat}(hN:2000000<=N):OB N b left=some (Ys left (KF b)):=by
 unfold OB;rw[bW hN N b left hb h0 h1 (by omega)];rfl
theorem bB {r:Ad}(hr:OJ r){left:Int}(h0:0<=left)(h1:left<=1048576){N:Nat}(hN:2000000<=N):KL N r left=some (Ys left (OH r)):=by
 unfold KL OH;rw[Ru h0 h1 hr.params.2,uJ];by_cases h:left-(r.params.length:Int)<0
 ·rw[uX h,GW (by omega)];rfl
 ·rw[uY h,uY (by simpa using h),Ru (by omega) (by omega) hr.Aq.2,uJ];by_cases h2:left-(r.params.length:Int)-(r.Aq.length:Int)<0
  ·rw[uX h2,GW (by omega)];rfl
  ·rw[uY h2,uY (by simpa using h2),fD hr.body (by omega) (by omega) hN,uJ];by_cases h3:left-(r.params.length:Int)-(r.Aq.length:Int)-(KF r.body:Int)<0
   ·rw[GW h3,GW (by omega)];rfl
   ·rw[I5 h3,I5 (by omega),uY (by simpa using h3)];congr 1;omega
theorem aT {l:List Ad}(hl:F7 OJ l){left:Int}(h0:0<=left)(h1:left<=1048576){N:Nat}(hN:2000000<=N):Jj N l left=some (Ys left (l.length+(l.map OH).sum)):=by
 have hlen:=hl.2;unfold Jj;rw[Ah,wI];by_cases h2:left-(l.length:Int)<0
 ·rw[uX (by simpa using h2),GW (by omega)]
 ·rw[uY (by simpa using h2),ZQ (l:=l) OH (Fg N l) (λn l=>by rw[Fg,CX]) (λn i x l' hx l0 l1=>?_) (by omega) (by omega) (by omega)]
  ·by_cases h3:left-(l.length:Int)-((l.map OH).sum:Nat)<0
   ·rw[uX h3,GW (by omega)];rfl
   ·rw[uY h3,I5 (by omega)];simp only[Sh.Kd];congr 1;omega
  ·have hi:=(uK.1 hx).1;rw[Fg,Cj,Ao hx,uJ,bB (hl.1 x (uL hx)) l0 l1 hN,uJ];by_cases h3:l'-(OH x:Int)<0
   ·rw[GW h3,uX h3];rfl
   ·rw[I5 h3,uY h3,uY (by simpa using h3),wI,show ((i:Int)+1)=((i+1:Nat):Int) by omega]
theorem dh {n:AL}(H:Rx n){left:Int}(h0:0<=left)(h1:left<=1048576){N:Nat}(hN:2000000<=N):LL N n left=some (Ys left (RW n)):=by
 unfold LL RW;rw[gu H.decls h0 h1 hN,uJ];by_cases h:left-((n.decls.length+(n.decls.map dz).sum:Nat):Int)<0
 ·rw[GW h,GW (by omega)];rfl
 ·rw[I5 h,uY (by simpa using h),aT H.AF (by omega) (by omega) hN,uJ];by_cases h3:left-((n.decls.length+(n.decls.map dz).sum:Nat):Int)-((n.AF.length+(n.AF.map OH).sum:Nat):Int)<0
  ·rw[GW h3,GW (by omega)];rfl
  ·rw[I5 h3,I5 (by omega),uY (by simpa using h3)];congr 1;omega
theorem bU {r:Ad}(h:OH r<=1048576){N:Nat}(hN:2000000<=N):KI N r=some r:=by
 unfold OH at h;unfold KI;rw[Rt (by omega) hN,Rt (by omega) hN,fG (by unfold Bs;omega) hN];rfl
theorem Zj {l:List Ad}(hl:l.length+(l.map OH).sum<=1048576){N:Nat}(hN:2000000<=N):Jk N l=some l:=by
 unfold Jk;rw[Ah,PR _ _ _ (by omega) (by omega)];simp only[uJ];rw[ZH (l:=l) (Fe N l) (λn m=>by rw[Fe,CX]) (λn i x m hx hm=>?_) (by omega) (by simp)]
 ·rfl
 ·have hi:=(uK.1 hx).1;have hz:=Ij OH (uL hx);obtain⟨y,hy,_⟩:=BX (l:=m) (i:=i) (by omega);rw[Fe,Cj,Ao hx];simp only[uJ];rw[bU (by omega) hN,Ao hy];simp only[uJ];rw[Pk,wI,show ((i:Int)+1)=((i+1:Nat):Int) by omega]
theorem eA {n:AL}(h:RW n<=1048576){N:Nat}(hN:2000000<=N):HW N n=some n:=by
 unfold RW at h;unfold HW;rw[fX (by omega) hN,Zj (by omega) hN];rfl
theorem bh {r:Ad}(h:OH r<=1048576){N:Nat}(hN:2000000<=N):KG N r r=some true:=by
 unfold OH at h;unfold KG;rw[Rw (by omega) hN,Rw (by omega) hN,fV (by unfold Bs;omega) hN];simp
theorem Zi {l:List Ad}(hl:l.length+(l.map OH).sum<=1048576){N:Nat}(hN:2000000<=N):Jt N l l=some true:=by
 unfold Jt;have L:=DU (l:=l) (Ff N l l) (λ_ _=>true) (λn=>by rw[Ff,CX]) (λn i x hx=>?_) (by omega:l.length<N)
 ·rw[EU (p:=λ_=>true)]at L;simp[L,Sh.cont]
 ·have hi:=(uK.1 hx).1;have hz:=Ij OH (uL hx);rw[Ff,Cj,Ao hx];simp only[uJ];rw[bh (by omega) hN,wI,show ((i:Int)+1)=((i+1:Nat):Int) by omega];rfl
theorem WH {n:AL}(h:RW n<=1048576){N:Nat}(hN:2000000<=N):Hf N n n=some true:=by
 unfold RW at h;unfold Hf;rw[gH (by omega) hN,Zi (by omega) hN];rfl
structure Ki (n:AL):Prop where
 ay:Rx n
 size:RW n<=1048576
theorem Ki.decls {n:AL}(S:Ki n):Ts n.decls:=by
 have h:=S.size;unfold RW at h;have hd:∀d∈n.decls,dz d<=1048576:=λd hd=>by have:=Ij dz hd;omega
 refine⟨by omega,λd hm=>?_,λd hm c hc=>?_⟩
 ·have:=hd d hm;unfold dz at this;omega
 ·have:=hd d hm;unfold dz at this;have:=Ij cz hc;show cz c<=_;omega
theorem Ki.S5 {n:AL}(S:Ki n):n.AF.length<=1048576:=by have h:=S.size;unfold RW at h;omega
theorem Ki.rz {n:AL}(S:Ki n){r:Ad}(hr:r∈n.AF):r.params.length<=1048576/\r.Aq.length<=1048576/\Bs r.body:=by
 have h:=S.size;unfold RW at h;have h2:=Ij OH hr;have h3:OH r=r.params.length+r.Aq.length+KF r.body:=rfl;unfold Bs;omega
theorem da {n:AL}(hl:n.AF.length<=1048576){N:Nat}(hN:2000000<=N):NG N n=some ⟨n.decls,n.AF.map UX⟩:=by
 have key:∀{N i:Nat},i<=n.AF.length->n.AF.length-i<N->G2 n N i ((n.AF.take i).map UX)=some (n.AF.map UX):=by
  intro N i hi hN;refine BQ n.AF.length (λN i=>G2 n N i ((n.AF.take i).map UX)=some (n.AF.map UX)) ?_ ?_ hi hN
  ·intro q;rw[G2,CX,vp]
  ·intro q i hi ih;obtain⟨r,hr,_⟩:=BX hi;rw[G2,Cj,Ao hr,uJ,BU _ _ _ (by simp;omega) (by simp;omega),wI,show ((i:Int)+1)=((i+1:Nat):Int) by omega,uJ];rw[<- ih,Ep hr,vx];rfl
 have:=key (ue _) (by omega:n.AF.length-0<N);rw[zQ,yO,wW]at this;unfold NG;rw[this];rfl
theorem fv {n:AL}(hl:n.AF.length<=1048576){N:Nat}(hN:2000000<=N):D4 n N 0 []=some (CL n).funcs:=by
 have key:∀{N i:Nat},i<=n.AF.length->n.AF.length-i<N->D4 n N i ((n.AF.take i).map λr=>(⟨r.params,r.Aq,r.result⟩:Aw))=some (CL n).funcs:=by
  intro N i hi hN;refine BQ n.AF.length (λN i=>D4 n N i ((n.AF.take i).map λr=>(⟨r.params,r.Aq,r.result⟩:Aw))=some (CL n).funcs) ?_ ?_ hi hN
  ·intro q;rw[D4,CX,vp];rfl
  ·intro q i hi ih;obtain⟨r,hr,_⟩:=BX hi;rw[D4,Cj,Ao hr,uJ,BU _ _ _ (by simp;omega) (by simp;omega),wI,show ((i:Int)+1)=((i+1:Nat):Int) by omega,uJ];rw[<- ih,Ep hr,vx];rfl
 have:=key (ue _) (by omega:n.AF.length-0<N);simpa using this
def ZP (r:Ad):Bool:=Eb (It r.params r.Aq) 0 r.Aq
def eD (n:AL):Bool:=decide (n.AF.length<=4)&&(TC n.decls (n.AF.map λr=>(r.params,r.result))&&n.AF.all ZP)
theorem Xw {n:AL}(S:Ki n){N:Nat}(hN:2000000<=N):G8 N n=some (eD n):=by
 have hl:=S.S5;unfold G8 eD;have L:=DU (l:=n.AF) (Dt N n) (λ_ r=>ZP r) (λq=>by rw[Dt,CX]) (λq i r hi=>by
  have hil:=(uK.1 hi).1;obtain⟨z1,z2,z3⟩:=S.rz (uL hi);rw[Dt,Cj,Ao hi,uJ,VL z1 z2 hN,wI,show ((i:Int)+1)=((i+1:Nat):Int) by omega,uJ];unfold ZP;cases Eb (It r.params r.Aq) 0 r.Aq<;>rfl) (by omega:n.AF.length<N)
 rw[EU]at L;have e1:(n.AF.map UX).map (λf=>(f.params,f.result))=n.AF.map λr=>(r.params,r.result):=by rw[wa];rfl
 rw[da hl hN,L,EC,uJ,Us (p:=⟨n.decls,n.AF.map UX⟩) S.decls (by simpa using hl) (λf hf=>by obtain⟨r,hr,rfl⟩:=uw.1 hf;exact (S.rz hr).1) hN,e1];have e4:decide ((4:Int)<Sh.len n.AF)=!decide (n.AF.length<=4):=by rw[<- decide_not];exact vX.2 (by rw[Ah];omega)
 rw[e4,uJ];cases decide (n.AF.length<=4)<;>cases TC n.decls (n.AF.map λr=>(r.params,r.result))<;>cases n.AF.all ZP<;>rfl
theorem Xv {n:AL}(S:Ki n){N:Nat}(hN:2000000<=N):∃q,G9 N n=some (q,eD n)/\(eD n=true->q=CL n):=by
 have hl:=S.S5;unfold G9 eD;have e4:decide ((4:Int)<Sh.len n.AF)=!decide (n.AF.length<=4):=by rw[<- decide_not];exact vX.2 (by rw[Ah];omega)
 rw[e4,fv hl hN,uJ,VV S.decls (by rw[IZ];exact hl) (λf hf=>by obtain⟨r,hr,rfl⟩:=uw.1 (show f∈n.AF.map _ from hf);exact⟨(S.rz hr).1,(S.rz hr).2.1⟩) hN];have e1:((CL n).funcs.map λf=>(f.params,f.result))=n.AF.map λr=>(r.params,r.result):=by
  show (n.AF.map _).map _=_;rw[wa];rfl
 have e2:((CL n).funcs.all λf=>Eb (It f.params f.Aq) 0 f.Aq)=n.AF.all ZP:=by
  show (n.AF.map _).all _=_;rw[ye];rfl
 rw[e1,e2];cases h4:decide (n.AF.length<=4) with
 | false=>exact⟨⟨[],[]⟩,rfl,λh=>by simp at h⟩
 | true=>exact⟨CL n,rfl,λ_=>rfl⟩
def Ob (T:List Int->Block->Int)(r:Ad):Bool:=decide (E3 r.body<=600)&&decide (T r.params r.body=r.result)
theorem Vn {n:AL}(S:Ki n){N:Nat}(hN:2000000<=N):∃b,Fs N n=some b/\JE N n=some b:=by
 have hl:=S.S5;obtain⟨q,h1,h2⟩:=Xv S hN;unfold Fs JE;rw[Xw S hN,h1];simp only[uJ];cases hs:eD n with
 | false=>exact⟨false,rfl,rfl⟩
 | true=>
  have hq:=h2 hs;subst hq;have SO:Ji n:=by
   unfold eD at hs;simp only[uT]at hs;have:=QT.of (p:=⟨n.decls,n.AF.map UX⟩) (by
    rw[show List.map (λf:Kf=>(f.params,f.result)) (n.AF.map UX)=n.AF.map λr=>(r.params,r.result) by rw[wa];rfl];exact hs.2.1)
   exact this
  obtain⟨T,hT⟩:=V6 SO hN 601;have hty:∀r∈n.AF,E3 r.body<=600->Br N n r.params r.body=some (T r.params r.body)/\Bn N (CL n) r.params r.body=some (T r.params r.body):=λr hr he=>by
   obtain⟨q1,q2,q3⟩:=SO.kX (UX r) (xc hr);have q1':r.params.length<=3:=q1;obtain⟨z1,z2,z3⟩:=hT r.params r.body (by omega) ⟨(S.ay.AF.1 r hr).body,(S.rz hr).2.2,by omega,q2⟩ N N (by omega) (by omega);exact⟨z1,z2⟩
  have L1:=DU (l:=n.AF) (DF N n) (λ_ r=>Ob T r) (λq=>by rw[DF,CX]) (λq i r hi=>by
   have hil:=(uK.1 hi).1;have hr:=uL hi;rw[DF,Cj,Ao hi];simp only[uJ];rw[Qv (S.rz hr).2.2 hN,wI,show ((i:Int)+1)=((i+1:Nat):Int) by omega];simp only[uJ];unfold Ob;by_cases he:E3 r.body<=600
   ·rw[uX he,uY (by simp),(hty r hr he).1];by_cases hq:T r.params r.body=r.result<;>simp[he,hq]
   ·rw[uY he];simp[he]) (by omega:n.AF.length<N)
  have L2:=DU (l:=n.AF) (FG N n (CL n,true)) (λ_ r=>Ob T r) (λq=>by rw[FG,CX]) (λq i r hi=>by
   have hil:=(uK.1 hi).1;have hr:=uL hi;rw[FG,Cj,Ao hi];simp only[uJ];rw[Xi (S.rz hr).2.2 hN,wI,show ((i:Int)+1)=((i+1:Nat):Int) by omega];simp only[uJ];unfold Ob;by_cases he:E3 r.body<=600
   ·rw[uX he,uY (by simp),(hty r hr he).2];by_cases hq:T r.params r.body=r.result<;>simp[he,hq]
   ·rw[uY he];simp[he]) (by omega:n.AF.length<N)
  rw[EU]at L1 L2;refine⟨n.AF.all (Ob T),?_,?_⟩
  ·simp only[vT,uN,uf];rw[L1,EC];cases n.AF.all (Ob T)<;>rfl
  ·simp only[vT,uN,uf];rw[L2,EC];cases n.AF.all (Ob T)<;>rfl
end RC
namespace RC
open Go
def kv (s:Step):Bool:=!Oi s.op&&decide (s.BF=0)
mutual
def mA:Step->Bool|.mk o _ i _ k=>(!Oi o&&decide (i=0))&&Zx k
def Zx:List (GX Step)->Bool|[]=>true|b::k=>OE b&&Zx k
def OE:GX Step->Bool|⟨ss,_⟩=>dQ ss
def dQ:List Step->Bool|[]=>true|s::l=>mA s&&dQ l
end
theorem Yg (s:Step):mA s=(kv s&&Zx s.kids):=by cases s;simp only[mA];rfl
theorem Yj (b:Block):OE b=dQ b.steps:=by cases b;simp[OE]
theorem Z6:∀k:List Block,Zx k=k.all OE
 | []=>rfl
 | b::k=>by rw[xT,<- Z6 k];simp only[Zx]
theorem WR:∀l:List Step,dQ l=l.all mA
 | []=>rfl
 | s::l=>by rw[xT,<- WR l];simp only[dQ]
theorem lY {b:Block}{rec:Block->Option Bool}{i:Nat}{s:Step}(hs:b.steps[i]?=some s)(hk:s.kids.length<=1048576)(hrec :∀c∈s.kids,rec c=some (OE c)){N:Nat}(hN:2000000<=N):
  Dz i b rec N 0=some (if Zx s.kids=true then .inr () else .inl false):=by
 have L:=DU (l:=s.kids) (Dz i b rec) (λ_ c=>OE c) (λq=>by
  rw[Dz,Ao hs,uJ];rw[CX]) (λq k c hc=>by
  have hkl:=(uK.1 hc).1;rw[Dz,Ao hs,uJ,Cj,Ao hc,uJ,hrec c (uL hc),wI,show ((k:Int)+1)=((k+1:Nat):Int) by omega,uJ];cases OE c<;>rfl) (by omega:s.kids.length<N)
 rw[L,EU,Z6]
theorem bJ {N:Nat}(hN:2000000<=N):∀(m:Nat) (b:Block),Bs b->KF b<m->GG N m b=some (OE b):=by
 intro m
 induction m with
 | zero=>intro b _ h;omega
 | succ m ih=>
  intro b hb hm;have hl:=hb.len;rw[GG];unfold KC;have L:=DU (l:=b.steps) (Eu N b (GG N m)) (λ_ s=>mA s) (λq=>by rw[Eu,CX]) (λq i s hs=>by
   have hil:=(uK.1 hs).1;have hsm:=uL hs;rw[Eu,Cj,Ao hs,uJ,cr,lY hs (Nu hb hsm) (λc hc=>ih c (MG hb hsm hc).1 (by have:=(MG hb hsm hc).2;omega)) hN,wI,show ((i:Int)+1)=((i+1:Nat):Int) by omega,EC,Yg,uJ];unfold kv;by_cases h0:s.BF=0<;>cases Oi s.op<;>cases Zx s.kids<;>simp[h0]) (by omega:b.steps.length<N)
  rw[L,EU,EC,Yj,WR];cases b.steps.all mA<;>rfl
theorem UF {N:Nat}(hN:2000000<=N){b:Block}(hb:Bs b):LU N b=some (OE b):=by
 unfold LU;exact bJ hN N b hb (by unfold Bs at hb;omega)
theorem mO (f:Bool)(s:Step):HZ f s=some (f&&kv s):=by
 unfold HZ kv;rw[Ns,uJ];cases f<;>cases Oi s.op<;>rfl
theorem lD {s:Step}{rec:Bool->Block->Option Bool}(hk:s.kids.length<=1048576)(hrec :∀c∈s.kids,∀f,rec f c=some (f&&OE c)){N i:Nat}(hi:i<=s.kids.length)(hN:s.kids.length-i<N):∀f:Bool,Dy s rec N i f=some (f&&Zx (s.kids.drop i)):=by
 refine BQ s.kids.length (λN i=>∀f:Bool,Dy s rec N i f=some (f&&Zx (s.kids.drop i))) ?_ ?_ hi hN
 ·intro n f;rw[Dy,CX];simp[Zx]
 ·intro n i hi ih f;obtain⟨c,hc,hcm⟩:=BX hi;rw[Dy,Cj,Ao hc,uJ,hrec c hcm,wI,show ((i:Int)+1)=((i+1:Nat):Int) by omega,drop_cons hc,uJ,ih,Zx,yM]
theorem lC {b:Block}{rec:Bool->Block->Option Bool}{M:Nat}(hM:2000000<=M)(hb:Bs b)(hrec :∀s∈b.steps,∀c∈s.kids,∀f,rec f c=some (f&&OE c)){N i:Nat}(hi:i<=b.steps.length)(hN:b.steps.length-i<N):∀f:Bool,D3 M b rec N i f=some (f&&dQ (b.steps.drop i)):=by
 have hl:=hb.len;refine BQ b.steps.length (λN i=>∀f:Bool,D3 M b rec N i f=some (f&&dQ (b.steps.drop i))) ?_ ?_ hi hN
 ·intro n f;rw[D3,CX];simp[dQ]
 ·intro n i hi ih f;obtain⟨s,hs,hsm⟩:=BX hi;rw[D3,Cj,Ao hs,uJ];have l2:=lD (s:=s) (Nu hb hsm) (hrec s hsm) (ue _) (by have:=Nu hb hsm;omega:s.kids.length-0<M) (f&&kv s);rw[zQ,vG]at l2;rw[mO,uJ,l2,wI,show ((i:Int)+1)=((i+1:Nat):Int) by omega,drop_cons hs,uJ,ih,dQ,Yg,yM,yM,yM]
theorem bL {N:Nat}(hN:2000000<=N):∀(m:Nat) (b:Block),Bs b->KF b<m->∀f,F9 N m f b=some (f&&OE b):=by
 intro m
 induction m with
 | zero=>intro b _ h;omega
 | succ m ih=>
  intro b hb hm f;have hl:=hb.len;rw[F9];unfold J7;have L:=lC hN hb (rec:=F9 N m) (λs hs c hc=>ih c (MG hb hs hc).1 (by have:=(MG hb hs hc).2;omega)) (ue _) (by omega:b.steps.length-0<N) f;rw[zQ,vG]at L;rw[L,Yj];rfl
theorem Sg {N:Nat}(hN:2000000<=N){b:Block}(hb:Bs b):Im N b=some (OE b):=by
 unfold Im Nc;rw[bL hN N b hb (by unfold Bs at hb;omega)];simp
theorem bn {n:AL}(S:Ki n){N:Nat}(hN:2000000<=N):∃v b,Fs N n=some v/\(b=true->v=true/\∀r∈n.AF,OE r.body=true)/\Qc N n=some b/\Lx N n=some b:=by
 have hl:=S.S5;obtain⟨v,h1,h2⟩:=Vn S hN;unfold Qc JX Lx;rw[h1,h2];simp only[uJ];cases v with
 | false=>exact⟨_,false,rfl,(λh=>by cases h),rfl,rfl⟩
 | true=>
  have L1:=DU (l:=n.AF) (HP N n) (λ_ r=>OE r.body) (λq=>by rw[HP,CX]) (λq i r hi=>by
   have hil:=(uK.1 hi).1;have hr:=uL hi;rw[HP,Cj,Ao hi];simp only[uJ];rw[UF hN (S.rz hr).2.2,wI,show ((i:Int)+1)=((i+1:Nat):Int) by omega];simp only[uJ];cases OE r.body<;>rfl) (by omega:n.AF.length<N)
  have L2:=DU (l:=n.AF) (HN N n) (λ_ r=>OE r.body) (λq=>by rw[HN,CX]) (λq i r hi=>by
   have hil:=(uK.1 hi).1;have hr:=uL hi;rw[HN,Cj,Ao hi];simp only[uJ];rw[Sg hN (S.rz hr).2.2,wI,show ((i:Int)+1)=((i+1:Nat):Int) by omega];simp only[uJ];cases OE r.body<;>rfl) (by omega:n.AF.length<N)
  rw[EU]at L1 L2;refine⟨_,n.AF.all λr=>OE r.body,rfl,λh=>⟨rfl,by simpa using h⟩,?_,?_⟩
  ·simp only[vT,uN,uf];rw[L1,EC];cases (n.AF.all λr=>OE r.body)<;>rfl
  ·simp only[vT,uN,uf];rw[L2,EC];cases (n.AF.all λr=>OE r.body)<;>rfl
end RC
namespace RC
open Go
def Pg:Nat->Nat->List Int
 | _,0=>[]
 | k,n+1=>(k:Int)::Pg (k+1) n
theorem dE:∀(n k:Nat),(Pg k n).length=n
 | 0,_=>rfl
 | n+1,k=>by simp[Pg,dE n]
theorem Gi {α:Type}(A B:List α)(x:α):Sh.get (A++x::B) (A.length:Int)=some x:=Ao (by simp)
theorem Jc {α:Type}(A B:List α)(x y:α):Sh.put (A++x::B) (A.length:Int) y=A++y::B:=by rw[Pk];simp
theorem SH:∀(B A:List Int) (k n:Nat),B.length<n->A.length+B.length<=2000000->k+B.length<=100000000->
  Gw n (k:Int) (A.length:Int) (A++B)=some (((k+B.length:Nat):Int),A++Pg k B.length)
 | [],A,k,n,hn,_,_=>by
  obtain⟨n,rfl⟩ :∃m,n=m+1:=⟨n-1,by simp at hn;omega⟩
  rw[Gw,uY (by simp[Ah])];simp[Pg]
 | b::B,A,k,n,hn,h1,h2=>by
  simp only[vD]at hn h1 h2⊢;obtain⟨n,rfl⟩ :∃m,n=m+1:=⟨n-1,by omega⟩
  have ih:=SH B (A++[(k:Int)]) (k+1) n (by omega) (by simp;omega) (by omega);rw[Gw,uX (by simp[Ah];omega),Gi,Jc,cJ (by omega) (by omega),cJ (by omega) (by omega),uJ];rw[uu,vP,vP]at ih;simp only[vD,vl,xz,vh]at ih;have e1:((A.length:Int)+1)=((A.length+(0+1):Nat):Int):=by omega
  have e2:((k:Int)+1)=((k+1:Nat):Int):=by omega
  rw[e1,e2,ih];simp only[Pg,show k+1+B.length=k+(B.length+1) by omega]
theorem O7 {l:List Int}(hl:l.length<=1048576){k:Nat}(hk:k<=50000000){N:Nat}(hN:2000000<=N):He N l (k:Int)=some (((k+l.length:Nat):Int),Pg k l.length):=by
 unfold He;have:=SH l [] k N (by omega) (by simp;omega) (by omega);rw[vl,vh,vh]at this;rw[show (0:Int)=((0:Nat):Int) from rfl,this];rfl
theorem SC:∀(m:Nat) (A:List Int) (k n:Nat),m<n->A.length+m<=2000000->k+m<=100000000->
  Gk (A++Pg k m) n (k:Int) (A.length:Int)=some (Sum.inr (((k+m:Nat):Int)))
 | 0,A,k,n,hn,_,_=>by
  obtain⟨n,rfl⟩ :∃m,n=m+1:=⟨n-1,by omega⟩
  rw[Gk,uY (by simp[Ah,Pg])];simp
 | m+1,A,k,n,hn,h1,h2=>by
  obtain⟨n,rfl⟩ :∃m,n=m+1:=⟨n-1,by omega⟩
  have ih:=SC m (A++[(k:Int)]) (k+1) n (by omega) (by simp;omega) (by omega);rw[Gk,uX (by simp[Ah,dE];omega)];simp only[Pg];rw[Gi,wI,wI];simp only[uJ,vB,vT,uN,uf];rw[uu,vP]at ih;simp only[vD,vl,xz,vh]at ih;have e1:((A.length:Int)+1)=((A.length+(0+1):Nat):Int):=by omega
  have e2:((k:Int)+1)=((k+1:Nat):Int):=by omega
  rw[e1,e2,ih];simp only[show k+1+m=k+(m+1) by omega]
theorem O4 {m:Nat}(hl:m<=1048576){k:Nat}(hk:k<=50000000){N:Nat}(hN:2000000<=N):Hd N (Pg k m) (k:Int)=some (((k+m:Nat):Int)):=by
 unfold Hd;have:=SC m [] k N (by omega) (by simp;omega) (by omega);rw[vl,vh]at this;rw[show (0:Int)=((0:Nat):Int) from rfl,this];rfl
theorem de {α:Type}{f g:α->Nat}{a b:Nat}:∀{l:List α},(∀x∈l,f x<=a+b*g x)->(l.map f).sum<=a*l.length+b*(l.map g).sum
 | [],_=>by simp
 | x::r,h=>by
  have h1:=h x (by simp);have h2:=de (l:=r) λy hy=>h y (by simp[hy]);simp only[vK,wz,vD,Nat.mul_add];omega
theorem Fq {n:Nat}(h:n<=100000000):Sh.w ((n:Int)+1)=((n+1:Nat):Int):=by
 rw[wI];rfl
def ll (d:AP):Nat:=2+(d.cons.map cz).sum
mutual
def ms:Step->Nat|.mk _ _ _ a k=>3+a.length+bP k
def bP:List (GX Step)->Nat|[]=>0|b::k=>mb b+bP k
def mb:GX Step->Nat|⟨ss,_⟩=>Yz ss+1
def Yz:List Step->Nat|[]=>0|s::l=>ms s+Yz l
end
theorem sX (s:Step):ms s=3+s.args.length+bP s.kids:=by cases s;simp only[ms];rfl
theorem sR (b:Block):mb b=Yz b.steps+1:=by cases b;simp only[mb]
theorem js:∀k:List Block,bP k=(k.map mb).sum
 | []=>rfl
 | b::k=>by rw[vK,wz,<- js k];simp only[bP]
theorem kV:∀l:List Step,Yz l=(l.map ms).sum
 | []=>rfl
 | s::l=>by rw[vK,wz,<- kV l];simp only[Yz]
mutual
theorem rj:∀s:Step,ms s<=3+3*Py s
 | .mk o _ _ a k=>by
  have h1:=kC k;simp only[ms,Py];omega
theorem kC:∀k:List (GX Step),bP k<=k.length+3*NF k
 | []=>by simp[bP]
 | b::k=>by
  have h1:=sm b;have h2:=kC k;simp only[bP,NF,vD];omega
theorem sm:∀b:GX Step,mb b<=1+3*KF b
 | ⟨ss,r⟩=>by
  have h1:=dL ss;simp only[mb,KF];omega
theorem dL:∀l:List Step,Yz l<=3*l.length+3*OG l
 | []=>by simp[Yz]
 | s::l=>by
  have h1:=rj s;have h2:=dL l;simp only[Yz,OG,vD];omega
end
def mG (r:Ad):Nat:=r.params.length+r.Aq.length+1+Yz r.body.steps+1
end RC
namespace RC
open Go
theorem T2 {α β:Type}{l:List α}(L:Nat->Int->List β->Option (List β))(g:α->β)(h0 :∀n acc,L (n+1) ((l.length:Nat):Int) acc=some acc)
  (hs :∀n i x acc,l[i]?=some x->acc.length=i->L (n+1) ((i:Nat):Int) acc=L n ((i+1:Nat):Int) (acc++[g x])) {N:Nat} (hN:l.length<N):L N 0 []=some (l.map g):=by
 have key:∀{N i:Nat},i<=l.length->l.length-i<N->L N (i:Int) ((l.take i).map g)=some (l.map g):=by
  intro N i hi hN;refine BQ l.length (λN i=>L N (i:Int) ((l.take i).map g)=some (l.map g)) ?_ ?_ hi hN
  ·intro n;rw[h0,vp]
  ·intro n i hi ih;obtain⟨x,hx,_⟩:=BX hi;rw[hs n i x _ hx (by simp;omega),<- ih,Ep hx,vx];rfl
 have:=key (ue _) (by omega:l.length-0<N);simpa using this
theorem cA {α:Type}{l:List α}(L:Nat->Int->List α->Option (List α))(g:α->α)(h0 :∀n acc,L (n+1) ((l.length:Nat):Int) acc=some acc)
  (hs :∀n (A:List α) (x:α) (C:List α),A.length+C.length<l.length->l[A.length]?=some x->L (n+1) ((A.length:Nat):Int) (A++x::C)=L n ((A.length+1:Nat):Int) (A++g x::C)) {N:Nat} (hN:l.length<N):L N 0 l=some (l.map g):=by
 have key:∀(C A:List α) (n:Nat),C.length<n->A.length<=l.length->C=l.drop A.length->L n ((A.length:Nat):Int) (A++C)=some (A++C.map g):=by
  intro C
  induction C with
  | nil=>
   intro A n hn h1 h2;obtain⟨n,rfl⟩ :∃m,n=m+1:=⟨n-1,by simp at hn;omega⟩
   have h3:=vI List.length h2;simp at h3;rw[show A.length=l.length by omega,h0];simp
  | cons x C ih=>
   intro A n hn h1 h2;have h3:=vI List.length h2;simp only[vD,xZ]at hn h3;obtain⟨n,rfl⟩ :∃m,n=m+1:=⟨n-1,by omega⟩
   have hx:l[A.length]?=some x:=by
    have:=vI (λz=>z[0]?) h2;simpa using this.symm
   rw[hs n A x C (by omega) hx];have:=ih (A++[g x]) n (by omega) (by simp;omega) (by
    rw[drop_cons hx]at h2;simpa using (yW h2).2)
   simpa using this
 have:=key l [] N hN (by simp) (by simp);simpa using this
theorem bD {l:List Int}(hl:l.length<=1048576):DB l=some l:=by
 unfold DB;rw[BU [] l 8 (by simp;omega) (by simp;omega)];rfl
theorem mV {l:List Int}(hl:l.length<=1048576):Bu l=some l:=by
 unfold Bu;rw[BU [] l 8 (by simp;omega) (by simp;omega)];rfl
theorem bR {D:List AP}{i:Nat}{d:AP}(hd:D[i]?=some d)(hz:dz d<=1048576){N:Nat}(hN:2000000<=N):FF i D N 0 []=some d.cons:=by
 unfold dz at hz;rw[T2 (l:=d.cons) (FF i D) id (λn acc=>by rw[FF,Ao hd];simp only[uJ];rw[CX]) (λn j c acc hc ha=>?_) (by omega)]
 ·simp
 ·have hj:=(uK.1 hc).1;have hcz:=Ij cz (uL hc);rw[FF,Ao hd,uJ,Cj,Ao hc,uJ,bD (show cz c<=1048576 by omega),uJ,BU acc _ 24 (by simp;omega) (by simp;omega),uJ];rw[wN];rfl
theorem br {D:List AP}(hl:D.length<=1048576)(hz :∀d∈D,dz d<=1048576){N:Nat}(hN:2000000<=N):KX N D=some D:=by
 unfold KX;rw[T2 (l:=D) (GI N D) id (λn acc=>by rw[GI,CX]) (λn j c acc hc ha=>?_) (by omega)]
 ·simp
 ·have hj:=(uK.1 hc).1;rw[GI,Cj,bR hc (hz c (uL hc)) hN,Ao hc];simp only[uJ];rw[BU acc _ 40 (by simp;omega) (by simp;omega)];simp only[uJ];rw[wN];rfl
theorem an {D:List AP}(hl:D.length<=1048576)(hz :∀d∈D,dz d<=1048576){N:Nat}(hN:2000000<=N):Jm N D=some D:=by
 unfold Jm Dd;rw[BU [] D 40 (by simp;omega) (by simp;omega)];simp only[uJ,vh];rw[cA (l:=D) (En N (Sh.len D)) id (λn acc=>by rw[En,CX]) (λn A d C hA hd=>?_) (by omega)]
 ·simp
 ·have h1:=hz d (uL hd);unfold dz at h1;rw[En,Cj,Gi,uJ];unfold DC;rw[BU [] d.cons 24 (by simp;omega) (by simp;omega)];simp only[uJ,vh];rw[cA (l:=d.cons) (Em d.cons) id (λn acc=>by rw[Em,CX]) (λn B c E hB hc=>?_) (by omega)]
  ·simp only[uJ,Jc,wJ];rw[wN];rfl
  ·have hcz:=Ij cz (uL hc);have hl:=(uK.1 hc).1;rw[Em,Cj,Ao hc,uJ,mV (show cz c<=1048576 by omega),Gi,uJ];rw[Jc,wN];rfl
end RC
