import Derived.Test.YtihdgoiebmfapaaGreatGHADefsToKTDefs
set_option linter.all false
namespace RC
open Go
theorem BP {n:Int}(h1:-9223372036854775808<=n)(h2:n<=9223372036854775807):Sh.w n=n:=Abs.wrap_i64 h1 h2
theorem AM {α:Type}(l:List α):Sh.len l=(l.length:Int):=rfl
theorem OV {α:Type}(l:List α)(i:Nat):Sh.get l (i:Int)=l[i]?:=by
 unfold Sh.get;rw[fq (jb i)];simp
theorem BF {α:Type}{l:List α}{i:Nat}{x:α}(h:l[i]?=some x):Sh.get l (i:Int)=some x:=by rw[OV,h]
theorem Om {α:Type}{l:List α}{j:Int}(h0:0<=j)(h1:j<l.length):∃x,Sh.get l j=some x/\l[j.toNat]?=some x:=by
 have h:l[j.toNat]?=some (l[j.toNat]'(by omega)):=fm (by omega);exact⟨_,by unfold Sh.get;rw[fq h0,h],h⟩
theorem SE {α:Type}{l:List α}{j:Int}(h0:0<=j):Sh.get l j=l[j.toNat]?:=by unfold Sh.get;rw[fq h0]
theorem Oe {α:Type}(l:List α)(i:Nat)(x:α):Sh.put l (i:Int) x=l.set i x:=by simp[Sh.put]
theorem Ol {α:Type}(x:α)(n b:Nat)(h:n*b<=281474976710656)(h2:n<=9223372036854775807):Sh.mk x (n:Int) b=some (List.replicate n x):=by
 unfold Sh.mk;rw[fq ⟨by omega,by rw[<- kP];omega,by omega⟩];simp
theorem EC {α:Type}(l m:List α)(b:Nat)(h:(l.length+m.length)*b<=140737488355328)(h2:l.length+m.length<=9223372036854775807):Sh.app l m b=some (l++m):=by
 unfold Sh.app;rw[fq ⟨h,h2⟩]
theorem av {α:Type}{l:List α}{j:Nat}(h:j<=l.length):Sh.hi l (j:Int)=some (l.take j):=by
 unfold Sh.hi;rw[fq ⟨by omega,by omega⟩];simp
theorem Bm (len:Nat)(P:Nat->Nat->Prop)(h0 :∀n,P (n+1) len)(hs :∀n i,i<len->P n (i+1)->P (n+1) i):∀{N i:Nat},i<=len->len-i<N->P N i:=by
 intro N i hi hN;obtain⟨k,hk⟩ :∃k,len-i=k:=⟨_,rfl⟩
 induction k generalizing N i with
 | zero=>
  obtain⟨n,rfl⟩ :∃n,N=n+1:=⟨N-1,by omega⟩
  have:i=len:=by omega
  subst this;exact h0 n
 | succ k ih=>
  obtain⟨n,rfl⟩ :∃n,N=n+1:=⟨N-1,by omega⟩
  exact hs n i (by omega) (ih (by omega) (by omega) (by omega))
theorem CE {α:Type}{l:List α}{i:Nat}(h:i<l.length):∃x,l[i]?=some x/\x∈l:=⟨l[i],fm h,jG h⟩
theorem EP {α:Type}{l:List α}{j:Nat}{x:α}(h:l[j]?=some x):l.take (j+1)=l.take j++[x]:=by rw[List.take_add_one,h];rfl
theorem drop_cons {α:Type}{l:List α}{j:Nat}{x:α}(h:l[j]?=some x):l.drop j=x::l.drop (j+1):=by
 obtain⟨hj,rfl⟩:=fe.1 h;exact List.drop_eq_getElem_cons hj
def bT (h:List Cell):Nat:=(h.map λc=>c.fields.length).sum
def GW (h:List Cell):Nat:=h.length+bT h
structure Hp (h:List Cell):Prop where
 size:GW h<=1048576
 cells :∀c∈h,WB c
theorem Zs {h:List Cell}{c:Cell}(hc:c∈h):c.fields.length<=bT h:=by
 induction h with
 | nil=>cases hc
 | cons d h ih=>
  simp only[bT,gP,jY]at ih⊢;rcases fu.1 hc with rfl|hc
  ·omega
  ·have:=ih hc;omega
theorem Hp.len {h:List Cell}(H:Hp h):h.length<=1048576:=by have:=H.size;unfold GW at this;omega
theorem Hp.Ih {h:List Cell}(H:Hp h){c:Cell}(hc:c∈h):c.fields.length<=1048576:=by have:=H.size;have:=Zs hc;unfold GW at *;omega
end RC
namespace RC
open Go
def Fi {α:Type}(f:Nat->α->Bool):Nat->List α->Bool
 | _,[]=>true
 | k,x::r=>f k x&&Fi f (k+1) r
theorem Qq {α:Type}{f g:Nat->α->Bool}:∀(l:List α) (k:Nat),(∀(i:Nat) x,l[i]?=some x->f (k+i) x=g (k+i) x)->Fi f k l=Fi g k l
 | [],_,_=>rfl
 | x::r,k,h=>by
  have h0:=h 0 x rfl;rw[jJ]at h0;have h1:=Qq r (k+1) λi y hy=>(show k+(i+1)=k+1+i by omega)▸h (i+1) y hy;rw[Fi,Fi,h0,h1]
theorem Fv {α:Type}{p:α->Bool}:∀(l:List α) (k:Nat),Fi (λ_ x=>p x) k l=l.all p
 | [],_=>rfl
 | x::r,k=>by rw[Fi,Fv r (k+1),jX]
theorem E8 {α:Type}{l:List α}(L:Nat->Int->Option (Bool ⊕ Unit))(f:Nat->α->Bool)(h0 :∀n,L (n+1) (l.length:Int)=some (.inr ()))
  (hs :∀n (i:Nat) x,l[i]?=some x->L (n+1) (i:Int)=if f i x=true then L n ((i+1:Nat):Int) else some (.inl false)) {N:Nat} (hN:l.length<N) :
  L N 0=some (if Fi f 0 l=true then .inr () else .inl false):=by
 have key:∀{N i:Nat},i<=l.length->l.length-i<N->L N (i:Int)=some (if Fi f i (l.drop i)=true then .inr () else .inl false):=by
  intro N i hi hN;refine Bm l.length (λN i=>L N (i:Int)=some (if Fi f i (l.drop i)=true then .inr () else .inl false)) ?_ ?_ hi hN
  ·intro n;rw[h0 n];simp[Fi]
  ·intro n i hi ih;obtain⟨x,hx,_⟩:=CE hi;rw[hs n i x hx,ih,drop_cons hx,Fi];cases h:f i x<;>simp
 have:=key (gK _) (by omega:l.length-0<N);simpa using this
theorem E9 {β:Type}{b:Bool}{g:Bool->β}{K:Unit->Option β}:Sh.cont (some (if b=true then Sum.inr () else Sum.inl false)) g K=if b=true then K () else some (g false):=by
 cases b<;>rfl
theorem Xt {α:Type}{l:List α}{j:Nat}(h:j<=l.length)(h2:l.length<=9223372036854775807):Sh.sl l 0 (j:Int)=some (l.take j):=by
 unfold Sh.sl;rw[fq ⟨by omega,by omega,by omega⟩];simp
end RC
namespace RC
open Go
end RC
namespace RC
open Go
def dL (h:List Cell)(w:Int):Bool:=decide (1000<=w)&&(match h[(w-1000).toNat]? with|some c=>decide (0<c.count)|none=>false)
theorem El (a b c:Int):DN a b c=some (decide (b<=a)&&decide (a<=c)):=by
 unfold DN;by_cases h:b<=a<;>simp[h]
end RC
namespace RC
open Go
def Dj (D:List AN)(t:Int):Bool:=decide (0<=t)&&decide (t<=(D.length:Int))
theorem MP {D:List AN}{x:Int}:DN x 0 (Sh.len D)=some (Dj D x):=by rw[El];rfl
theorem MB {D:List AN}{l:List Int}(hl:l.length<=1048576){N:Nat}(hN:l.length<N):HV N D l=some (l.all (Dj D)):=by
 unfold HV;rw[E8 (l:=l) (E3 D l) (λ_ x=>Dj D x) (λn=>by rw[E3,fr (by simp[AM])]) (λn i x hx=>?_) hN,E9,Fv]
 ·cases l.all (Dj D)<;>rfl
 ·have hi:=(fe.1 hx).1;rw[E3,fq (by simp[AM];omega),BF hx];simp only[fZ];rw[MP,BP (by omega) (by omega),show ((i:Int)+1)=((i+1:Nat):Int) by omega];simp only[fZ];cases Dj D x<;>rfl
theorem JX {D:List AN}{t:Int}:G8 D t=some (Dj D t):=by
 unfold G8 Dj;by_cases h:0<=t<;>by_cases h2:t<=(D.length:Int)<;>simp[h,h2,AM]
theorem Jp {D:List AN}{l:List Int}(hl:l.length<=1048576){N:Nat}(hN:l.length<N):Gq N D l=some (l.all (Dj D)):=by
 unfold Gq;rw[E8 (l:=l) (E0 D l) (λ_ x=>Dj D x) (λn=>by rw[E0,fr (by simp[AM])]) (λn i x hx=>?_) hN,E9,Fv]
 ·cases l.all (Dj D)<;>rfl
 ·have hi:=(fe.1 hx).1;rw[E0,fq (by simp[AM];omega),BF hx];simp only[fZ];rw[JX,BP (by omega) (by omega),show ((i:Int)+1)=((i+1:Nat):Int) by omega];simp only[fZ];cases Dj D x<;>rfl
def Pw (D:List AN)(c:Dd):Bool:=decide (c.fields.length<=3)&&c.fields.all (Dj D)
def HL (a b:AN):Bool:=decide (a.cons.length=0)&&(decide (a.from_=b.from_)&&decide (a.to=b.to))
def K0 (D:List AN)(i:Nat)(d:AN):Bool:=
 if 0<d.cons.length then (decide (d.cons.length<=3)&&(decide (d.from_=0)&&decide (d.to=0)))&&d.cons.all (Pw D)
 else (D.take i).all (λe=>!HL e d)&&(Dj D d.from_&&Dj D d.to)
def Rs (D:List AN)(i:Nat)(d:AN):Bool:=
 ((Dj D d.from_&&(Dj D d.to&&(decide (d.cons.length<=3)&&(!(decide (0<d.cons.length)&&(!decide (d.from_=0) || !decide (d.to=0)))))))&&d.cons.all (Pw D))&&(D.take i).all (λe=>!(decide (d.cons.length=0)&&HL e d))
theorem Yp (D:List AN)(i:Nat)(d:AN):Rs D i d=K0 D i d:=by
 unfold Rs K0;by_cases h:0<d.cons.length
 ·have h0:¬ d.cons.length=0:=by omega
  have ha:(D.take i).all (λe=>!(decide (d.cons.length=0)&&HL e d))=true:=by simp[h0]
  rw[fq h,ha];by_cases h1:d.from_=0<;>by_cases h2:d.to=0<;>simp[h,h1,h2,Dj]
 ·have h0:d.cons.length=0:=by omega
  have hc:d.cons=[]:=gY h0;rw[fr h];simp only[hc,h0,iM,List.all_nil,gH,Bool.true_and,Bool.and_true];cases Dj D d.from_<;>cases Dj D d.to<;>simp
structure PG (D:List AN):Prop where
 len:D.length<=1048576
 cons :∀d∈D,d.cons.length<=1048576
 Lj :∀d∈D,∀c∈d.cons,c.fields.length<=1048576
theorem QG {D:List AN}(hD:PG D){i:Nat}{d:AN}(hd:D[i]?=some d){N:Nat}(hN:2000000<=N):H2 N D i=some (K0 D i d):=by
 have hm:=fc hd;have hi:=(fe.1 hd).1;have hlen:=hD.len;have hc:=hD.cons d hm;unfold H2 K0;rw[BF hd];simp only[fZ];by_cases h:0<d.cons.length
 ·rw[fq (by simp[AM];omega),fq h];rw[E8 (l:=d.cons) (Ej N d D) (λ_ c=>Pw D c) (λn=>by rw[Ej,fr (by simp[AM])]) (λn j c hj=>?_) (by omega),E9,Fv]
  ·simp only[AM];by_cases h3:d.cons.length<=3
   ·have e3:¬ (3:Int)<(d.cons.length:Int):=by omega
    generalize d.cons.all (Pw D)=z;cases z<;>by_cases h1:d.from_=0<;>by_cases h2:d.to=0<;>simp[h1,h2,h3,e3]
   ·have e3:(3:Int)<(d.cons.length:Int):=by omega
    simp[h3,e3]
  ·have uj:=(fe.1 hj).1;have hf:=hD.Lj d hm c (fc hj);rw[Ej,fq (by simp[AM];omega),BF hj];simp only[fZ];rw[MB hf (by omega),BP (by omega) (by omega),show ((j:Int)+1)=((j+1:Nat):Int) by omega];unfold Pw;by_cases h3:c.fields.length<=3
   ·have e3:¬ (3:Int)<(c.fields.length:Int):=by omega
    simp only[AM];cases c.fields.all (Dj D)<;>simp[h3,e3]
   ·have e3:(3:Int)<(c.fields.length:Int):=by omega
    simp[h3,e3,AM]
 ·have h0:d.cons.length=0:=by omega
  have e0:¬ decide ((0:Int)<Sh.len d.cons)=true:=by rw[AM,h0];simp
  rw[fr e0,fr h];have lh:(D.take i).length=i:=by simp;omega
  rw[E8 (l:=D.take i) (Ei d D i) (λ_ e=>!HL e d) (λn=>by rw[Ei,fr (by simp;omega)]) (λn j e hj=>?_) (by omega),E9,Fv]
  ·rw[MP,MP];simp only[fZ];cases (D.take i).all (λe=>!HL e d)<;>cases Dj D d.from_<;>simp
  ·have uj:=(fe.1 hj).1;have hje:D[j]?=some e:=by rw[gR]at hj;split at hj<;>first|exact hj|cases hj
   rw[Ei,fq (by simp;omega),BF hje];simp only[fZ];rw[BP (by omega) (by omega),show ((j:Int)+1)=((j+1:Nat):Int) by omega];unfold HL;simp only[AM];by_cases a0:e.cons.length=0<;>by_cases a1:e.from_=d.from_<;>by_cases a2:e.to=d.to<;>simp[a0,a1,a2]
def MM (D:List AN):Bool:=decide (D.length<=4)&&Fi (K0 D) 0 D
theorem Pj {D:List AN}(hD:PG D){N:Nat}(hN:2000000<=N):HY N D=some (MM D):=by
 have hlen:=hD.len;unfold HY MM;rw[E8 (l:=D) (EI N D) (K0 D) (λn=>by rw[EI,fr (by simp[AM])]) (λn i d hd=>?_) (by omega),E9]
 ·simp only[AM];by_cases h:D.length<=4
  ·have e4:¬ (4:Int)<(D.length:Int):=by omega
   cases Fi (K0 D) 0 D<;>simp[h,e4]
  ·have e4:(4:Int)<(D.length:Int):=by omega
   simp[h,e4]
 ·have hi:=(fe.1 hd).1;rw[EI,fq (by simp[AM];omega),QG hD hd hN];simp only[fZ];rw[BP (by omega) (by omega),show ((i:Int)+1)=((i+1:Nat):Int) by omega];cases K0 D i d<;>rfl
theorem Pg {D:List AN}(hD:PG D){N:Nat}(hN:2000000<=N):Hn N D=some (MM D):=by
 have hlen:=hD.len;unfold Hn MM;rw[<- Qq (f:=Rs D) D 0 (λi d _=>Yp D _ d)];rw[E8 (l:=D) (EJ N D) (Rs D) (λn=>by rw[EJ,fr (by simp[AM])]) (λn i d hd=>?_) (by omega),E9]
 ·simp only[AM];by_cases h:D.length<=4
  ·have e4:¬ (4:Int)<(D.length:Int):=by omega
   cases Fi (Rs D) 0 D<;>simp[h,e4]
  ·have e4:(4:Int)<(D.length:Int):=by omega
   simp[h,e4]
 ·have hi:=(fe.1 hd).1;have hm:=fc hd;have hc:=hD.cons d hm;have l2:Dk N d D N 0=some (if d.cons.all (Pw D)=true then .inr () else .inl false):=by
   rw[E8 (l:=d.cons) (Dk N d D) (λ_ c=>Pw D c) (λn=>by rw[Dk,fr (by simp[AM])]) (λn j c hj=>?_) (by omega),Fv];have uj:=(fe.1 hj).1;have hf:=hD.Lj d hm c (fc hj);rw[Dk,fq (by simp[AM];omega),BF hj];simp only[fZ];rw[Jp hf (by omega),BP (by omega) (by omega),show ((j:Int)+1)=((j+1:Nat):Int) by omega];unfold Pw;by_cases h3:c.fields.length<=3
   ·have e3:¬ (3:Int)<(c.fields.length:Int):=by omega
    simp only[AM];cases c.fields.all (Dj D)<;>simp[h3,e3]
   ·have e3:(3:Int)<(c.fields.length:Int):=by omega
    simp[h3,e3,AM]
  have lh:(D.take i).length=i:=by simp;omega
  have l3:Dh d (D.take i) N 0=some (if (D.take i).all (λe=>!(decide (d.cons.length=0)&&HL e d))=true then .inr () else .inl false):=by
   rw[E8 (l:=D.take i) (Dh d (D.take i)) (λ_ e=>!(decide (d.cons.length=0)&&HL e d)) (λn=>by rw[Dh,fr (by simp[AM])]) (λn j e hj=>?_) (by omega),Fv];have uj:=(fe.1 hj).1;rw[Dh,fq (by simp only[AM];simp;omega),BF hj];simp only[fZ];rw[BP (by omega) (by omega),show ((j:Int)+1)=((j+1:Nat):Int) by omega];unfold HL;simp only[AM];by_cases b0:d.cons.length=0<;>by_cases a0:e.cons.length=0<;>by_cases a1:e.from_=d.from_<;>by_cases a2:e.to=d.to<;>simp[a0,a1,a2,b0]
  rw[EJ,fq (by simp[AM];omega),BF hd];simp only[fZ];rw[JX,JX,l2,Xt (by omega) (by omega),BP (by omega) (by omega),show ((i:Int)+1)=((i+1:Nat):Int) by omega];simp only[fZ];rw[l3,E9,E9];unfold Rs;simp only[AM];generalize d.cons.all (Pw D)=z1;generalize (D.take i).all (λe=>!(decide (d.cons.length=0)&&HL e d))=z2;by_cases h3:d.cons.length<=3
  ·have e3:¬ (3:Int)<(d.cons.length:Int):=by omega
   by_cases h0:0<d.cons.length
   ·have e0:(0:Int)<(d.cons.length:Int):=by omega
    cases Dj D d.from_<;>cases Dj D d.to<;>cases z1<;>cases z2<;>by_cases h1:d.from_=0<;>by_cases h2:d.to=0<;>simp[h1,h2,h3,e3,h0]
   ·have e0:¬ (0:Int)<(d.cons.length:Int):=by omega
    cases Dj D d.from_<;>cases Dj D d.to<;>cases z1<;>cases z2<;>simp[h3,e3,h0]
  ·have e3:(3:Int)<(d.cons.length:Int):=by omega
   cases Dj D d.from_<;>cases Dj D d.to<;>simp[h3,e3]
end RC
namespace RC
open Go
def LA (ps ls:List Int)(i:Nat)(v:Int):Bool:=
 (decide (0<=v)&&decide (v<(ps.length:Int)))&&(!decide (ps[v.toNat]?=some 0)&&!(decide (0<i)&&decide (v<=(ls[i-1]?).getD 0)))
theorem Za {ls:List Int}{i:Nat}(h0:0<i)(hi:i<ls.length):∃x,ls[i-1]?=some x/\Sh.get ls (((i:Nat):Int)-1)=some x:=by
 obtain⟨x,hx,_⟩:=CE (l:=ls) (i:=i-1) (by omega);exact⟨x,hx,by rw[show ((i:Int)-1)=((i-1:Nat):Int) by omega,BF hx]⟩
theorem Ux {c:Bo}(hp:c.params.length<=1048576)(hl:c.Fp.length<=1048576){N:Nat}(hN:2000000<=N):D6 c N 0=some (if Fi (LA c.params c.Fp) 0 c.Fp=true then .inr () else .inl false):=by
 refine E8 (l:=c.Fp) (D6 c) (LA c.params c.Fp) (λn=>by rw[D6,fr (by simp[AM])]) (λn i v hv=>?_) (by omega);have hi:=(fe.1 hv).1;rw[D6,fq (by simp[AM];omega),BF hv];simp only[fZ];rw[AM,BP (n:=(i:Int)+1) (by omega) (by omega),BP (n:=(i:Int)-1) (by omega) (by omega),show ((i:Int)+1)=((i+1:Nat):Int) by omega];unfold LA;by_cases h0:0<=v
 ·have pN:¬ v<0:=by omega
  by_cases h1:v<(c.params.length:Int)
  ·have nY:¬ (c.params.length:Int)<=v:=by omega
   obtain⟨d,e1,e2⟩:=Om h0 h1;rw[e1,e2];by_cases hi0:0<i
   ·obtain⟨x,g1,g2⟩:=Za hi0 hi;rw[g1,g2];by_cases hc:d=0<;>by_cases hx:v<=x<;>simp[h0,pN,h1,nY,hc,hi0,hx]
   ·by_cases hc:d=0<;>simp[h0,pN,h1,nY,hc,hi0]
  ·have nY:(c.params.length:Int)<=v:=by omega
   simp[h0,pN,h1,nY]
 ·have pN:v<0:=by omega
  simp[h0,pN]
def NG (D:List AN)(ps:List Int)(r:Int):Bool:=decide (ps.length<=3)&&(ps.all (Dj D)&&Dj D r)
theorem SC {p:AP}(hf:p.funcs.length<=1048576)(hp :∀f∈p.funcs,f.params.length<=1048576){N:Nat}(hN:2000000<=N):EA N p N 0=some (if (p.funcs.all λf=>NG p.decls f.params f.result)=true then .inr () else .inl false):=by
 rw[<- Fv _ 0];refine E8 (l:=p.funcs) (EA N p) (λ_ f=>NG p.decls f.params f.result) (λn=>by rw[EA,fr (by simp[AM])]) (λn i f hi=>?_) (by omega);have ni:=(fe.1 hi).1;have tB:=hp f (fc hi);rw[EA,fq (by simp[AM];omega),BF hi];simp only[fZ];rw[MB tB (by omega),MP,BP (by omega) (by omega),show ((i:Int)+1)=((i+1:Nat):Int) by omega];unfold NG;simp only[AM];by_cases h3:f.params.length<=3
 ·have e3:¬ (3:Int)<(f.params.length:Int):=by omega
  generalize f.params.all (Dj p.decls)=z;cases z<;>cases Dj p.decls f.result<;>simp[h3,e3]
 ·have e3:(3:Int)<(f.params.length:Int):=by omega
  simp[h3,e3]
theorem Rq {D:List AN}{l:List Bo}(hf:l.length<=1048576)(hp :∀f∈l,f.params.length<=1048576/\f.Fp.length<=1048576){N:Nat}(hN:2000000<=N):D3 N D l N 0=some (if (l.all λf=>NG D f.params f.result&&Fi (LA f.params f.Fp) 0 f.Fp)=true then .inr () else .inl false):=by
 rw[<- Fv _ 0];refine E8 (l:=l) (D3 N D l) (λ_ f=>NG D f.params f.result&&Fi (LA f.params f.Fp) 0 f.Fp) (λn=>by rw[D3,fr (by simp[AM])]) (λn i f hi=>?_) (by omega);have ni:=(fe.1 hi).1;have tB:=hp f (fc hi);rw[D3,fq (by simp[AM];omega),BF hi];simp only[fZ];rw[Jp tB.1 (by omega),JX,Ux tB.1 tB.2 hN,E9,BP (by omega) (by omega),show ((i:Int)+1)=((i+1:Nat):Int) by omega];unfold NG;simp only[AM];generalize Fi (LA f.params f.Fp) 0 f.Fp=y;by_cases h3:f.params.length<=3
 ·have e3:¬ (3:Int)<(f.params.length:Int):=by omega
  generalize f.params.all (Dj D)=z;cases z<;>cases Dj D f.result<;>cases y<;>simp[h3,e3]
 ·have e3:(3:Int)<(f.params.length:Int):=by omega
  simp[h3,e3]
end RC
namespace RC
open Go
def Vz (D:List (List Int×Int)):Bool:=match D with|[]=>false|(ps,r)::_=>decide (ps.length=0)&&decide (r=0)
def NS (D:List AN)(l:List (List Int×Int)):Bool:=MM D&&((decide (1<=l.length)&&decide (l.length<=4))&&(l.all (λs=>NG D s.1 s.2)&&Vz l))
theorem QO {p:AP}(hD:PG p.decls)(hf:p.funcs.length<=1048576)(hp :∀f∈p.funcs,f.params.length<=1048576){N:Nat}(hN:2000000<=N):G3 N p=some (NS p.decls (p.funcs.map λf=>(f.params,f.result))):=by
 unfold G3 NS;rw[Pj hD hN,SC hf hp hN,E9,El];simp only[fZ,gI,List.all_map,kC];cases MM p.decls with
 | false=>simp
 | true=>
  cases hl:p.funcs with
  | nil=>simp[AM]
  | cons f r=>
   have e0:Sh.get (f::r) 0=some f:=rfl;rw[e0];generalize (f::r).all (λf=>NG p.decls f.params f.result)=z;simp only[gP,Vz];have q1:decide ((1:Int)<=Sh.len (f::r))=true:=decide_eq_true (by rw[AM,gn];omega);have q2:decide (1<=(f::r).length)=true:=by simp
   have q3:decide (Sh.len (f::r)<=4)=decide ((f::r).length<=4):=jR.2 (by rw[AM];omega);have q4:decide (Sh.len f.params=0)=decide (f.params.length=0):=jR.2 (by rw[AM];omega);simp only[q1,q2,q3,q4,fZ];cases decide ((f::r).length<=4)<;>cases z<;>by_cases a1:f.params.length=0<;>by_cases a2:f.result=0<;>simp[a1,a2]
theorem QV {D:List AN}{l:List Bo}(hD:PG D)(hf:l.length<=1048576)(hp :∀f∈l,f.params.length<=1048576/\f.Fp.length<=1048576){N:Nat}(hN:2000000<=N):
  H9 N D l=some (NS D (l.map λf=>(f.params,f.result))&&l.all (λf=>Fi (LA f.params f.Fp) 0 f.Fp)):=by
 unfold H9 NS;rw[Pg hD hN,Rq hf hp hN,E9];have oK:(l.all λf=>NG D f.params f.result&&Fi (LA f.params f.Fp) 0 f.Fp)=((l.all λf=>NG D f.params f.result)&&(l.all λf=>Fi (LA f.params f.Fp) 0 f.Fp)):=by
  clear hf hp
  induction l with
  | nil=>rfl
  | cons f r ih=>
   simp only[jX,ih];cases NG D f.params f.result<;>cases Fi (LA f.params f.Fp) 0 f.Fp<;>simp
 rw[oK];simp only[fZ,gI,List.all_map,kC];cases MM D with
 | false=>simp
 | true=>
  cases hl:l with
  | nil=>simp[AM]
  | cons f r=>
   have e0:Sh.get (f::r) 0=some f:=rfl;rw[e0];generalize (f::r).all (λf=>NG D f.params f.result)=z;generalize (f::r).all (λf=>Fi (LA f.params f.Fp) 0 f.Fp)=y;simp only[gP,Vz];have q1:decide (Sh.len (f::r)<1)=false:=decide_eq_false (by rw[AM,gn];omega);have q2:decide (1<=(f::r).length)=true:=by simp
   have q3:decide ((4:Int)<Sh.len (f::r))=!decide ((f::r).length<=4):=by rw[<- decide_not];exact jR.2 (by rw[AM];omega)
   have q4:decide ((0:Int)<Sh.len f.params)=!decide (f.params.length=0):=by rw[<- decide_not];exact jR.2 (by rw[AM];omega)
   simp only[q1,q2,q3,q4,fZ];cases decide ((f::r).length<=4)<;>cases z<;>cases y<;>by_cases a1:f.params.length=0<;>by_cases a2:f.result=0<;>simp[a1,a2]
end RC
namespace RC
open Go
def nc (D:List AN):Nat:=(D.map (·.cons.length)).sum
theorem Ku {D:List AN}{i:Nat}{d:AN}(h:D[i]?=some d):nc (D.take (i+1))=nc (D.take i)+d.cons.length:=by
 rw[EP h];simp[nc]
theorem RU {D:List AN}{i:Nat}{d:AN}(h:D[i]?=some d):nc (D.drop i)=d.cons.length+nc (D.drop (i+1)):=by
 rw[drop_cons h];simp[nc]
theorem Gz (D:List AN)(i:Nat):nc D=nc (D.take i)+nc (D.drop i):=by
 unfold nc;rw[<- List.sum_append_nat,<- iD,List.take_append_drop]
theorem IS {D:List AN}(hD:D.length<=1048576)(hn:nc D<=1048576){i:Nat}(hi:i<=D.length){N:Nat}(hN:2000000<=N):Gt N D i=some (nc (D.take i):Int):=by
 unfold Gt;have key:∀{N j:Nat},j<=i->i-j<N->Eb D i N (nc (D.take j)) j=some (nc (D.take i):Int):=by
  intro N j hj hN;refine Bm i (λN j=>Eb D i N (nc (D.take j)) j=some (nc (D.take i):Int)) ?_ ?_ hj hN
  ·intro n;rw[Eb,fr (by simp)]
  ·intro n j hj ih;obtain⟨d,hd,_⟩:=CE (l:=D) (i:=j) (by omega);have hs:=Gz D (j+1);have ht:=Ku hd;rw[Eb,fq (by simp;omega),BF hd];simp only[fZ];rw[AM,BP (n:=(j:Int)+1) (by omega) (by omega),BP (by omega) (by omega),show ((nc (D.take j):Int)+(d.cons.length:Int))=((nc (D.take (j+1)):Nat):Int) by omega,show ((j:Int)+1)=((j+1:Nat):Int) by omega];exact ih
 have:=key (gK _) (by omega:i-0<N);rw[show (((nc (D.take 0):Nat):Int))=0 from rfl,show (((0:Nat):Int))=0 from rfl]at this;rw[this];rfl
theorem RE {D:List AN}(hD:D.length<=1048576)(hn:nc D<=1048576){N:Nat}(hN:2000000<=N):Iv N D=some (nc D:Int):=by
 unfold Iv;have key:∀{N j:Nat},j<=D.length->D.length-j<N->EX D N (nc (D.take j)) j=some (nc D:Int):=by
  intro N j hj hN;refine Bm D.length (λN j=>EX D N (nc (D.take j)) j=some (nc D:Int)) ?_ ?_ hj hN
  ·intro n;rw[EX,fr (by simp[AM]),iR]
  ·intro n j hj ih;obtain⟨d,hd,_⟩:=CE hj;have hs:=Gz D (j+1);have ht:=Ku hd;rw[EX,fq (by simp[AM];omega),BF hd];simp only[fZ];rw[AM,BP (n:=(j:Int)+1) (by omega) (by omega),BP (by omega) (by omega),show ((nc (D.take j):Int)+(d.cons.length:Int))=((nc (D.take (j+1)):Nat):Int) by omega,show ((j:Int)+1)=((j+1:Nat):Int) by omega];exact ih
 have:=key (gK _) (by omega:D.length-0<N);rw[show (((nc (D.take 0):Nat):Int))=0 from rfl,show (((0:Nat):Int))=0 from rfl]at this;rw[this];rfl
def HO:List AN->Nat->Nat->Option (Nat×Dd)
 | [],_,_=>none
 | d::r,k,c=>match d.cons[c]? with
  | some x=>some (k+1,x)
  | none=>HO r (k+1) (c-d.cons.length)
theorem Of {D:List AN}(hD:D.length<=1048576)(hn:nc D<=1048576){c:Nat}(hc:c<nc D){N:Nat}(hN:2000000<=N):∃t x,HO D 0 c=some (t,x)/\Hu N D c=some ((t:Int),x):=by
 have key:∀(m j N c:Nat),D.length-j=m->j<=D.length->m<N->c<nc (D.drop j)->∃t x,HO (D.drop j) j c=some (t,x)/\FC D N c j=some (.inl ((t:Int),x)):=by
  intro m
  induction m with
  | zero=>
   intro j N c h1 h2 _ h3;rw[iy (by omega)]at h3;simp[nc]at h3
  | succ m ih=>
   intro j N c h1 h2 h3 h4;obtain⟨N,rfl⟩ :∃n,N=n+1:=⟨N-1,by omega⟩
   obtain⟨d,hd,_⟩:=CE (l:=D) (i:=j) (by omega);have hs:=Gz D j;rw[RU hd]at h4 hs;rw[drop_cons hd];unfold HO;rw[FC,fq (by simp[AM];omega),BF hd];simp only[fZ];rw[fq (by simp),AM,BP (n:=(j:Int)+1) (by omega) (by omega),BP (by omega) (by omega)];cases hx:d.cons[c]? with
   | some x=>
    have lh:=(fe.1 hx).1;refine⟨j+1,x,rfl,?_⟩;have e:((c:Int)<(d.cons.length:Int)):=by omega
    simp[e,BF hx]
   | none=>
    have hle:d.cons.length<=c:=by simpa using hx
    obtain⟨t,x,g1,g2⟩:=ih (j+1) N (c-d.cons.length) (by omega) (by omega) (by omega) (by omega);refine⟨t,x,g1,?_⟩;have e:¬ ((c:Int)<(d.cons.length:Int)):=by omega
    rw[<- g2,show ((c:Int)-(d.cons.length:Int))=((c-d.cons.length:Nat):Int) by omega,show ((j:Int)+1)=((j+1:Nat):Int) by omega];simp[e]
 obtain⟨t,x,g1,g2⟩:=key D.length 0 N c (by omega) (by omega) (by omega) (by simpa using hc);refine⟨t,x,by simpa using g1,?_⟩;unfold Hu;rw[show (((0:Nat):Int))=0 from rfl]at g2;rw[g2];rfl
end RC
namespace RC
open Go
theorem NC {D:List AN}(hD:D.length<=1048576)(hn:nc D<=1048576){c:Nat}(hc:c<nc D){N:Nat}(hN:2000000<=N):∃t x,HO D 0 c=some (t,x)/\F6 N D c=some (t:Int):=by
 have key:∀(m j M c:Nat),D.length-j=m->j<=D.length->m<M->c<nc (D.drop j)->∃t x,HO (D.drop j) j c=some (t,x)/\Dw N D ((nc (D.take j)+c:Nat):Int) M j=some (.inl (t:Int)):=by
  intro m
  induction m with
  | zero=>
   intro j M c h1 h2 _ h3;rw[iy (by omega)]at h3;simp[nc]at h3
  | succ m ih=>
   intro j M c h1 h2 h3 h4;obtain⟨M,rfl⟩ :∃n,M=n+1:=⟨M-1,by omega⟩
   obtain⟨d,hd,_⟩:=CE (l:=D) (i:=j) (by omega);have hs:=Gz D j;rw[RU hd]at h4 hs;have ht:=Ku hd;rw[drop_cons hd];unfold HO;rw[Dw,fq (by simp[AM];omega),IS hD hn (by omega) hN,BF hd];simp only[fZ];rw[AM,BP (n:=(j:Int)+1) (by omega) (by omega),BP (n:=(nc (D.take j):Int)+(d.cons.length:Int)) (by omega) (by omega),BP (by omega) (by omega),El];simp only[fZ];cases hx:d.cons[c]? with
   | some x=>
    have lh:=(fe.1 hx).1;refine⟨j+1,x,rfl,?_⟩;rw[fq (by simp;omega)];rfl
   | none=>
    have hle:d.cons.length<=c:=by simpa using hx
    obtain⟨t,x,g1,g2⟩:=ih (j+1) M (c-d.cons.length) (by omega) (by omega) (by omega) (by omega);refine⟨t,x,g1,?_⟩;rw[fr (by simp;omega),<- g2,show nc (D.take j)+c=nc (D.take (j+1))+(c-d.cons.length) by omega];rfl
 obtain⟨t,x,g1,g2⟩:=key D.length 0 N c (by omega) (by omega) (by omega) (by simpa using hc);refine⟨t,x,by simpa using g1,?_⟩;unfold F6;rw[show nc (D.take 0)+c=c by simp[nc],show (((0:Nat):Int))=0 from rfl]at g2;rw[g2];rfl
theorem Qf {D:List AN}(hD:D.length<=1048576)(hn:nc D<=1048576){c:Int}(hc:c<0∨(nc D:Int)<=c){N:Nat}(hN:2000000<=N):F6 N D c=some (-1):=by
 unfold F6;have key:∀{M j:Nat},j<=D.length->D.length-j<M->Dw N D c M j=some (.inr ()):=by
  intro M j hj hM;refine Bm D.length (λM j=>Dw N D c M j=some (.inr ())) ?_ ?_ hj hM
  ·intro n;rw[Dw,fr (by simp[AM])]
  ·intro n j hj ih;obtain⟨d,hd,_⟩:=CE hj;have hs:=Gz D (j+1);have ht:=Ku hd;rw[Dw,fq (by simp[AM];omega),IS hD hn (by omega) hN,BF hd];simp only[fZ];rw[AM,BP (n:=(j:Int)+1) (by omega) (by omega),BP (n:=(nc (D.take j):Int)+(d.cons.length:Int)) (by omega) (by omega),BP (by omega) (by omega),El];simp only[fZ];rw[fr (by simp;omega)];exact ih
 have:=key (gK _) (by omega:D.length-0<N);rw[show (((0:Nat):Int))=0 from rfl]at this;rw[this];rfl
end RC
namespace RC
open Go
theorem Yr {D:List AN}:∀(m j c t:Nat) (x:Dd),D.length-j=m->j<=D.length->HO (D.drop j) j c=some (t,x)->∃d,1<=t/\D[t-1]?=some d/\nc (D.take (t-1))<=nc (D.take j)+c/\d.cons[nc (D.take j)+c-nc (D.take (t-1))]?=some x:=by
 intro m
 induction m with
 | zero=>
  intro j c t x h1 h2 h;rw[iy (by omega)]at h;simp[HO]at h
 | succ m ih=>
  intro j c t x h1 h2 h;obtain⟨d,hd,_⟩:=CE (l:=D) (i:=j) (by omega);have ht:=Ku hd;rw[drop_cons hd]at h;unfold HO at h;cases hx:d.cons[c]? with
  | some y=>
   rw[hx]at h;simp only[ff,kF]at h;obtain⟨rfl,rfl⟩:=h;exact⟨d,by omega,by simpa using hd,by simp,by simpa using hx⟩
  | none=>
   rw[hx]at h;have hle:d.cons.length<=c:=by simpa using hx
   obtain⟨e,g1,g2,g3,g4⟩:=ih (j+1) (c-d.cons.length) t x (by omega) (by omega) h;rw[show nc (D.take (j+1))+(c-d.cons.length)=nc (D.take j)+c by omega]at g3 g4;exact⟨e,g1,g2,g3,g4⟩
theorem Hz {D:List AN}(hD:D.length<=1048576)(hn:nc D<=1048576){c:Nat}(hc:c<nc D){N:Nat}(hN:2000000<=N):∃t x,HO D 0 c=some (t,x)/\Bs N D c=some x.fields:=by
 obtain⟨t,x,e1,e2⟩:=NC hD hn hc hN;obtain⟨d,g1,g2,g3,g4⟩:=Yr (D:=D) D.length 0 c t x (by omega) (by omega) (by simpa using e1);have lh:=(fe.1 g2).1;have hs:=Gz D (t-1);rw[show nc (D.take 0)+c=c by simp[nc]]at g3 g4;refine⟨t,x,e1,?_⟩;unfold Bs;rw[e2];simp only[fZ];rw[fr (by simp;omega),BP (n:=(t:Int)-1) (by omega) (by omega),show ((t:Int)-1)=((t-1:Nat):Int) by omega,BF g2,IS hD hn (by omega) hN];simp only[fZ];rw[BP (by omega) (by omega),show ((c:Int)-(nc (D.take (t-1)):Int))=((c-nc (D.take (t-1)):Nat):Int) by omega,BF g4];rfl
theorem RS {D:List AN}(hD:D.length<=1048576)(hn:nc D<=1048576){c:Nat}(hc:c<nc D){N:Nat}(hN:2000000<=N):∃t x,HO D 0 c=some (t,x)/\Ds N D c=some x.fields:=by
 obtain⟨t,x,e1,e2⟩:=Of hD hn hc hN;exact⟨t,x,e1,by unfold Ds;rw[e2];rfl⟩
end RC
namespace RC
open Go
def CN (D:List AN)(t:Int):List Int:=
 if 1<=t/\t<=(D.length:Int) then (List.range ((D[(t-1).toNat]?).elim 0 (·.cons.length))).map λ(i:Nat)=>(nc (D.take (t-1).toNat):Int)+(i:Int) else []
theorem Sc {f:Nat->Int}{i:Nat}:(List.range (i+1)).map f=(List.range i).map f++[f i]:=by rw[List.range_succ,iD];rfl
theorem OD {D:List AN}(hD:D.length<=1048576)(hn:nc D<=1048576){t:Int}{N:Nat}(hN:2000000<=N):Gb N D t=some (CN D t):=by
 unfold Gb CN;rw[El,AM];simp only[fZ];by_cases h:1<=t/\t<=(D.length:Int)
 ·obtain⟨a,ha⟩ :∃a:Nat,t=(a:Int)+1:=⟨(t-1).toNat,by omega⟩
  subst ha;obtain⟨d,hd,_⟩:=CE (l:=D) (i:=a) (by omega);have hs:=Gz D (a+1);have ht:=Ku hd;rw[fr (by simp;omega),fq h,show (((a:Int)+1)-1).toNat=a by omega,hd];simp only[jI];have key:∀{M i:Nat},i<=d.cons.length->d.cons.length-i<M->FM N D ((a:Int)+1) M i ((List.range i).map λ(i:Nat)=>(nc (D.take a):Int)+(i:Int))=some ((List.range d.cons.length).map λ(i:Nat)=>(nc (D.take a):Int)+(i:Int)):=by
   intro M i hi hM;refine Bm d.cons.length (λM i=>FM N D ((a:Int)+1) M i ((List.range i).map λ(i:Nat)=>(nc (D.take a):Int)+(i:Int))=some ((List.range d.cons.length).map λ(i:Nat)=>(nc (D.take a):Int)+(i:Int))) ?_ ?_ hi hM
   ·intro n;rw[FM,BP (by omega) (by omega),show ((a:Int)+1-1)=((a:Nat):Int) by omega,BF hd];simp only[fZ];rw[fr (by simp[AM])]
   ·intro n i hi ih;rw[FM,BP (n:=(a:Int)+1-1) (by omega) (by omega),show ((a:Int)+1-1)=((a:Nat):Int) by omega,BF hd];simp only[fZ];rw[fq (by simp[AM];omega),IS hD hn (by omega) hN];simp only[fZ];rw[EC _ _ _ (by simp;omega) (by simp;omega),BP (n:=(i:Int)+1) (by omega) (by omega),BP (by omega) (by omega),show ((i:Int)+1)=((i+1:Nat):Int) by omega];simp only[fZ];rw[<- ih,Sc]
  have:=key (gK _) (by omega:d.cons.length-0<N);rw[show (((0:Nat):Int))=0 from rfl,List.range_zero,iQ]at this;rw[this];rfl
 ·rw[fq (by simp;omega),fr h]
theorem H7 {D:List AN}(hD:D.length<=1048576)(hn:nc D<=1048576){t:Int}{N:Nat}(hN:2000000<=N):GY N D t=some (CN D t):=by
 unfold GY CN;rw[AM];by_cases h:1<=t/\t<=(D.length:Int)
 ·obtain⟨a,ha⟩ :∃a:Nat,t=(a:Int)+1:=⟨(t-1).toNat,by omega⟩
  subst ha;obtain⟨d,hd,_⟩:=CE (l:=D) (i:=a) (by omega);have hs:=Gz D (a+1);have te:=Gz D a;have ht:=Ku hd;have e1:¬ ((a:Int)+1<1):=by omega
  have e2:¬ ((D.length:Int)<(a:Int)+1):=by omega
  rw[fq h,show (((a:Int)+1)-1).toNat=a by omega,hd,BP (by omega) (by omega),show ((a:Int)+1-1)=((a:Nat):Int) by omega,Xt (by omega) (by omega),BF hd];simp only[jI,e1,e2,gF,fh,gM,fZ];rw[RE (by simp;omega) (by omega) hN];simp only[fZ];have key:∀{M i:Nat},i<=d.cons.length->d.cons.length-i<M->FG d (nc (D.take a):Int) M i ((List.range i).map λ(i:Nat)=>(nc (D.take a):Int)+(i:Int))=some ((List.range d.cons.length).map λ(i:Nat)=>(nc (D.take a):Int)+(i:Int)):=by
   intro M i hi hM;refine Bm d.cons.length (λM i=>FG d (nc (D.take a):Int) M i ((List.range i).map λ(i:Nat)=>(nc (D.take a):Int)+(i:Int))=some ((List.range d.cons.length).map λ(i:Nat)=>(nc (D.take a):Int)+(i:Int))) ?_ ?_ hi hM
   ·intro n;rw[FG,fr (by simp[AM])]
   ·intro n i hi ih;rw[FG,fq (by simp[AM];omega)];rw[EC _ _ _ (by simp;omega) (by simp;omega),BP (n:=(i:Int)+1) (by omega) (by omega),BP (by omega) (by omega),show ((i:Int)+1)=((i+1:Nat):Int) by omega];simp only[fZ];rw[<- ih,Sc]
  have:=key (gK _) (by omega:d.cons.length-0<N);rw[show (((0:Nat):Int))=0 from rfl,List.range_zero,iQ]at this;rw[this];rfl
 ·rw[fr h];by_cases e1:t<1
  ·simp[e1]
  ·have e2:(D.length:Int)<t:=by omega
   simp[e1,e2]
end RC
namespace RC
open Go
end RC
namespace RC
open Go
def dR (left:Int)(s:Nat):Int:=if left-s<0 then -1 else left-s
theorem Qd {left:Int}{s:Nat}(h:left-s<0):dR left s=-1:=fq h
theorem Ta {left:Int}{s:Nat}(h:¬ left-s<0):dR left s=left-s:=fr h
def cz (c:Dd):Nat:=c.fields.length
def dz (d:AN):Nat:=d.cons.length+(d.cons.map cz).sum
end RC
namespace RC
open Go
end RC
namespace RC
open Go
end RC
namespace RC
open Go
end RC
namespace RC
open Go
section
variable {im : cc} {p : ar} {at_ : Nat} {i : Y6} {N : Nat}
end
end RC
namespace RC
open Go
theorem Kv {α:Type}(f:α->Nat){l:List α}{x:α}(h:x∈l):f x<=(l.map f).sum:=by
 induction l with
 | nil=>cases h
 | cons y r ih=>
  rw[gP,jY];rcases fu.1 h with rfl|h
  ·omega
  ·have:=ih h;omega
end RC
namespace RC
open Go
end RC
namespace RC
open Go
end RC
namespace RC
open Go
mutual
def en:AG->Nat|.mk _ _ k=>1+CG k
def CG:List AG->Nat|[]=>0|e::l=>en e+CG l
end
theorem Ex (e:AG):en e=1+CG e.kids:=by cases e;simp[en,AG.kids]
theorem VW {k:List AG}{i:Nat}{e:AG}(h:k[i]?=some e):CG (k.drop i)=en e+CG (k.drop (i+1)):=by rw[drop_cons h];simp[CG]
theorem Kf (e:AG):1<=en e:=by rw[Ex];omega
theorem Ju {k:List AG}{e:AG}(h:e∈k):en e<=CG k:=by
 induction k with
 | nil=>cases h
 | cons c k ih=>
  simp only[CG];rcases fu.1 h with rfl|h
  ·omega
  ·have:=ih h;omega
theorem Hl (k:List AG):k.length<=CG k:=by
 induction k with
 | nil=>simp
 | cons c k ih=>have:=Kf c;simp only[CG,gn];omega
theorem DY {e k:AG}(h:k∈e.kids):en k<en e:=by have:=Ju h;rw[Ex e];omega
def WX (f:Ad):Nat:=f.params.length+CG f.body.kids
def Rf (p:AP):Nat:=(p.decls.length+(p.decls.map dz).sum)+(p.funcs.length+(p.funcs.map WX).sum)
theorem Sw {N:Nat}(hN:2000000<=N):∀(n:Nat) (e:AG) (left:Int),left<=1000->0<=left->left<n->CG e.kids<=1048576->E1 N n e left=some (dR left (en e)):=by
 intro n
 induction n with
 | zero=>intro e left _ _ h;omega
 | succ n ih=>
  intro e left h0 tj h1 hz;rw[E1];unfold IX;have hp:=Ex e;have hle:=Hl e.kids;by_cases h2:left<1
  ·rw[fq (by simpa using h2),Qd (by omega)]
  ·rw[fr (by simpa using h2),BP (by omega) (by omega)];have key:∀{M i:Nat},i<=e.kids.length->e.kids.length-i<M->∀l:Int,0<=l->l<left->DS e (E1 N n) M l i=some (if l-(CG (e.kids.drop i):Int)<0 then .inl (-1) else .inr (l-(CG (e.kids.drop i):Int))):=by
    intro M i hi hM;refine Bm e.kids.length (λM i=>∀l:Int,0<=l->l<left->DS e (E1 N n) M l i=some (if l-(CG (e.kids.drop i):Int)<0 then .inl (-1) else .inr (l-(CG (e.kids.drop i):Int)))) ?_ ?_ hi hM
    ·intro m l l0 l1;rw[DS,fr (by simp[AM])];simp[CG];omega
    ·intro m i hi qI l l0 l1;obtain⟨x,hx,pK⟩:=CE hi;have uH:=Ju pK;have e1:=Ex x;rw[DS,fq (by simp[AM];omega),BF hx];simp only[fZ];rw[ih x l (by omega) l0 (by omega) (by omega),VW hx];simp only[fZ];by_cases h3:l-(en x:Int)<0
     ·rw[Qd h3,fq (by simp),fq (by omega)]
     ·rw[Ta h3,fr (by simpa using h3),BP (by omega) (by omega),show ((i:Int)+1)=((i+1:Nat):Int) by omega,qI (l-(en x:Int)) (by omega) (by omega)];rw[show l-(en x:Int)-(CG (e.kids.drop (i+1)):Int)=l-((en x+CG (e.kids.drop (i+1)):Nat):Int) by omega]
   have:=key (gK _) (by omega:e.kids.length-0<N) (left-1) (by omega) (by omega);rw[lI,ir]at this;rw[this];by_cases h3:left-1-(CG e.kids:Int)<0
   ·rw[fq h3,Qd (by omega)];rfl
   ·rw[fr h3,Ta (by omega)];simp only[Sh.Mp];congr 1;omega
theorem Gk {e:AG}(hz:CG e.kids<=1048576){N:Nat}(hN:2000000<=N):Ge N e=some (if en e<=30 then (en e:Int) else -1):=by
 unfold Ge LB;rw[Sw hN N e 30 (by omega) (by omega) (by omega) hz];simp only[fZ];by_cases h:en e<=30
 ·rw[Ta (by omega),fq h,fr (by simp;omega),BP (by omega) (by omega)];congr 1;omega
 ·rw[Qd (by omega),fr h];rfl
theorem Ro {N:Nat}(hN:2000000<=N):∀(n:Nat) (e:AG) (c:Nat),c<=30->31-c<n->CG e.kids<=1048576->Ek N n c e=some (if c+en e<=30 then (true,((c+en e:Nat):Int)) else (false,31)):=by
 intro n
 induction n with
 | zero=>intro e c _ h;omega
 | succ n ih=>
  intro e c h0 h1 hz;rw[Ek];unfold Hw;have hp:=Ex e;have hle:=Hl e.kids;rw[BP (by omega) (by omega)];by_cases h2:c=30
  ·subst h2;rw[fq (by simp),fr (by omega)];rfl
  ·rw[fr (by simp;omega)];have key:∀{M i:Nat},i<=e.kids.length->e.kids.length-i<M->∀d:Nat,c<d->d<=30->DF e (Ek N n) M i d=some (if d+CG (e.kids.drop i)<=30 then .inr ((d+CG (e.kids.drop i):Nat):Int) else .inl (false,31)):=by
    intro M i hi hM;refine Bm e.kids.length (λM i=>∀d:Nat,c<d->d<=30->DF e (Ek N n) M i d=some (if d+CG (e.kids.drop i)<=30 then .inr ((d+CG (e.kids.drop i):Nat):Int) else .inl (false,31))) ?_ ?_ hi hM
    ·intro m d l0 l1;rw[DF,fr (by simp[AM])];simp[CG,l1]
    ·intro m i hi qI d l0 l1;obtain⟨x,hx,pK⟩:=CE hi;have uH:=Ju pK;have e1:=Ex x;rw[DF,fq (by simp[AM];omega),BF hx];simp only[fZ];rw[ih x d l1 (by omega) (by omega),VW hx];simp only[fZ];by_cases h3:d+en x<=30
     ·rw[fq h3];simp only[iA,fh,gM];rw[BP (by omega) (by omega),show ((i:Int)+1)=((i+1:Nat):Int) by omega,qI (d+en x) (by omega) h3,iO]
     ·have h4:¬ (d+(en x+CG (List.drop (i+1) e.kids))<=30):=by omega
      rw[fr h3,fr h4];rfl
   have:=key (gK _) (by omega:e.kids.length-0<N) (c+1) (by omega) (by omega);rw[lI,ir,show ((c+1:Nat):Int)=(c:Int)+1 by omega]at this;rw[this];by_cases h3:c+1+CG e.kids<=30
   ·rw[fq h3,fq (by omega)];simp only[Sh.Mp];rw[show c+1+CG e.kids=c+en e by omega]
   ·rw[fr h3,fr (by omega)];rfl
theorem I4 {e:AG}(hz:CG e.kids<=1048576){N:Nat}(hN:2000000<=N):Gg N e=some (if en e<=30 then (en e:Int) else -1):=by
 unfold Gg KJ;have:=Ro hN N e 0 (by omega) (by omega) hz;rw[lI,iJ]at this;rw[this];simp only[fZ];by_cases h:en e<=30
 ·rw[fq h,fq h];rfl
 ·rw[fr h,fr h];rfl
end RC
namespace RC
open Go
theorem O1 {α:Type}{g:Nat->α->Bool}:∀(l:List α) (k:Nat),Fi g k l=true↔∀(i:Nat) x,l[i]?=some x->g (k+i) x=true
 | [],_=>by simp[Fi]
 | x::r,k=>by
  rw[Fi,gN,O1 r (k+1)];constructor
  ·rintro⟨h1,h2⟩ i y hy;cases i with
   | zero=>simp only[gQ,ff]at hy;subst hy;exact h1
   | succ i=>have:=h2 i y hy;rw[show k+(i+1)=k+1+i by omega];exact this
  ·intro h;exact⟨h 0 x rfl,λi y hy=>by have:=h (i+1) y hy;rw[show k+(i+1)=k+1+i by omega]at this;exact this⟩
theorem Q2 {a b:List Int}(h:a.length=b.length):Fi (λi x=>decide (b[i]?=some x)) 0 a=decide (a=b):=by
 rw[Bool.eq_iff_iff,O1,jd];constructor
 ·intro g;refine iu λi=>?_;by_cases hi:i<a.length
  ·obtain⟨x,hx,_⟩:=CE hi;have:=g i x hx;rw[jd,iJ]at this;rw[hx,this]
  ·rw[hH (by omega),hH (by omega)]
 ·rintro rfl i x hx;rw[jd,iJ,hx]
theorem Mq {a b:List Int}(ha:a.length<=1048576){N:Nat}(hN:2000000<=N):DH N a b=some (decide (a=b)):=by
 unfold DH;by_cases h:a.length=b.length
 ·rw[fr (by simp[AM,h]),E8 (l:=a) (Cx a b) (λi x=>decide (b[i]?=some x)) (λn=>by rw[Cx,fr (by simp[AM])]) (λn i x hx=>?_) (by omega),E9,Q2 h]
  ·cases decide (a=b)<;>rfl
  ·have hi:=(fe.1 hx).1;obtain⟨y,hy,_⟩:=CE (l:=b) (i:=i) (by omega);rw[Cx,fq (by simp[AM];omega),BF hx];simp only[fZ];rw[BF hy,hy,BP (by omega) (by omega),show ((i:Int)+1)=((i+1:Nat):Int) by omega];simp only[fZ];by_cases e:x=y
   ·simp[e]
   ·have e':¬ y=x:=λq=>e q.symm;simp[e,e']
 ·have lv:¬ a=b:=λe=>h (by rw[e]);have h':¬ ((a.length:Int)=(b.length:Int)):=by omega
  simp[AM,h',lv]
structure FE (D:List AN) (F:List Ad):Prop where
 MU:D.length<=4
 Sj :∀d∈D,d.cons.length<=3
 Lj :∀d∈D,∀c∈d.cons,c.fields.length<=3/\∀t∈c.fields,Dj D t=true
 aQ :∀d∈D,Dj D d.from_=true/\Dj D d.to=true
 Ih:F.length<=4
 OE :∀f∈F,f.params.length<=3/\(∀t∈f.params,Dj D t=true)/\Dj D f.result=true
theorem aX {D:List AN}(h :∀d∈D,d.cons.length<=3):nc D<=3*D.length:=by
 induction D with
 | nil=>simp[nc]
 | cons d r ih=>
  have h1:=h d (by simp);have h2:=ih λe he=>h e (by simp[he]);simp only[nc,gP,jY,gn]at h2⊢;omega
theorem FE.nc {D:List AN}{F:List Ad}(S:FE D F):nc D<=12:=by have:=aX S.Sj;have:=S.MU;omega
theorem Kc {D:List AN}{t:Int}(h:Dj D t=true):0<=t/\t<=(D.length:Int):=by
 unfold Dj at h;simpa using h
theorem FE.of {p:AP}(h:NS p.decls (p.funcs.map λf=>(f.params,f.result))=true):FE p.decls p.funcs:=by
 unfold NS at h;simp only[gN,gI,List.all_map,fy]at h;obtain⟨h1,⟨_,h2⟩,h3,_⟩:=h;unfold MM at h1;simp only[gN,fy]at h1;obtain⟨h4,h5⟩:=h1;rw[O1]at h5;have hd:∀d∈p.decls,∃i,K0 p.decls i d=true:=λd hd=>by
  obtain⟨i,hi⟩:=gG.1 hd;exact⟨_,h5 i d hi⟩
 refine⟨h4,λd hm=>?_,λd hm c hc=>?_,λd hm=>?_,h2,λf hf=>?_⟩
 ·obtain⟨i,hi⟩:=hd d hm;unfold K0 at hi;split at hi
  ·simp only[gN,fy]at hi;exact hi.1.1
  ·omega
 ·obtain⟨i,hi⟩:=hd d hm;unfold K0 at hi;split at hi
  ·simp only[gN,fy,fk]at hi;have:=hi.2 c hc;unfold Pw at this;simp only[gN,fy,fk]at this;exact this
  ·have:=List.length_pos_of_mem hc;omega
 ·obtain⟨i,hi⟩:=hd d hm;unfold K0 at hi;split at hi
  ·simp only[gN,fy]at hi;rw[hi.1.2.1,hi.1.2.2];have:Dj p.decls 0=true:=by unfold Dj;simp
   exact⟨this,this⟩
  ·simp only[gN]at hi;exact hi.2
 ·have:=fk.1 h3 f hf;simp only[Function.comp,NG,gN,fy,fk]at this;exact this
def Jn (p:AP)(sg:BL)(R1:AP->List Int->AG->Option Int)(R2:List Int->BL->AG->Option Int)(T:List Int->AG->Int)(m:Nat):Prop:=
 ∀(v:List Int) (e:AG),Aq e->en e<m->v.length+3*en e<=1000->(∀x∈v,Dj p.decls x=true)->R1 p v e=some (T v e)/\R2 v sg e=some (T v e)/\(T v e=-1∨Dj p.decls (T v e)=true)
section
variable {p : AP} {sg : BL} {R1 : AP -> List Int -> AG -> Option Int} {R2 : List Int -> BL -> AG -> Option Int} {T : List Int -> AG -> Int} {e : AG} {v : List Int} {N : Nat}
structure Hi (p:AP) (e:AG) (v:List Int):Prop where
 len:v.length+3*en e<=1000
 I5 :∀x∈v,Dj p.decls x=true
 small:en e<=340
 Ck:Aq e
theorem Hi.Jo (V:Hi p e v){k:AG}(hk:k∈e.kids):v.length+3*en k<=1000:=by have:=V.len;have:=DY hk;omega
theorem Hi.more (V:Hi p e v){k:AG}(hk:k∈e.kids){m:List Int}(hm:m.length<=3):(v++m).length+3*en k<=1000:=by have:=V.len;have:=DY hk;rw[gV];omega
theorem Hi.UT (V:Hi p e v){m:List Int}(hm :∀x∈m,Dj p.decls x=true):∀x∈v++m,Dj p.decls x=true:=λx hx=>by
 rcases gS.1 hx with h|h
 ·exact V.I5 x h
 ·exact hm x h
theorem Hi.Ks (V:Hi p e v):e.kids.length<=340:=by have:=Hl e.kids;have:=V.small;have:=Ex e;omega
theorem Sn (H:Jn p sg R1 R2 T (en e))(V:Hi p e v)(hN:2000000<=N)(m:Nat):IF N R1 p v e.kids m=some (decide (e.kids.map (T v)=List.replicate m 0)):=by
 unfold IF;have hk:=V.Ks;by_cases h:e.kids.length=m
 ·subst h;rw[fr (by simp[AM]),E8 (l:=e.kids) (FZ p v e.kids e.kids.length R1) (λ_ x=>decide (T v x=0)) (λn=>by rw[FZ,fr (by simp)]) (λn i x hx=>?_) (by omega),E9,Fv]
  ·have e1:e.kids.all (λx=>decide (T v x=0))=decide (e.kids.map (T v)=List.replicate e.kids.length 0):=by
    rw[Bool.eq_iff_iff,jd,fk,List.eq_replicate_iff];simp
   rw[e1];cases decide (e.kids.map (T v)=List.replicate e.kids.length 0)<;>rfl
  ·have hi:=(fe.1 hx).1;have hm:=fc hx;rw[FZ,fq (by simp;omega),BF hx];simp only[fZ];rw[(H v x (V.Ck.kids x hm) (DY hm) (V.Jo hm) V.I5).1,BP (by omega) (by omega),show ((i:Int)+1)=((i+1:Nat):Int) by omega];simp only[fZ];by_cases e1:T v x=0<;>simp[e1]
 ·have h1:¬ ((e.kids.length:Int)=(m:Int)):=by omega
  have h2:¬ e.kids.map (T v)=List.replicate m 0:=λq=>h (by have:=iE List.length q;simpa using this);simp[AM,h1,h2]
theorem Mw (H:Jn p sg R1 R2 T (en e))(V:Hi p e v)(hN:2000000<=N)(l:List Int):Ic N R1 p v e.kids l=some (decide (e.kids.map (T v)=l)):=by
 unfold Ic;have hk:=V.Ks;by_cases h:e.kids.length=l.length
 ·rw[fr (by simp[AM,h]),E8 (l:=l) (F9 p v e.kids l R1) (λi x=>decide ((e.kids.map (T v))[i]?=some x)) (λn=>by rw[F9,fr (by simp[AM])]) (λn i x hx=>?_) (by omega),E9,Q2 (by simp[h])]
  ·by_cases q:l=e.kids.map (T v)
   ·simp[q]
   ·have q':¬ e.kids.map (T v)=l:=λz=>q z.symm;simp[q,q']
  ·have hi:=(fe.1 hx).1;obtain⟨y,hy,hm⟩:=CE (l:=e.kids) (i:=i) (by omega);rw[F9,fq (by simp[AM];omega),BF hy];simp only[fZ];rw[(H v y (V.Ck.kids y hm) (DY hm) (V.Jo hm) V.I5).1,BF hx,BP (by omega) (by omega),show ((i:Int)+1)=((i+1:Nat):Int) by omega];simp only[fZ];rw[fg,hy,gu];by_cases e1:T v y=x<;>simp[e1]
 ·have h1:¬ ((e.kids.length:Int)=(l.length:Int)):=by omega
  have h2:¬ e.kids.map (T v)=l:=λq=>h (by have:=iE List.length q;simpa using this);simp[AM,h1,h2]
theorem Wm (H:Jn p sg R1 R2 T (en e))(V:Hi p e v)(hN:2000000<=N):
  Bz v sg e R2 N 0 (List.replicate e.kids.length 0)=some (if (e.kids.map (T v)).any (λt=>decide (t<0))=true then .inl (-1) else .inr (e.kids.map (T v))):=by
 have hk:=V.Ks;have key:∀{N i:Nat},i<=e.kids.length->e.kids.length-i<N->∀m:List Int,m.length=e.kids.length->m.take i=(e.kids.map (T v)).take i->
   Bz v sg e R2 N i m=some (if ((e.kids.map (T v)).drop i).any (λt=>decide (t<0))=true then .inl (-1) else .inr (e.kids.map (T v))):=by
  intro N i hi hN;refine Bm e.kids.length (λN i=>∀m:List Int,m.length=e.kids.length->m.take i=(e.kids.map (T v)).take i->
   Bz v sg e R2 N i m=some (if ((e.kids.map (T v)).drop i).any (λt=>decide (t<0))=true then .inl (-1) else .inr (e.kids.map (T v)))) ?_ ?_ hi hN
  ·intro n m a b;rw[Bz,fr (by simp[AM])];rw[gx (by omega),gx (by simp)]at b;rw[b,ji (by simp)];simp
  ·intro n i hi ih m a b;obtain⟨x,hx,pK⟩:=CE hi;obtain⟨y,hy,_⟩:=CE (l:=m) (i:=i) (by omega);have qx:(e.kids.map (T v))[i]?=some (T v x):=by rw[fg,hx];rfl
   have ni:(m.set i (T v x))[i]?=some (T v x):=by rw[fv (by omega)]
   rw[Bz,fq (by simp[AM];omega),BF hx];simp only[fZ];rw[(H v x (V.Ck.kids x pK) (DY pK) (V.Jo pK) V.I5).2.1,BF hy];simp only[fZ];rw[Oe,BF ni,drop_cons qx];simp only[fZ,List.any_cons];by_cases h:T v x<0
   ·simp[h]
   ·rw[fr (by simpa using h),BP (by omega) (by omega),show ((i:Int)+1)=((i+1:Nat):Int) by omega,ih (m.set i (T v x)) (by simp[a]) (by rw[EP ni,EP qx,<- b,jw (gA _)])];simp[h]
 have:=key (gK _) (by omega:e.kids.length-0<N) (List.replicate e.kids.length 0) (by simp) rfl;simpa using this
theorem Iu {a b:List Int}(ha:a.length<=1000)(hb:b.length<=1000):ES a b=some (a++b):=by
 unfold ES FB;rw[EC [] a 8 (by simp;omega) (by simp;omega)];simp only[fZ,iN];rw[EC a b 8 (by omega) (by omega)];rfl
theorem X0 {a b:List Int}(ha:a.length<=1000)(hb:b.length<=1000)(hN:2000000<=N):Ff N [a,b]=some (a++b):=by
 obtain⟨n,rfl⟩ :∃n,N=n+3:=⟨N-3,by omega⟩
 unfold Ff;have e1:Ce [a,b] (n+3) 0 0=some ((a.length+b.length:Nat):Int):=by
  rw[Ce,fq (by simp[AM]),show Sh.get [a,b] 0=some a from rfl];simp only[fZ];rw[AM,BP (n:=(0:Int)+1) (by omega) (by omega),BP (by omega) (by omega),fr (by rw[fy];omega)];rw[Ce,fq (by simp[AM]),show Sh.get [a,b] (0+1)=some b from rfl];simp only[fZ];rw[AM,BP (n:=(0:Int)+1+1) (by omega) (by omega),BP (by omega) (by omega),fr (by rw[fy];omega)];rw[Ce,fr (by simp[AM])];congr 1;omega
 have e2:Cd [a,b] (n+3) 0 []=some (a++b):=by
  rw[Cd,fq (by simp[AM]),show Sh.get [a,b] 0=some a from rfl];simp only[fZ];rw[EC [] a 8 (by simp;omega) (by simp;omega),BP (n:=(0:Int)+1) (by omega) (by omega)];simp only[fZ,iN];rw[Cd,fq (by simp[AM]),show Sh.get [a,b] (0+1)=some b from rfl];simp only[fZ];rw[EC a b 8 (by omega) (by omega),BP (n:=(0:Int)+1+1) (by omega) (by omega)];simp only[fZ];rw[Cd,fr (by simp[AM])]
 have e3:F8 ((a.length+b.length:Nat):Int)=some []:=by
  unfold F8;rw[fr (by simp;omega),BP (n:=(0:Int)-0) (by omega) (by omega),BP (by omega) (by omega)];by_cases h:0<a.length+b.length
  ·rw[fq (by simp;omega),show (((a.length+b.length:Nat):Int)-(0-0))=((a.length+b.length:Nat):Int) by omega,Ol _ _ _ (by omega) (by omega)];simp only[fZ];have:=av (l:=List.replicate (a.length+b.length) (0:Int)) (j:=0) (by omega);rw[lI]at this;rw[this];rfl
  ·rw[fr (by simp;omega)];rfl
 rw[e1];simp only[fZ];rw[e3];simp only[fZ];rw[e2];rfl
def Kh:List Int->Int
 | []=>-1
 | t::r=>if r.all (λx=>decide (x=t))=true then t else -1
theorem Ji (H:Jn p sg R1 R2 T (en e))(V:Hi p e v)(hN:2000000<=N){ks:List AG}{ms:List (List Int)}(nZ :∀k∈ks,k∈e.kids)(ot:ks.length<=340)(hl:ms.length=ks.length)(hm :∀m∈ms,m.length<=3/\∀x∈m,Dj p.decls x=true):
  EF N R2 sg v ks ms=some (Kh (List.zipWith (λm k=>T (v++m) k) ms ks)):=by
 unfold EF;have tW:v.length<=1000:=by have:=V.len;omega
 have step:∀(n i:Nat) (r:Int) k m,ks[i]?=some k->ms[i]?=some m->Be N sg v ks ms R2 (n+1) r i=if T (v++m) k<0∨(0<i/\T (v++m) k≠r) then some (.inl (-1)) else Be N sg v ks ms R2 n (T (v++m) k) ((i+1:Nat):Int):=by
  intro n i r k m hk sP;have hi:=(fe.1 hk).1;have vl:=hm m (fc sP);have sH:=nZ k (fc hk);rw[Be,fq (by simp[AM];omega),BF hk];simp only[fZ];rw[BF sP];simp only[fZ];rw[X0 tW (by omega) hN];simp only[fZ];rw[(H (v++m) k (V.Ck.kids k sH) (DY sH) (V.more sH vl.1) (V.UT vl.2)).2.1];simp only[fZ];rw[BP (by omega) (by omega),show ((i:Int)+1)=((i+1:Nat):Int) by omega];by_cases h1:T (v++m) k<0
  ·simp[h1]
  ·by_cases h2:0<i
   ·by_cases h3:T (v++m) k=r
    ·have nY:¬ r<0:=h3▸h1;simp[nY,h2,h3]
    ·simp[h1,h2,h3]
   ·simp[h1,h2]
 have rest:∀(d i n:Nat) (r:Int),ks.length-i=d->0<i->i<=ks.length->d<n->Be N sg v ks ms R2 n r i=some (if ((List.zipWith (λm k=>T (v++m) k) ms ks).drop i).all (λx=>decide (x=r))=true then (if ((List.zipWith (λm k=>T (v++m) k) ms ks).drop i).any (λx=>decide (x<0))=true then .inl (-1) else .inr r) else .inl (-1)):=by
  intro d
  induction d with
  | zero=>
   intro i n r h1 h2 h3 h4;obtain⟨n,rfl⟩ :∃q,n=q+1:=⟨n-1,by omega⟩
   rw[Be,fr (by simp[AM];omega),ji (by simp;omega)];rfl
  | succ d ih=>
   intro i n r h1 h2 h3 h4;obtain⟨n,rfl⟩ :∃q,n=q+1:=⟨n-1,by omega⟩
   obtain⟨k,hk,_⟩:=CE (l:=ks) (i:=i) (by omega);obtain⟨m,sP,_⟩:=CE (l:=ms) (i:=i) (by omega);have hz:(List.zipWith (λm k=>T (v++m) k) ms ks)[i]?=some (T (v++m) k):=by rw[iV,hk,sP]
   rw[step n i r k m hk sP,drop_cons hz,jX,List.any_cons];by_cases h5:T (v++m) k=r
   ·by_cases h6:T (v++m) k<0
    ·rw[fq (.inl h6)];have yS:r<0:=h5▸h6;simp[h5,yS]
    ·rw[fr (by rintro (h|h);exact h6 h;exact h.2 h5),ih (i+1) n _ (by omega) (by omega) (by omega) (by omega)];have yS:¬ r<0:=h5▸h6;simp[h5,yS]
   ·rw[fq (.inr ⟨h2,h5⟩)];simp[h5]
 cases hks0:ks with
 | nil=>
  obtain⟨n,rfl⟩ :∃q,N=q+1:=⟨N-1,by omega⟩
  rw[Be,fr (by simp[AM])];simp[Kh]
 | cons k r=>
  cases hms0:ms with
  | nil=>rw[hks0,hms0]at hl;simp at hl
  | cons m s=>
   rw[<- hks0,<- hms0];obtain⟨n,hn⟩ :∃q,N=q+1:=⟨N-1,by omega⟩
   have h0:=step n 0 (-1) k m (by rw[hks0];rfl) (by rw[hms0];rfl);rw[lI]at h0;have sH:=nZ k (by rw[hks0];simp);have vl:=hm m (by rw[hms0];simp);have hT:=(H (v++m) k (V.Ck.kids k sH) (DY sH) (V.more sH vl.1) (V.UT vl.2)).2.2;rw[show Be N sg v ks ms R2 N (-1) 0=Be N sg v ks ms R2 (n+1) (-1) 0 by rw[<- hn],h0];have xJ:List.zipWith (λm k=>T (v++m) k) ms ks=T (v++m) k::List.zipWith (λm k=>T (v++m) k) s r:=by rw[hks0,hms0];rfl
   rw[xJ];unfold Kh;by_cases h1:T (v++m) k<0
   ·rw[fq (.inl h1)];have:T (v++m) k=-1:=by
     rcases hT with h|h
     ·exact h
     ·have:=(Kc h).1;omega
    rw[this];simp
   ·rw[fr (by rintro (h|h);exact h1 h;omega),rest _ 1 n _ rfl (by omega) (by rw[hks0];simp) (by omega),xJ,List.drop_succ_cons,ir];by_cases h2:(List.zipWith (λm k=>T (v++m) k) s r).all (λx=>decide (x=T (v++m) k))=true
    ·have h3:¬ (List.zipWith (λm k=>T (v++m) k) s r).any (λx=>decide (x<0))=true:=λh=>by
      obtain⟨x,hx,qx⟩:=jF.1 h;have:=fk.1 h2 x hx;simp only[fy]at this qx;omega
     rw[fq h2,fr h3];dsimp only;rw[fq h2];rfl
    ·rw[fr h2];dsimp only;rw[fr h2];rfl
end
end RC
namespace RC
open Go
theorem ZS {n:Int}(h1:n < -9223372036854775808)(h2:-18446744073709551616<=n):Sh.w n=n+18446744073709551616:=by
 unfold Sh.w;rw[IntKind.wrap_i64];omega
theorem S8 {D:List AN}(hD:D.length<=1048576)(hn:nc D<=1048576){c:Int}(hI:IB c)(hc:c<0∨(nc D:Int)<=c){N:Nat}(hN:2000000<=N):Hu N D c=some (-1,⟨[]⟩):=by
 have key:∀(m j N:Nat) (c:Int),D.length-j=m->j<=D.length->m<N->IB c->(c<0∨(nc (D.drop j):Int)<=c)->FC D N c j=some (.inr ()):=by
  intro m
  induction m with
  | zero=>
   intro j N c h1 h2 h3 _ _;obtain⟨N,rfl⟩ :∃n,N=n+1:=⟨N-1,by omega⟩
   rw[FC,fr (by simp[AM];omega)]
  | succ m ih=>
   intro j N c h1 h2 h3 hI h4;obtain⟨N,rfl⟩ :∃n,N=n+1:=⟨N-1,by omega⟩
   obtain⟨d,hd,_⟩:=CE (l:=D) (i:=j) (by omega);have hs:=Gz D j;rw[RU hd]at h4 hs;rw[FC,fq (by simp[AM];omega),BF hd];simp only[fZ];have qX:=hI.1;have rn:=hI.2;have e1:¬ (0<=c/\c<(d.cons.length:Int)):=by omega
   have e2:(if decide (0<=c)=true then some (decide (c<Sh.len d.cons)) else some false)=some false:=by
    by_cases h0:0<=c
    ·have:¬ c<(d.cons.length:Int):=by omega
     simp[h0,AM,this]
    ·simp[h0]
   rw[BP (n:=(j:Int)+1) (by omega) (by omega),show ((j:Int)+1)=((j+1:Nat):Int) by omega,AM];rw[AM]at e2;by_cases h5:c-(d.cons.length:Int) < -9223372036854775808
   ·have:=ih (j+1) N (Sh.w (c-(d.cons.length:Int))) (by omega) (by omega) (by omega) (by rw[ZS h5 (by omega)];unfold IB;omega) (by rw[ZS h5 (by omega)];omega);rw[e2];simp only[fZ,fh,gM];exact this
   ·have:=ih (j+1) N (Sh.w (c-(d.cons.length:Int))) (by omega) (by omega) (by omega) (by rw[BP (by omega) (by omega)];unfold IB;omega) (by rw[BP (by omega) (by omega)];omega);rw[e2];simp only[fZ,fh,gM];exact this
 have:=key D.length 0 N c (by omega) (by omega) (by omega) hI (by simpa using hc);unfold Hu;rw[show (((0:Nat):Int))=0 from rfl]at this;rw[this];rfl
theorem PM:∀{D:List AN} {k c t:Nat} {x:Dd},HO D k c=some (t,x)->k<t/\t<=k+D.length/\∃d∈D,x∈d.cons
 | [],_,_,_,_,h=>by simp[HO]at h
 | d::r,k,c,t,x,h=>by
  unfold HO at h;cases hx:d.cons[c]? with
  | some y=>
   rw[hx]at h;simp only[ff,kF]at h;obtain⟨rfl,rfl⟩:=h;exact⟨by omega,by simp,d,by simp,fc hx⟩
  | none=>
   rw[hx]at h;obtain⟨h1,h2,e,h3,h4⟩:=PM h;exact⟨by omega,by simp;omega,e,by simp[h3],h4⟩
def Nb (a b:Int)(d:AN):Bool:=decide (d.cons.length=0)&&(decide (d.from_=a)&&decide (d.to=b))
def HP (a b:Int):List AN->Nat->Int
 | [],_=>-1
 | d::r,k=>if Nb a b d=true then (k:Int)+1 else HP a b r (k+1)
theorem W5 {a b:Int}:∀(l:List AN) (k:Nat),HP a b l k=-1∨((k:Int)<HP a b l k/\HP a b l k<=k+l.length)
 | [],_=>.inl rfl
 | d::r,k=>by
  unfold HP;by_cases h:Nb a b d=true
  ·rw[fq h];right;simp only[gn];omega
  ·rw[fr h];rcases W5 r (k+1) with h1|h1
   ·exact .inl h1
   ·right;simp only[gn];omega
theorem Vg {a b:Int}{d:AN}:(if decide ((Sh.len d.cons)=0)=true then if decide (d.from_=a)=true then some (decide (d.to=b)) else some false else some false)=some (Nb a b d):=by
 unfold Nb;by_cases h1:d.cons.length=0<;>by_cases h2:d.from_=a<;>simp[AM,h1,h2]
theorem KW {D:List AN}(hD:D.length<=1048576){a b:Int}{N:Nat}(hN:2000000<=N):IH N D a b=some (HP a b D 0):=by
 unfold IH;have key:∀{M i:Nat},i<=D.length->D.length-i<M->Sh.cont (Ew D a b M i) id (λ()=>some (-1))=some (HP a b (D.drop i) i):=by
  intro M i hi hM;refine Bm D.length (λM i=>Sh.cont (Ew D a b M i) id (λ()=>some (-1))=some (HP a b (D.drop i) i)) ?_ ?_ hi hM
  ·intro n;rw[Ew,fr (by simp[AM])];simp[HP,Sh.cont]
  ·intro n i hi ih;obtain⟨d,hd,_⟩:=CE hi;rw[Ew,fq (by simp[AM];omega),BF hd,drop_cons hd];simp only[fZ];rw[Vg,BP (by omega) (by omega),show ((i:Int)+1)=((i+1:Nat):Int) by omega];simp only[fZ,HP];by_cases h:Nb a b d=true
   ·rw[fq h,fq h];simp[Sh.cont]
   ·rw[fr h,fr h,ih]
 have:=key (gK _) (by omega:D.length-0<N);simpa using this
theorem Rc {D:List AN}(hD:D.length<=1048576){a b:Int}{N:Nat}(hN:2000000<=N):JN N D a b=some (HP a b D 0):=by
 unfold JN;have key:∀{M i:Nat},i<=D.length->D.length-i<M->Sh.cont (Eu D a b M i) id (λ()=>some (-1))=some (HP a b (D.drop i) i):=by
  intro M i hi hM;refine Bm D.length (λM i=>Sh.cont (Eu D a b M i) id (λ()=>some (-1))=some (HP a b (D.drop i) i)) ?_ ?_ hi hM
  ·intro n;rw[Eu,fr (by simp[AM])];simp[HP,Sh.cont]
  ·intro n i hi ih;obtain⟨d,hd,_⟩:=CE hi;rw[Eu,fq (by simp[AM];omega),BF hd,drop_cons hd];simp only[fZ];rw[Vg,BP (by omega) (by omega),show ((i:Int)+1)=((i+1:Nat):Int) by omega];simp only[fZ,HP];by_cases h:Nb a b d=true
   ·rw[fq h,fq h];simp[Sh.cont]
   ·rw[fr h,fr h,ih]
 have:=key (gK _) (by omega:D.length-0<N);simpa using this
def MI (D:List AN)(t:Int):Option AN:=if 1<=t/\t<=(D.length:Int) then (D[(t-1).toNat]?).bind λd=>if d.cons.length=0 then some d else none else none
theorem NI {D:List AN}{t:Int}{d:AN}(h:MI D t=some d):d∈D/\1<=t/\t<=(D.length:Int)/\D[(t-1).toNat]?=some d:=by
 unfold MI at h;split at h
 ·rename_i h1;obtain⟨e,he,h2⟩:=gX.1 h;split at h2
  ·cases h2;exact⟨fc he,h1.1,h1.2,he⟩
  ·cases h2
 ·cases h
theorem Rz {D:List AN}(hD:D.length<=1048576){t:Int}:JM D t=some ((MI D t).elim (⟨0,0,[]⟩,false) λd=>(d,true)):=by
 unfold JM MI;by_cases h:1<=t/\t<=(D.length:Int)
 ·obtain⟨a,ha⟩ :∃a:Nat,t=(a:Int)+1:=⟨(t-1).toNat,by omega⟩
  subst ha;obtain⟨d,hd,_⟩:=CE (l:=D) (i:=a) (by omega);have e1:¬ ((a:Int)+1<1):=by omega
  have e2:¬ ((D.length:Int)<(a:Int)+1):=by omega
  rw[fq h,BP (by omega) (by omega),show ((a:Int)+1-1)=((a:Nat):Int) by omega,BF hd,ie,hd];by_cases h2:d.cons.length=0
  ·have uX:d.cons=[]:=gY h2;simp[e1,e2,AM,uX]
  ·have h3:0<d.cons.length:=by omega
   have uX:¬ d.cons=[]:=λq=>h2 (by rw[q];rfl);simp[e1,e2,AM,uX,h3]
 ·rw[fr h];by_cases h1:t<1
  ·simp[h1]
  ·have h2:(D.length:Int)<t:=by omega
   simp[h1,AM,h2]
theorem Hc {D:List AN}(hD:D.length<=1048576){t:Int}:Gj D t=some (MI D t).isSome:=by
 unfold Gj MI;rw[El];by_cases h:1<=t/\t<=(D.length:Int)
 ·obtain⟨a,ha⟩ :∃a:Nat,t=(a:Int)+1:=⟨(t-1).toNat,by omega⟩
  subst ha;obtain⟨d,hd,_⟩:=CE (l:=D) (i:=a) (by omega);have e1:((1:Int)<=(a:Int)+1):=by omega
  have e2:((a:Int)+1<=(D.length:Int)):=by omega
  rw[fq h,BP (by omega) (by omega),show ((a:Int)+1-1)=((a:Nat):Int) by omega,BF hd,ie,hd];by_cases h2:d.cons=[]<;>simp[e1,e2,AM,h2]
 ·rw[fr h];have:(decide (1<=t)&&decide (t<=Sh.len D))=false:=by
   rw[AM];by_cases h1:1<=t
   ·have h2:¬ t<=(D.length:Int):=λq=>h ⟨h1,q⟩;simp[h1,h2]
   ·simp[h1]
  simp[this]
section
variable {p : AP} {sg : BL} {R1 : AP -> List Int -> AG -> Option Int} {R2 : List Int -> BL -> AG -> Option Int} {T : List Int -> AG -> Int} {e : AG} {v : List Int} {N : Nat}
theorem FI (H:Jn p sg R1 R2 T (en e))(V:Hi p e v)(hN:2000000<=N)(h1:¬ e.op=12)(h2:¬ e.op=13)(h3:¬ e.op=7)(h4:¬ e.op=8):
  Ak N R2 v sg e=if (e.kids.map (T v)).any (λt=>decide (t<0))=true then some (-1) else (BE N sg e.op e.num (e.kids.map (T v))).bind λq=>if q.2=true then some q.1 else some (-1):=by
 unfold Ak;have hk:=V.Ks;simp only[h1,h2,h3,h4,gF,fh,gM];rw[AM,Ol _ _ _ (by omega) (by omega)];simp only[fZ];rw[Wm H V hN];by_cases h:(e.kids.map (T v)).any (λt=>decide (t<0))=true
 ·rw[fq h,fq h];rfl
 ·rw[fr h,fr h];simp only[Sh.Mp];cases BE N sg e.op e.num (e.kids.map (T v)) with
  | none=>rfl
  | some q=>simp only[fZ];cases q.2<;>rfl
theorem KP (H:Jn p sg R1 R2 T (en e))(V:Hi p e v)(hN:2000000<=N)(h1:¬ e.op=12)(h2:¬ e.op=13)(h3:¬ e.op=7)(h4:¬ e.op=8){want:List Int}{c:Bool}{t:Int}(hw :∀x∈want,0<=x)
  (hs:BE N sg e.op e.num (e.kids.map (T v))=some (t,c&&decide (e.kids.map (T v)=want))) :
  Ak N R2 v sg e=some (if c=true/\e.kids.map (T v)=want then t else -1):=by
 rw[FI H V hN h1 h2 h3 h4,hs];by_cases h:e.kids.map (T v)=want
 ·have:¬ (e.kids.map (T v)).any (λt=>decide (t<0))=true:=λq=>by
   obtain⟨x,hx,qx⟩:=jF.1 q;have:=hw x (h▸hx);simp only[fy]at qx;omega
  rw[fr this];cases c<;>simp[h]
 ·have hn:¬ (c=true/\e.kids.map (T v)=want):=λq=>h q.2;rw[fr hn];simp[h]
end
end RC
namespace RC
open Go
def Ee (p:AP):BL:=⟨p.decls,p.funcs.map λf=>⟨f.params,[],f.result⟩⟩
section
variable {p : AP} {R1 : AP -> List Int -> AG -> Option Int} {R2 : List Int -> BL -> AG -> Option Int} {T : List Int -> AG -> Int} {e : AG} {v : List Int} {N : Nat}
def KE (p:AP)(R1:AP->List Int->AG->Option Int)(R2:List Int->BL->AG->Option Int)(N:Nat)(v:List Int)(e:AG):Prop:=
 ∃t,Bg N R1 p v e=some t/\Ak N R2 v (Ee p) e=some t/\(t=-1∨Dj p.decls t=true)
theorem dY {D:List AN}:Dj D 0=true:=by unfold Dj;simp
theorem len_nil {α:Type}{l:List α}:decide ((Sh.len l)=0)=decide (l=[]):=by
 cases l with
 | nil=>rfl
 | cons x r=>exact jR.2 (by rw[AM,gn];exact⟨λh=>by omega,λh=>nomatch h⟩)
theorem Zc (H:Jn p (Ee p) R1 R2 T (en e))(V:Hi p e v)(hN:2000000<=N)(h:e.op=0):KE p R1 R2 N v e:=by
 have h1:=KP H V hN (by omega) (by omega) (by omega) (by omega) (want:=[]) (c:=decide (-999<=e.num)&&decide (e.num<=999)) (t:=0) (by simp) (by
  unfold BE;simp only[h,gH,gb,len_nil];by_cases a:-999<=e.num<;>by_cases b:e.num<=999<;>simp[a,b,Sh.cont])
 refine⟨_,?_,h1,?_⟩
 ·unfold Bg;simp only[h,gH,gb,len_nil,El];by_cases a:-999<=e.num<;>by_cases b:e.num<=999<;>by_cases c:e.kids=[]<;>simp[a,b,c,Sh.cont]
 ·split
  ·exact .inr dY
  ·exact .inl rfl
theorem XE (H:Jn p (Ee p) R1 R2 T (en e))(V:Hi p e v)(hN:2000000<=N)(h:e.op=1∨e.op=2∨e.op=3∨e.op=4):KE p R1 R2 N v e:=by
 have hk:=V.Ks;have h1:=KP H V hN (by omega) (by omega) (by omega) (by omega) (want:=[0,0]) (c:=decide (e.num=0)) (t:=0) (by simp) (by
  unfold BE;have e3:DH N (e.kids.map (T v)) [0,0]=some (decide (e.kids.map (T v)=[0,0])):=Mq (by simp;omega) hN;rcases h with h|h|h|h<;>simp only[h,Int.reduceEq,gH,gF,fh,gb,gM,fZ,Sh.Mp]<;>rw[e3]<;>by_cases a:e.num=0<;>simp[a])
 refine⟨_,?_,h1,?_⟩
 ·unfold Bg;have e2:=Sn H V hN 2;rw[show ((2:Nat):Int)=2 from rfl,show List.replicate 2 (0:Int)=[0,0] from rfl]at e2;rcases h with h|h|h|h<;>simp only[h,Int.reduceEq,gH,gF,fh,gb,gM,fZ]<;>rw[e2]<;>by_cases a:e.num=0<;>by_cases b:e.kids.map (T v)=[0,0]<;>simp[a,b,Sh.cont]
 ·split
  ·exact .inr dY
  ·exact .inl rfl
theorem W1 (H:Jn p (Ee p) R1 R2 T (en e))(V:Hi p e v)(hN:2000000<=N)(h:e.op=5):KE p R1 R2 N v e:=by
 have hk:=V.Ks;have h1:=KP H V hN (by omega) (by omega) (by omega) (by omega) (want:=[0]) (c:=decide (e.num=0)) (t:=0) (by simp) (by
  unfold BE;simp only[h,Int.reduceEq,gH,gF,fh,gb,gM,fZ,Sh.Mp];rw[Mq (by simp;omega) hN];by_cases a:e.num=0<;>simp[a])
 refine⟨_,?_,h1,?_⟩
 ·unfold Bg;have e2:=Sn H V hN 1;rw[show ((1:Nat):Int)=1 from rfl,show List.replicate 1 (0:Int)=[0] from rfl]at e2;simp only[h,Int.reduceEq,gH,gF,fh,gb,gM,fZ];rw[e2];by_cases a:e.num=0<;>by_cases b:e.kids.map (T v)=[0]<;>simp[a,b,Sh.cont]
 ·split
  ·exact .inr dY
  ·exact .inl rfl
theorem Zf (H:Jn p (Ee p) R1 R2 T (en e))(V:Hi p e v)(S:FE p.decls p.funcs)(hN:2000000<=N)(h:e.op=6):KE p R1 R2 N v e:=by
 have hk:=V.Ks;have hD:=S.MU;have hn:=S.nc;by_cases hr:0<=e.num/\e.num<(nc p.decls:Int)
 ·obtain⟨c,hc⟩:=gv hr.1;have yU:c<nc p.decls:=by omega
  obtain⟨t,x,e1,e2⟩:=NC (D:=p.decls) (by omega) (by omega) yU hN;obtain⟨t',x',sk,e3⟩:=Hz (D:=p.decls) (by omega) (by omega) yU hN;obtain⟨yV,x'',e1'',e4⟩:=Of (D:=p.decls) (by omega) (by omega) yU hN;rw[e1]at sk e1'';cases sk;cases e1'';obtain⟨g1,g2,d,g3,g4⟩:=PM e1;have hx:=S.Lj d g3 x g4;have h1:=KP H V hN (by omega) (by omega) (by omega) (by omega) (want:=x.fields) (c:=true) (t:=(t:Int)) (λy hy=>(Kc (hx.2 y hy)).1) (by
   unfold BE;simp only[h,Int.reduceEq,gH,gF,fh,gb,gM,fZ];rw[hc,show (Ee p).decls=p.decls from rfl,e4];simp only[fZ];rw[Mq (by simp;omega) hN,fq (by simp)];simp[Sh.cont])
  refine⟨_,?_,h1,?_⟩
  ·unfold Bg;simp only[h,Int.reduceEq,gH,gF,fh,gb,gM,fZ];rw[hc,e2,e3];simp only[fZ];rw[Mw H V hN,fq (by simp;omega)];by_cases b:e.kids.map (T v)=x.fields<;>simp[b,Sh.cont]
  ·split
   ·right;unfold Dj;simp;omega
   ·exact .inl rfl
 ·refine⟨-1,?_,?_,.inl rfl⟩
  ·unfold Bg;simp only[h,Int.reduceEq,gH,gF,fh,gb,gM,fZ];rw[Qf (by omega) (by omega) (by omega) hN];simp[Sh.cont]
  ·rw[FI H V hN (by omega) (by omega) (by omega) (by omega)];unfold BE;simp only[h,Int.reduceEq,gH,gF,fh,gb,gM,fZ];rw[show (Ee p).decls=p.decls from rfl,S8 (by omega) (by omega) V.Ck.num (by omega) hN];simp[Sh.cont]
theorem XQ (H:Jn p (Ee p) R1 R2 T (en e))(V:Hi p e v)(hN:2000000<=N)(h:e.op<0∨13<e.op):KE p R1 R2 N v e:=by
 refine⟨-1,?_,?_,.inl rfl⟩
 ·unfold Bg;simp only[show ¬ e.op=0 by omega,show ¬ e.op=12 by omega,show ¬ e.op=1 by omega,show ¬ e.op=2 by omega,show ¬ e.op=3 by omega,show ¬ e.op=4 by omega,show ¬ e.op=5 by omega,show ¬ e.op=6 by omega,show ¬ e.op=13 by omega,show ¬ e.op=7 by omega,show ¬ e.op=8 by omega,show ¬ e.op=9 by omega,show ¬ e.op=10 by omega,show ¬ e.op=11 by omega,gF,fh,gM,fZ];simp[Sh.cont]
 ·rw[FI H V hN (by omega) (by omega) (by omega) (by omega)];unfold BE;simp only[show ¬ e.op=0 by omega,show ¬ e.op=12 by omega,show ¬ e.op=1 by omega,show ¬ e.op=2 by omega,show ¬ e.op=3 by omega,show ¬ e.op=4 by omega,show ¬ e.op=5 by omega,show ¬ e.op=6 by omega,show ¬ e.op=13 by omega,show ¬ e.op=7 by omega,show ¬ e.op=8 by omega,show ¬ e.op=9 by omega,show ¬ e.op=10 by omega,show ¬ e.op=11 by omega,gF,fh,gM,fZ];simp[Sh.cont]
theorem Zk (V:Hi p e v)(h:e.op=12):KE p R1 R2 N v e:=by
 have hv:v.length<=1000:=by have:=V.len;omega
 unfold KE Bg Ak;simp only[h,Int.reduceEq,gH,gF,fh,gb,gM,fZ,len_nil,El];rw[AM,BP (by omega) (by omega)];cases nZ:e.kids with
 | cons a r=>exact⟨-1,by simp[Sh.cont],by simp[AM],.inl rfl⟩
 | nil=>
  by_cases h1:0<=e.num
  ·by_cases h2:e.num<(v.length:Int)
   ·obtain⟨x,g1,g2⟩:=Om h1 h2;have h3:e.num<=(v.length:Int)-1:=by omega
    have h4:¬ e.num<0:=by omega
    have h5:¬ (v.length:Int)<=e.num:=by omega
    refine⟨x,?_,?_,.inr (V.I5 x (fc g2))⟩
    ·simp[h1,h3,g1,Sh.cont]
    ·simp[h4,h5,g1,AM]
   ·have h3:¬ e.num<=(v.length:Int)-1:=by omega
    have h4:¬ e.num<0:=by omega
    have h5:(v.length:Int)<=e.num:=by omega
    exact⟨-1,by simp[h1,h3,Sh.cont],by simp[h4,h5,AM],.inl rfl⟩
  ·have h4:e.num<0:=by omega
   exact⟨-1,by simp[h1,Sh.cont],by simp[h4,AM],.inl rfl⟩
end
end RC
namespace RC
open Go
section
variable {p : AP} {R1 : AP -> List Int -> AG -> Option Int} {R2 : List Int -> BL -> AG -> Option Int} {T : List Int -> AG -> Int} {e : AG} {v : List Int} {N : Nat}
theorem Z2 (H:Jn p (Ee p) R1 R2 T (en e))(V:Hi p e v)(h:e.op=13):KE p R1 R2 N v e:=by
 have hv:v.length<=1000:=by have:=V.len;omega
 unfold KE Bg Ak;simp only[h,Int.reduceEq,gH,gF,fh,gb,gM,fZ];by_cases hl:e.kids.length=2
 ·obtain⟨a,b,hk⟩ :∃a b,e.kids=[a,b]:=by
   match hk:e.kids,hl with
   | [a,b],_=>exact⟨a,b,rfl⟩
  have mM:a∈e.kids:=by rw[hk];simp
  have ny:b∈e.kids:=by rw[hk];simp
  obtain⟨a1,a2,a3⟩:=H v a (V.Ck.kids a mM) (DY mM) (V.Jo mM) V.I5;have g0:Sh.get e.kids 0=some a:=by rw[hk];rfl
  have g1:Sh.get e.kids 1=some b:=by rw[hk];rfl
  rw[g0,g1];simp only[fZ,AM,hl];rw[a1,a2];simp only[fZ];by_cases hn:e.num=0
  ·by_cases ht:0<=T v a
   ·have rF:¬ T v a<0:=by omega
    have qS:Dj p.decls (T v a)=true:=by
     rcases a3 with q|q
     ·omega
     ·exact q
    obtain⟨b1,b2,b3⟩:=H (v++[T v a]) b (V.Ck.kids b ny) (DY ny) (V.more ny (by simp)) (V.UT (by simp[qS]));refine⟨T (v++[T v a]) b,?_,?_,b3⟩
    ·rw[Iu hv (by simp)];simp[hn,ht,b1,Sh.cont]
    ·rw[EC v [T v a] 8 (by simp;omega) (by simp;omega)];simp[hn,rF,b2]
   ·have rF:T v a<0:=by omega
    exact⟨-1,by simp[hn,ht,Sh.cont],by simp[hn,rF],.inl rfl⟩
  ·exact⟨-1,by simp[hn,Sh.cont],by simp[hn],.inl rfl⟩
 ·have oa:¬ ((e.kids.length:Int)=2):=by omega
  refine⟨-1,?_,?_,.inl rfl⟩
  ·by_cases hn:e.num=0<;>simp[hn,AM,oa,Sh.cont]
  ·simp[AM,oa]
theorem Rr (x y:Int):Kh [x,y]=if y=x then x else -1:=by
 unfold Kh;by_cases h:y=x<;>simp[h]
theorem aZ (H:Jn p (Ee p) R1 R2 T (en e))(V:Hi p e v)(hN:2000000<=N)(h:e.op=7):KE p R1 R2 N v e:=by
 have hv:v.length<=1000:=by have:=V.len;omega
 unfold KE Bg Ak;simp only[h,Int.reduceEq,gH,gF,fh,gb,gM,fZ];by_cases hl:e.kids.length=3
 ·obtain⟨a,b,c,hk⟩ :∃a b c,e.kids=[a,b,c]:=by
   match hk:e.kids,hl with
   | [a,b,c],_=>exact⟨a,b,c,rfl⟩
  have mM:a∈e.kids:=by rw[hk];simp
  have ny:b∈e.kids:=by rw[hk];simp
  have vm:c∈e.kids:=by rw[hk];simp
  obtain⟨a1,a2,a3⟩:=H v a (V.Ck.kids a mM) (DY mM) (V.Jo mM) V.I5;obtain⟨b1,b2,b3⟩:=H v b (V.Ck.kids b ny) (DY ny) (V.Jo ny) V.I5;obtain⟨c1,c2,c3⟩:=H v c (V.Ck.kids c vm) (DY vm) (V.Jo vm) V.I5;have g0:Sh.get e.kids 0=some a:=by rw[hk];rfl
  have g1:Sh.get e.kids 1=some b:=by rw[hk];rfl
  have g2:Sh.get e.kids 2=some c:=by rw[hk];rfl
  have g3:Sh.sl e.kids 1 3=some [b,c]:=by rw[hk];rfl
  have o:=Ji (ks:=[b,c]) (ms:=[[],[]]) H V hN (by intro k hk;simp only[fu,gT,iB]at hk;rcases hk with rfl|rfl<;>assumption) (by simp) rfl (by simp);have vn:Sh.mk ([]:List Int) 2 24=some [[],[]]:=Ol [] 2 24 (by omega) (by omega);rw[g0,g1,g2];simp only[fZ,AM,hl];rw[a1,a2,b1,c1,show ((3:Nat):Int)=3 from rfl,g3,vn];simp only[fZ];rw[o];simp only[fZ,List.zipWith,iK,Rr];by_cases hn:e.num=0
  ·by_cases ht:T v a=0
   ·by_cases hq:T v c=T v b
    ·exact⟨T v b,by simp[hn,ht,hq,Sh.cont],by simp[hn,ht,hq],b3⟩
    ·exact⟨-1,by simp[hn,ht,hq,Sh.cont],by simp[hn,ht,hq],.inl rfl⟩
   ·exact⟨-1,by simp[hn,ht,Sh.cont],by simp[hn,ht],.inl rfl⟩
  ·exact⟨-1,by simp[hn,Sh.cont],by simp[hn],.inl rfl⟩
 ·have oa:¬ ((e.kids.length:Int)=3):=by omega
  refine⟨-1,?_,?_,.inl rfl⟩
  ·by_cases hn:e.num=0<;>simp[hn,AM,oa,Sh.cont]
  ·simp[AM,oa]
theorem WC {n:Int}:(∃f,0<=n/\n<(p.funcs.length:Int)/\p.funcs[n.toNat]?=some f/\f∈p.funcs/\Sh.get p.funcs n=some f/\Sh.get (Ee p).funcs n=some ⟨f.params,[],f.result⟩)∨(n<0∨(p.funcs.length:Int)<=n):=by
 by_cases h:0<=n/\n<(p.funcs.length:Int)
 ·obtain⟨f,h1,h2⟩:=Om h.1 h.2;refine .inl ⟨f,h.1,h.2,h2,fc h2,h1,?_⟩;rw[SE h.1];show ((p.funcs.map λf=>(⟨f.params,[],f.result⟩:Bo)))[n.toNat]?=_;rw[fg,h2];rfl
 ·exact .inr (by omega)
theorem ML:(Ee p).funcs.length=p.funcs.length:=by show (p.funcs.map _).length=_;simp
theorem X6 (H:Jn p (Ee p) R1 R2 T (en e))(V:Hi p e v)(S:FE p.decls p.funcs)(hN:2000000<=N)(h:e.op=9):KE p R1 R2 N v e:=by
 have hk:=V.Ks;have hF:=S.Ih;rcases WC (p:=p) (n:=e.num) with ⟨f,f0,f1,f2,f3,f4,f5⟩|hr
 ·obtain⟨q1,q2,q3⟩:=S.OE f f3;have wS:¬ e.num<0:=by omega
  have wT:¬ (p.funcs.length:Int)<=e.num:=by omega
  have pY:e.num<=(p.funcs.length:Int)-1:=by omega
  have h1:=KP H V hN (by omega) (by omega) (by omega) (by omega) (want:=f.params) (c:=true) (t:=f.result) (λy hy=>(Kc (q2 y hy)).1) (by
   unfold BE;simp only[h,Int.reduceEq,gH,gF,fh,gb,gM,fZ,AM,ML,wS,wT];rw[f5];simp only[fZ];rw[Mq (by simp;omega) hN];simp[Sh.cont])
  refine⟨_,?_,h1,?_⟩
  ·unfold Bg FD;simp only[h,Int.reduceEq,gH,gF,fh,gb,gM,fZ];rw[El,AM p.funcs,BP (n:=(p.funcs.length:Int)-1) (by omega) (by omega),f4];simp only[h,Int.reduceEq,gH,gF,fh,gb,gM,fZ,f0,pY,jW,iA];rw[Mw H V hN];by_cases b:e.kids.map (T v)=f.params<;>simp[b,Sh.cont]
  ·split
   ·exact .inr q3
   ·exact .inl rfl
 ·refine⟨-1,?_,?_,.inl rfl⟩
  ·unfold Bg FD;simp only[h,Int.reduceEq,gH,gF,fh,gb,gM,fZ];rw[El,AM p.funcs,BP (n:=(p.funcs.length:Int)-1) (by omega) (by omega)];have:(decide (0<=e.num)&&decide (e.num<=(p.funcs.length:Int)-1))=false:=by
    rw[jm,iZ,iZ];omega
   rw[this];simp only[h,Int.reduceEq,gH,gF,fh,gb,gM,fZ];simp[Sh.cont]
  ·rw[FI H V hN (by omega) (by omega) (by omega) (by omega)];unfold BE;simp only[h,Int.reduceEq,gH,gF,fh,gb,gM,fZ,AM,ML];rcases hr with hr|hr
   ·simp[hr,Sh.cont]
   ·have:¬ e.num<0:=by omega
    simp[hr,this,Sh.cont]
theorem Tx {α:Type}{l:List α}{m:Nat}(h:m<=l.length):Sh.sl l 0 (m:Int)=some (l.take m):=by
 unfold Sh.sl;rw[fq ⟨by omega,by omega,by omega⟩];simp
theorem Xh (H:Jn p (Ee p) R1 R2 T (en e))(V:Hi p e v)(S:FE p.decls p.funcs)(hN:2000000<=N)(h:e.op=10):KE p R1 R2 N v e:=by
 have hk:=V.Ks;have hF:=S.Ih;have hD:=S.MU;rcases WC (p:=p) (n:=e.num) with ⟨f,f0,f1,f2,f3,f4,f5⟩|hr
 ·obtain⟨q1,q2,q3⟩:=S.OE f f3;have wS:¬ e.num<0:=by omega
  have wT:¬ (p.funcs.length:Int)<=e.num:=by omega
  have pY:e.num<=(p.funcs.length:Int)-1:=by omega
  by_cases hp:f.params.length=0
  ·have pa:f.params=[]:=gY hp;refine⟨-1,?_,?_,.inl rfl⟩
   ·unfold Bg FD;simp only[h,Int.reduceEq,gH,gF,fh,gb,gM,fZ];rw[El,AM p.funcs,BP (n:=(p.funcs.length:Int)-1) (by omega) (by omega),f4];simp only[h,Int.reduceEq,gH,gF,fh,gb,gM,fZ,f0,pY,jW,iA,len_nil,pa];simp[Sh.cont]
   ·rw[FI H V hN (by omega) (by omega) (by omega) (by omega)];unfold BE;simp only[h,Int.reduceEq,gH,gF,fh,gb,gM,fZ,AM,ML,wS,wT];rw[f5];simp only[fZ,hp];rw[BP (by omega) (by omega)];simp[Sh.cont]
  ·obtain⟨m,hm⟩ :∃m,f.params.length=m+1:=⟨f.params.length-1,by omega⟩
   obtain⟨x,hx,pK⟩:=CE (l:=f.params) (i:=m) (by omega);have pa:¬ f.params=[]:=λq=>hp (by rw[q];rfl);have hw:Sh.w ((f.params.length:Int)-1)=(m:Int):=by rw[BP (by omega) (by omega)];omega
   have se:¬ ((m:Int)<0):=by omega
   have qS:HP x f.result p.decls 0=-1∨Dj p.decls (HP x f.result p.decls 0)=true:=by
    rcases W5 (a:=x) (b:=f.result) p.decls 0 with q|q
    ·exact .inl q
    ·right;unfold Dj;simp;omega
   have h1:=KP H V hN (by omega) (by omega) (by omega) (by omega) (want:=f.params.take m) (c:=decide (0<=HP x f.result p.decls 0)) (t:=HP x f.result p.decls 0) (λy hy=>(Kc (q2 y (hX hy))).1) (by
    unfold BE;simp only[h,Int.reduceEq,gH,gF,fh,gb,gM,fZ,AM,ML,wS,wT];rw[f5];simp only[fZ,hw,se,gF,fh,gM];rw[BF hx];simp only[fZ];rw[show (Ee p).decls=p.decls from rfl,Rc (by omega) hN,Tx (by omega)];simp only[fZ];rw[Mq (by simp;omega) hN];by_cases z:0<=HP x f.result p.decls 0<;>simp[z,Sh.cont])
   refine⟨_,?_,h1,?_⟩
   ·unfold Bg FD;simp only[h,Int.reduceEq,gH,gF,fh,gb,gM,fZ];rw[El,AM p.funcs,BP (n:=(p.funcs.length:Int)-1) (by omega) (by omega),f4];simp only[h,Int.reduceEq,gH,gF,fh,gb,gM,fZ,f0,pY,jW,iA,len_nil,pa];rw[AM,hw,Tx (by omega),BF hx];simp only[fZ];rw[Mw H V hN,KW (by omega) hN];by_cases b:e.kids.map (T v)=f.params.take m
    ·by_cases z:0<=HP x f.result p.decls 0
     ·simp[b,z,Sh.cont]
     ·have:HP x f.result p.decls 0=-1:=by
       rcases qS with q|q
       ·exact q
       ·exact absurd (Kc q).1 z
      simp[b,this,Sh.cont]
    ·simp[b,Sh.cont]
   ·split
    ·exact qS
    ·exact .inl rfl
 ·refine⟨-1,?_,?_,.inl rfl⟩
  ·unfold Bg FD;simp only[h,Int.reduceEq,gH,gF,fh,gb,gM,fZ];rw[El,AM p.funcs,BP (n:=(p.funcs.length:Int)-1) (by omega) (by omega)];have:(decide (0<=e.num)&&decide (e.num<=(p.funcs.length:Int)-1))=false:=by
    rw[jm,iZ,iZ];omega
   rw[this];simp only[h,Int.reduceEq,gH,gF,fh,gb,gM,fZ];simp[Sh.cont]
  ·rw[FI H V hN (by omega) (by omega) (by omega) (by omega)];unfold BE;simp only[h,Int.reduceEq,gH,gF,fh,gb,gM,fZ,AM,ML];rcases hr with hr|hr
   ·simp[hr,Sh.cont]
   ·have:¬ e.num<0:=by omega
    simp[hr,this,Sh.cont]
theorem W8 (H:Jn p (Ee p) R1 R2 T (en e))(V:Hi p e v)(S:FE p.decls p.funcs)(hN:2000000<=N)(h:e.op=11):KE p R1 R2 N v e:=by
 have hk:=V.Ks;have hD:=S.MU;by_cases hl:e.kids.length=2
 ·obtain⟨a,b,hk⟩ :∃a b,e.kids=[a,b]:=by
   match hk:e.kids,hl with
   | [a,b],_=>exact⟨a,b,rfl⟩
  have mM:a∈e.kids:=by rw[hk];simp
  have ny:b∈e.kids:=by rw[hk];simp
  obtain⟨a1,a2,a3⟩:=H v a (V.Ck.kids a mM) (DY mM) (V.Jo mM) V.I5;obtain⟨b1,b2,b3⟩:=H v b (V.Ck.kids b ny) (DY ny) (V.Jo ny) V.I5;have g0:Sh.get e.kids 0=some a:=by rw[hk];rfl
  have g1:Sh.get e.kids 1=some b:=by rw[hk];rfl
  have i1:Sh.get (e.kids.map (T v)) 0=some (T v a):=by rw[hk];rfl
  have i2:Sh.get (e.kids.map (T v)) 1=some (T v b):=by rw[hk];rfl
  have imp:Ak N R2 v (Ee p) e=some ((MI p.decls (T v a)).elim (-1) λd=>if T v b=d.from_/\e.num=0 then d.to else -1):=by
   rw[FI H V hN (by omega) (by omega) (by omega) (by omega)];unfold BE;simp only[h,Int.reduceEq,gH,gF,fh,gb,gM,fZ,AM,gI,hl];rw[i1,i2];simp only[fZ];rw[show (Ee p).decls=p.decls from rfl,Rz (by omega)];simp only[fZ];cases hA:MI p.decls (T v a) with
   | none=>simp[Sh.cont]
   | some d=>
    obtain⟨m1,m2,m3,m4⟩:=NI hA;have m5:=S.aQ d m1;have n1:¬ T v a<0:=by omega
    by_cases c1:T v b=d.from_
    ·have n2:¬ T v b<0:=by rw[c1];have:=(Kc m5.1).1;omega
     have n3:¬ d.from_<0:=c1▸n2;by_cases c2:e.num=0<;>simp[hk,n1,c1,n3,c2,Sh.cont]
    ·simp[c1,Sh.cont]
  refine⟨_,?_,imp,?_⟩
  ·unfold Bg;simp only[h,Int.reduceEq,gH,gF,fh,gb,gM,fZ,AM,hl];rw[g0,g1];simp only[fZ];rw[a1];simp only[fZ];rw[Hc (by omega),b1];simp only[fZ];cases hA:MI p.decls (T v a) with
   | none=>by_cases c2:e.num=0<;>simp[c2,Sh.cont]
   | some d=>
    obtain⟨m1,m2,m3,m4⟩:=NI hA;have g5:Sh.get p.decls (Sh.w (T v a-1))=some d:=by rw[BP (by omega) (by omega),SE (by omega),m4]
    rw[g5];by_cases c2:e.num=0<;>by_cases c1:T v b=d.from_<;>simp[c1,c2,Sh.cont]
  ·cases hA:MI p.decls (T v a) with
   | none=>exact .inl rfl
   | some d=>
    obtain⟨m1,_⟩:=NI hA;simp only[jI];split
    ·exact .inr (S.aQ d m1).2
    ·exact .inl rfl
 ·have oa:¬ ((e.kids.length:Int)=2):=by omega
  refine⟨-1,?_,?_,.inl rfl⟩
  ·unfold Bg;simp only[h,Int.reduceEq,gH,gF,fh,gb,gM,fZ,AM,oa];by_cases c2:e.num=0<;>simp[c2,Sh.cont]
  ·rw[FI H V hN (by omega) (by omega) (by omega) (by omega)];unfold BE;simp only[h,Int.reduceEq,gH,gF,fh,gb,gM,fZ,AM,gI,oa];simp[Sh.cont]
end
end RC
namespace RC
open Go
def Fu (D:List AN)(c:Int):List Int:=(HO D 0 c.toNat).elim [] λx=>x.2.fields
theorem YW {D:List AN}{t c:Int}(h:c∈CN D t):∃k:Nat,c=(k:Int)/\k<nc D:=by
 unfold CN at h;split at h
 ·rename_i h1;obtain⟨a,ha⟩ :∃a:Nat,t=(a:Int)+1:=⟨(t-1).toNat,by omega⟩
  subst ha;obtain⟨d,hd,_⟩:=CE (l:=D) (i:=a) (by omega);rw[show (((a:Int)+1)-1).toNat=a by omega,hd]at h;simp only[jI,gC,ig]at h;obtain⟨i,hi,rfl⟩:=h;have hs:=Gz D a;rw[RU hd]at hs;exact⟨nc (D.take a)+i,by omega,by omega⟩
 ·cases h
theorem Lc {D:List AN}(h :∀d∈D,d.cons.length<=3)(t:Int):(CN D t).length<=3:=by
 unfold CN;split
 ·rename_i h1;obtain⟨a,ha⟩ :∃a:Nat,t=(a:Int)+1:=⟨(t-1).toNat,by omega⟩
  subst ha;obtain⟨d,hd,hm⟩:=CE (l:=D) (i:=a) (by omega);rw[show (((a:Int)+1)-1).toNat=a by omega,hd];simp only[jI,gI,List.length_range];exact h d hm
 ·simp
theorem PO {D:List AN}{F:List Ad}(S:FE D F){t c:Int}(h:c∈CN D t){N:Nat}(hN:2000000<=N):Bs N D c=some (Fu D c)/\Ds N D c=some (Fu D c)/\(Fu D c).length<=3/\∀x∈Fu D c,Dj D x=true:=by
 obtain⟨k,rfl,hk⟩:=YW h;have hD:=S.MU;have hn:=S.nc;obtain⟨t,x,e1,e2⟩:=Hz (D:=D) (by omega) (by omega) hk hN;obtain⟨t',x',sk,e3⟩:=RS (D:=D) (by omega) (by omega) hk hN;rw[e1]at sk;cases sk;obtain⟨_,_,d,g3,g4⟩:=PM e1;have hf:Fu D (k:Int)=x.fields:=by unfold Fu;rw[ie,e1];rfl
 rw[hf];exact⟨e2,e3,S.Lj d g3 x g4⟩
section
variable {p : AP} {R1 : AP -> List Int -> AG -> Option Int} {R2 : List Int -> BL -> AG -> Option Int} {T : List Int -> AG -> Int} {e : AG} {v : List Int} {N : Nat}
theorem Nw (S:FE p.decls p.funcs)(hN:2000000<=N){C:List Int}(hC:C.length<=3)(hc :∀c∈C,Ds N p.decls c=some (Fu p.decls c)):CA N (Ee p) C N 0 (List.replicate C.length [])=some (C.map (Fu p.decls)):=by
 have key:∀{M i:Nat},i<=C.length->C.length-i<M->∀m:List (List Int),m.length=C.length->m.take i=(C.map (Fu p.decls)).take i->CA N (Ee p) C M i m=some (C.map (Fu p.decls)):=by
  intro M i hi hM;refine Bm C.length (λM i=>∀m:List (List Int),m.length=C.length->m.take i=(C.map (Fu p.decls)).take i->CA N (Ee p) C M i m=some (C.map (Fu p.decls))) ?_ ?_ hi hM
  ·intro n m a b;rw[CA,fr (by simp[AM])];rw[gx (by omega),gx (by simp)]at b;rw[b]
  ·intro n i hi ih m a b;obtain⟨x,hx,pK⟩:=CE hi;obtain⟨y,hy,_⟩:=CE (l:=m) (i:=i) (by omega);have qx:(C.map (Fu p.decls))[i]?=some (Fu p.decls x):=by rw[fg,hx];rfl
   have ni:(m.set i (Fu p.decls x))[i]?=some (Fu p.decls x):=by rw[fv (by omega)]
   rw[CA,fq (by simp[AM];omega),BF hx];simp only[fZ];rw[show (Ee p).decls=p.decls from rfl,hc x pK,BF hy];simp only[fZ];rw[Oe,BP (by omega) (by omega),show ((i:Int)+1)=((i+1:Nat):Int) by omega];exact ih _ (by simp[a]) (by rw[EP ni,EP qx,<- b,jw (gA _)])
 have:=key (gK _) (by omega:C.length-0<N) (List.replicate C.length []) (by simp) rfl;simpa using this
theorem XM (H:Jn p (Ee p) R1 R2 T (en e))(V:Hi p e v)(S:FE p.decls p.funcs)(hN:2000000<=N)(h:e.op=8):KE p R1 R2 N v e:=by
 have hk:=V.Ks;have hD:=S.MU;have hn:=S.nc;have hv:v.length<=1000:=by have:=V.len;omega
 have rj:=Lc S.Sj e.num;unfold KE Bg Ak JV;simp only[h,Int.reduceEq,gH,gF,fh,gb,gM,fZ];rw[show (Ee p).decls=p.decls from rfl,OD (by omega) (by omega) hN,H7 (by omega) (by omega) hN];simp only[fZ];generalize sI:CN p.decls e.num=C at rj;have rS:∀c∈C,Bs N p.decls c=some (Fu p.decls c)/\Ds N p.decls c=some (Fu p.decls c)/\(Fu p.decls c).length<=3/\∀x∈Fu p.decls c,Dj p.decls x=true:=λc hc=>PO S (sI▸hc) hN;rw[AM C,AM e.kids,BP (n:=1+(C.length:Int)) (by omega) (by omega)];by_cases h0:C.length=0
 ·exact⟨-1,by simp[h0,Sh.cont],by simp[h0],.inl rfl⟩
 ·have pN:¬ ((C.length:Int)=0):=by omega
  have lv:¬ C=[]:=λq=>h0 (by rw[q];rfl);by_cases h1:e.kids.length=1+C.length
  ·have nY:((e.kids.length:Int)=1+(C.length:Int)):=by omega
   obtain⟨a,r,nZ⟩ :∃a r,e.kids=a::r:=by
    cases hq:e.kids with
    | nil=>rw[hq]at h1;simp at h1;omega
    | cons a r=>exact⟨a,r,rfl⟩
   have pJ:r.length=C.length:=by rw[nZ]at h1;simp at h1;omega
   have mM:a∈e.kids:=by rw[nZ];simp
   have sb:∀k∈r,k∈e.kids:=λk hk=>by rw[nZ];simp[hk]
   obtain⟨a1,a2,a3⟩:=H v a (V.Ck.kids a mM) (DY mM) (V.Jo mM) V.I5;have g0:Sh.get e.kids 0=some a:=by rw[nZ];rfl
   have gi:∀(i:Nat) k,r[i]?=some k->Sh.get e.kids ((1+i:Nat):Int)=some k:=λi k hk=>by
    rw[OV,nZ,Nat.add_comm];simpa using hk
   have g3:Sh.sl e.kids 1 (e.kids.length:Int)=some r:=by
    unfold Sh.sl;rw[fq ⟨by omega,by omega,by omega⟩,nZ];simp
   have vo:Sh.mk ([]:List Int) (C.length:Int) 24=some (List.replicate C.length []):=Ol [] C.length 24 (by omega) (by omega);have o:=Ji (ks:=r) (ms:=C.map (Fu p.decls)) H V hN sb (by omega) (by simp[pJ]) (by
    intro m hm;obtain⟨c,hc,rfl⟩:=gC.1 hm;exact (rS c hc).2.2)
   have F:=Nw (p:=p) S hN rj λc hc=>(rS c hc).2.1;generalize za:List.zipWith (λm k=>T (v++m) k) (C.map (Fu p.decls)) r=ts at o;have tsl:ts.length=C.length:=by rw[<- za];simp[pJ]
   have zb:∀(i:Nat),i<C.length->∃c k,C[i]?=some c/\r[i]?=some k/\ts[i]?=some (T (v++Fu p.decls c) k)/\Bs N p.decls c=some (Fu p.decls c)/\ES v (Fu p.decls c)=some (v++Fu p.decls c)/\R1 p (v++Fu p.decls c) k=some (T (v++Fu p.decls c) k)/\(T (v++Fu p.decls c) k=-1∨Dj p.decls (T (v++Fu p.decls c) k)=true):=λi hi=>by
    obtain⟨c,hc,mq⟩:=CE (l:=C) (i:=i) hi;obtain⟨k,vp,oP⟩:=CE (l:=r) (i:=i) (by omega);obtain⟨q1,q2,q3,q4⟩:=rS c mq;obtain⟨z1,z2,z3⟩:=H (v++Fu p.decls c) k (V.Ck.kids k (sb k oP)) (DY (sb k oP)) (V.more (sb k oP) q3) (V.UT q4);refine⟨c,k,hc,vp,?_,q1,Iu hv (by omega),z1,z3⟩;rw[<- za,iV,fg,hc,vp];rfl
   have L:∀(t:Int) {M i:Nat},i<=C.length->C.length-i<M->D7 N p v e t C R1 M i=some (if (ts.drop i).all (λx=>decide (x=t))=true then .inr () else .inl (-1)):=by
    intro t M i hi hM;refine Bm C.length (λM i=>D7 N p v e t C R1 M i=some (if (ts.drop i).all (λx=>decide (x=t))=true then .inr () else .inl (-1))) ?_ ?_ hi hM
    ·intro n;rw[D7,fr (by simp[AM]),ji (by omega)];rfl
    ·intro n i hi ih;obtain⟨c,k,q1,q2,q3,q4,q5,q6,q7⟩:=zb i hi;rw[D7,fq (by simp[AM];omega),BF q1];simp only[fZ];rw[q4];simp only[fZ];rw[q5,BP (n:=(1:Int)+(i:Int)) (by omega) (by omega),show ((1:Int)+(i:Int))=((1+i:Nat):Int) by omega,gi i k q2];simp only[fZ];rw[q6,BP (by omega) (by omega),show ((i:Int)+1)=((i+1:Nat):Int) by omega,drop_cons q3,jX];simp only[fZ];by_cases z:T (v++Fu p.decls c) k=t
     ·simp only[z,gH,iA,fh,gM,Bool.true_and];exact ih
     ·simp[z]
   rw[g0,g3,vo];simp only[fZ];rw[a1,a2];simp only[fZ];rw[F];simp only[fZ];rw[o];obtain⟨c,k,q1,q2,q3,q4,q5,q6,q7⟩:=zb 0 (by omega);have g1:=gi 0 k q2;have c0:Sh.get C 0=some c:=by rw[show (0:Int)=((0:Nat):Int) from rfl,BF q1]
   rw[show ((1+0:Nat):Int)=1 from rfl]at g1;rw[c0];simp only[fZ];rw[q4];simp only[fZ];rw[q5,g1];simp only[fZ];rw[q6];simp only[fZ];have L1:=L (T (v++Fu p.decls c) k) (M:=N) (i:=1) (by omega) (by omega);rw[show ((1:Nat):Int)=1 from rfl]at L1;rw[L1];have vq:ts=T (v++Fu p.decls c) k::ts.drop 1:=by
    have:=drop_cons q3;simpa using this
   by_cases z:T v a=e.num
   ·by_cases y:(ts.drop 1).all (λx=>decide (x=T (v++Fu p.decls c) k))=true
    ·have ho:Kh ts=T (v++Fu p.decls c) k:=by rw[vq];unfold Kh;dsimp only;rw[if_pos y]
     refine⟨T (v++Fu p.decls c) k,?_,?_,q7⟩
     ·rw[fq y];simp[pN,lv,nY,z,Sh.cont]
     ·rw[ho];simp[pN,lv,nY,z]
    ·have ho:Kh ts=-1:=by rw[vq];unfold Kh;dsimp only;rw[if_neg y]
     refine⟨-1,?_,?_,.inl rfl⟩
     ·rw[fr y];simp[pN,lv,nY,z,Sh.cont]
     ·rw[ho];simp[pN,lv,nY,z]
   ·exact⟨-1,by simp[pN,lv,nY,z,Sh.cont],by simp[pN,lv,nY,z],.inl rfl⟩
  ·have nY:¬ ((e.kids.length:Int)=1+(C.length:Int)):=by omega
   exact⟨-1,by simp[pN,lv,nY,Sh.cont],by simp[pN,lv,nY],.inl rfl⟩
theorem X2 (H:Jn p (Ee p) R1 R2 T (en e))(V:Hi p e v)(S:FE p.decls p.funcs)(hN:2000000<=N):KE p R1 R2 N v e:=by
 by_cases h0:e.op=0
 ·exact Zc H V hN h0
 by_cases h1:e.op=1∨e.op=2∨e.op=3∨e.op=4
 ·exact XE H V hN h1
 by_cases h5:e.op=5
 ·exact W1 H V hN h5
 by_cases h6:e.op=6
 ·exact Zf H V S hN h6
 by_cases h7:e.op=7
 ·exact aZ H V hN h7
 by_cases h8:e.op=8
 ·exact XM H V S hN h8
 by_cases h9:e.op=9
 ·exact X6 H V S hN h9
 by_cases h10:e.op=10
 ·exact Xh H V S hN h10
 by_cases h11:e.op=11
 ·exact W8 H V S hN h11
 by_cases qT:e.op=12
 ·exact Zk V qT
 by_cases h13:e.op=13
 ·exact Z2 H V h13
 exact XQ H V hN (by omega)
end
theorem PU {p:AP}(S:FE p.decls p.funcs){N:Nat}(hN:2000000<=N):∀(n:Nat),∃T:List Int->AG->Int,∀(v:List Int) (e:AG),Aq e->en e<n->v.length+3*en e<=1000->(∀x∈v,Dj p.decls x=true)->
  ∀n1 n2,n<=n1->n<=n2->Cf N n1 p v e=some (T v e)/\BY N n2 v (Ee p) e=some (T v e)/\(T v e=-1∨Dj p.decls (T v e)=true):=by
 intro n
 induction n with
 | zero=>exact⟨λ_ _=>0,λv e _ h=>by omega⟩
 | succ n ih=>
  obtain⟨T,hT⟩:=ih;refine⟨λv e=>(Cf N (n+1) p v e).getD 0,λv e hi hn hl ht n1 n2 h1 h2=>?_⟩;have step:∀n1 n2,n<=n1->n<=n2->KE p (Cf N n1) (BY N n2) N v e:=λn1 n2 h1 h2=>
   X2 (T:=T) (λv e a b c d=>hT v e a (by omega) c d n1 n2 h1 h2) ⟨hl,ht,by have:=hl;omega,hi⟩ S hN
  obtain⟨m1,rfl⟩ :∃m,n1=m+1:=⟨n1-1,by omega⟩
  obtain⟨m2,rfl⟩ :∃m,n2=m+1:=⟨n2-1,by omega⟩
  obtain⟨t,q1,q2,q3⟩:=step n n (gA _) (gA _);obtain⟨t',r1,r2,_⟩:=step n m2 (gA _) (by omega);obtain⟨yV,s1,s2,_⟩:=step m1 n (by omega) (gA _);have e1:t'=t:=by rw[q1]at r1;cases r1;rfl
  have e2:yV=t:=by rw[q2]at s2;cases s2;rfl
  subst e1;subst e2;have e3:(Cf N (n+1) p v e).getD 0=yV:=by rw[Cf,q1];rfl
  dsimp only;rw[e3];exact⟨by rw[Cf];exact s1,by rw[BY];exact r2,q3⟩
end RC
namespace RC
open Go
structure Ed (p:AP):Prop where
 Ck:XL p
 size:Rf p<=1048576
theorem Ed.decls {p:AP}(S:Ed p):PG p.decls:=by
 have h:=S.size;unfold Rf at h;have hd:∀d∈p.decls,dz d<=1048576:=λd hd=>by have:=Kv dz hd;omega
 refine⟨by omega,λd hm=>?_,λd hm c hc=>?_⟩
 ·have:=hd d hm;unfold dz at this;omega
 ·have:=hd d hm;unfold dz at this;have:=Kv cz hc;show cz c<=_;omega
theorem Ed.Ih {p:AP}(S:Ed p):p.funcs.length<=1048576:=by have h:=S.size;unfold Rf at h;omega
theorem Ed.fz {p:AP}(S:Ed p){f:Ad}(hf:f∈p.funcs):f.params.length<=1048576/\CG f.body.kids<=1048576:=by
 have h:=S.size;unfold Rf at h;have h2:=Kv WX hf;have h3:WX f=f.params.length+CG f.body.kids:=rfl;omega
theorem Ed.fin {p:AP}(S:Ed p){f:Ad}(hf:f∈p.funcs):UH f:=S.Ck.funcs.1 f hf
def Lh (p:AP):Bool:=NS p.decls (p.funcs.map λf=>(f.params,f.result))
theorem Np {p:AP}(S:Ed p){N:Nat}(hN:2000000<=N):G3 N p=some (Lh p):=QO S.decls S.Ih (λf hf=>(S.fz hf).1) hN
theorem YJ {p:AP}(hl:p.funcs.length<=1048576){N:Nat}(hN:2000000<=N):DZ p N 0 []=some (Ee p).funcs:=by
 have key:∀{N i:Nat},i<=p.funcs.length->p.funcs.length-i<N->DZ p N i ((Ee p).funcs.take i)=some (Ee p).funcs:=by
  intro N i hi hN;refine Bm p.funcs.length (λN i=>DZ p N i ((Ee p).funcs.take i)=some (Ee p).funcs) ?_ ?_ hi hN
  ·intro n;rw[DZ,fr (by simp[AM]),gx (by rw[ML];omega)]
  ·intro n i hi ih;obtain⟨f,hf,_⟩:=CE hi;have yW:(Ee p).funcs[i]?=some ⟨f.params,[],f.result⟩:=by
    show (p.funcs.map _)[i]?=_;rw[fg,hf];rfl
   rw[DZ,fq (by simp[AM];omega),BF hf];simp only[fZ];rw[EC _ _ _ (by simp;omega) (by simp;omega),BP (by omega) (by omega),show ((i:Int)+1)=((i+1:Nat):Int) by omega];simp only[fZ];rw[<- ih,EP yW]
 have:=key (gK _) (by omega:p.funcs.length-0<N);simpa using this
theorem Ym {p:AP}(hl:p.funcs.length<=1048576){N:Nat}(hN:2000000<=N):Jq N p=some (Ee p):=by
 have key:∀{N i:Nat},i<=p.funcs.length->p.funcs.length-i<N->FO p N i ((Ee p).funcs.take i)=some (Ee p).funcs:=by
  intro N i hi hN;refine Bm p.funcs.length (λN i=>FO p N i ((Ee p).funcs.take i)=some (Ee p).funcs) ?_ ?_ hi hN
  ·intro n;rw[FO,fr (by simp[AM]),gx (by rw[ML];omega)]
  ·intro n i hi ih;obtain⟨f,hf,_⟩:=CE hi;have yW:(Ee p).funcs[i]?=some ⟨f.params,[],f.result⟩:=by
    show (p.funcs.map _)[i]?=_;rw[fg,hf];rfl
   rw[FO,fq (by simp[AM];omega),BF hf];simp only[fZ];rw[EC _ _ _ (by simp;omega) (by simp;omega),BP (by omega) (by omega),show ((i:Int)+1)=((i+1:Nat):Int) by omega];simp only[fZ];rw[<- ih,EP yW]
 have:=key (gK _) (by omega:p.funcs.length-0<N);rw[ij,lI]at this;unfold Jq;rw[this];rfl
theorem US {p:AP}(S:Ed p){N:Nat}(hN:2000000<=N):G0 N p=some (Lh p):=by
 have hl:=S.Ih;unfold G0 Lh;by_cases h4:p.funcs.length<=4
 ·rw[fr (by rw[fy,AM];omega),YJ hl hN];simp only[fZ];rw[QV S.decls (by rw[ML];exact hl) (λf hf=>by obtain⟨q,hq,rfl⟩:=gC.1 (show f∈p.funcs.map _ from hf);exact⟨(S.fz hq).1,by simp⟩) hN];have e1:((Ee p).funcs.map λf=>(f.params,f.result))=p.funcs.map λf=>(f.params,f.result):=by
   show (p.funcs.map _).map _=_;rw[iP];rfl
  have e2:((Ee p).funcs.all λf=>Fi (LA f.params f.Fp) 0 f.Fp)=true:=by
   rw[fk];intro f hf;obtain⟨q,hq,rfl⟩:=gC.1 (show f∈p.funcs.map _ from hf);rfl
  rw[e1,e2];simp
 ·rw[fq (by rw[fy,AM];omega)];have:NS p.decls (p.funcs.map λf=>(f.params,f.result))=false:=by
   unfold NS;simp[h4]
  rw[this]
def Hv (p:AP)(T:List Int->AG->Int)(f:Ad):Bool:=decide (en f.body<=30)&&decide (T f.params f.body=f.result)
theorem JZ {p:AP}(S:Ed p){N:Nat}(hN:2000000<=N):∃b,Bn N p=some b/\Eg N p=some b/\(b=true->FE p.decls p.funcs/\∀f∈p.funcs,en f.body<=30):=by
 unfold Bn Eg;rw[Np S hN,US S hN];simp only[fZ];cases hs:Lh p with
 | false=>exact⟨false,rfl,rfl,λh=>nomatch h⟩
 | true=>
  have SO:=FE.of hs;have hl:=S.Ih;obtain⟨T,hT⟩:=PU SO hN 31;have qS:∀f∈p.funcs,en f.body<=30->J4 N p f.params f.body=some (T f.params f.body)/\Ha N f.params (Ee p) f.body=some (T f.params f.body)/\(T f.params f.body=-1∨Dj p.decls (T f.params f.body)=true):=λf hf he=>by
   obtain⟨q1,q2,q3⟩:=SO.OE f hf;exact hT f.params f.body (S.fin hf).body (by omega) (by omega) q2 N N (by omega) (by omega)
  have qY:∀f∈p.funcs,CI f.params=some f.params:=λf hf=>by
   obtain⟨q1,q2,q3⟩:=SO.OE f hf;unfold CI;rw[EC [] f.params 8 (by simp;omega) (by simp;omega)];rfl
  have L1:=E8 (l:=p.funcs) (CB N p) (λ_ f=>Hv p T f) (λn=>by rw[CB,fr (by simp[AM])]) (λn i f hi=>by
   have nQ:=(fe.1 hi).1;have hf:=fc hi;rw[CB,fq (by simp[AM];omega),BF hi];simp only[fZ];rw[Gk (S.fz hf).2 hN,BP (by omega) (by omega),show ((i:Int)+1)=((i+1:Nat):Int) by omega];simp only[fZ];unfold Hv;by_cases he:en f.body<=30
   ·rw[fq he,fr (by simp),(qS f hf he).1];by_cases hr:T f.params f.body=f.result<;>simp[he,hr]
   ·rw[fr he];simp[he]) (by omega:p.funcs.length<N)
  have L2:=E8 (l:=p.funcs) (De N p) (λ_ f=>Hv p T f) (λn=>by rw[De,fr (by simp[AM])]) (λn i f hi=>by
   have nQ:=(fe.1 hi).1;have hf:=fc hi;obtain⟨q1,q2,q3⟩:=SO.OE f hf;have q4:f.params.all (Dj p.decls)=true:=fk.2 q2;rw[De,fq (by simp[AM];omega),BF hi];simp only[fZ];unfold LR;rw[US S hN,hs,I4 (S.fz hf).2 hN,Jp (by omega) (by omega),q4,Ym hl hN,qY f hf,BP (by omega) (by omega),show ((i:Int)+1)=((i+1:Nat):Int) by omega];simp only[fZ];unfold Hv;by_cases he:en f.body<=30
   ·rw[fq he,(qS f hf he).2.1];have tn:¬ ((en f.body:Int)<0):=by omega
    by_cases hr:T f.params f.body=f.result<;>simp[he,hr,tn]
   ·rw[fr he];have hr:¬ ((-1:Int)=f.result):=λq=>by have:=(Kc q3).1;omega
    simp[he,hr]) (by omega:p.funcs.length<N)
  rw[Fv]at L1 L2;refine⟨p.funcs.all (Hv p T),?_,?_,λh=>⟨SO,λf hf=>?_⟩⟩
  ·simp only[iA,fh,gM];rw[L1,E9];cases p.funcs.all (Hv p T)<;>rfl
  ·simp only[iA,fh,gM];rw[L2,E9];cases p.funcs.all (Hv p T)<;>rfl
  ·have:=fk.1 h f hf;unfold Hv at this;simp only[gN,fy]at this;exact this.1
end RC
namespace RC
open Go
def Af {α:Type}(x:Option α)(Q:α->Prop):Prop:=∃v,x=some v/\Q v
theorem Af.some {α:Type}{v:α}{Q:α->Prop}(h:Q v):Af (some v) Q:=⟨v,rfl,h⟩
theorem Af.mono {α:Type}{x:Option α}{Q R:α->Prop}(h:Af x Q)(g :∀v,Q v->R v):Af x R:=
 let ⟨v,e,q⟩:=h;⟨v,e,g v q⟩
theorem Af.bind {α β:Type}{x:Option α}{f:α->Option β}{R:α->Prop}{Q:β->Prop}(h:Af x R)(k :∀v,R v->Af (f v) Q):Af (Option.bind x f) Q:=by
 obtain⟨v,rfl,hv⟩:=h;exact k v hv
theorem AS {α β:Type}{x:Option α}{f:α->Option β}{v:α}{Q:β->Prop}(h:x=Option.some v)(k:Af (f v) Q):Af (Option.bind x f) Q:=by
 subst h;exact k
theorem Ci {α:Type}{b:Bool}{x y:Option α}{Q:α->Prop}(h1:b=true->Af x Q)(h2:b=false->Af y Q):Af (if b=true then x else y) Q:=by
 cases b
 ·exact h2 rfl
 ·exact h1 rfl
theorem Ay {α:Type}{p:Prop}[Decidable p]{x y:Option α}{Q:α->Prop}(h1:p->Af x Q)(h2:¬ p->Af y Q):Af (if decide p=true then x else y) Q:=by
 by_cases h:p
 ·rw[fq (by simpa using h)];exact h1 h
 ·rw[fr (by simpa using h)];exact h2 h
theorem Af.cont {ρ σ β:Type}{o:Option (ρ ⊕ σ)}{g:ρ->β}{f:σ->Option β}{R:ρ->Prop}{S:σ->Prop}{Q:β->Prop}(h:Af o λv=>match v with|.inl r=>R r|.inr s=>S s)(h1 :∀r,R r->Q (g r))(h2 :∀s,S s->Af (f s) Q):Af (Sh.cont o g f) Q:=by
 obtain⟨v,rfl,hv⟩:=h;cases v with
 | inl r=>exact⟨g r,rfl,h1 r hv⟩
 | inr s=>exact h2 s hv
theorem Af.get {α β:Type}{l:List α}{j:Int}{f:α->Option β}{Q:β->Prop}(h0:0<=j)(h1:j<l.length)(k :∀x,l[j.toNat]?=Option.some x->x∈l->Af (f x) Q):Af (Option.bind (Sh.get l j) f) Q:=by
 obtain⟨x,e,hx⟩:=Om h0 h1;exact AS e (k x hx (fc hx))
theorem Af.app {α β:Type}{l m:List α}{b:Nat}{f:List α->Option β}{Q:β->Prop}(h:(l.length+m.length)*b<=140737488355328)(h2:l.length+m.length<=9223372036854775807)(k:Af (f (l++m)) Q):Af (Option.bind (Sh.app l m b) f) Q:=AS (EC l m b h h2) k
theorem YM {n:Int}(h1:-9223372036854775808<=n)(h2:n<=9223372036854775807):Sh.wk .i64 n=n:=Abs.wrap_i64 h1 h2
theorem cX {a b:Int}(ha:0<=a)(ha':a<4611686018427387904)(hb:0<=b)(mE:b<4611686018427387904):0<=Sh.xor a b/\Sh.xor a b<4611686018427387904:=by
 obtain⟨x,rfl⟩:=gv ha;obtain⟨y,rfl⟩:=gv hb;have e:Sh.xor (x:Int) (y:Int)=((x ^^^ y:Nat):Int):=by
  unfold Sh.xor;have h1:(BitVec.ofInt 64 (x:Int) ^^^ BitVec.ofInt 64 (y:Int)).toNat=x ^^^ y:=by
   rw[BitVec.toNat_xor];simp only[BitVec.ofInt_natCast,BitVec.toNat_ofNat];rw[jQ (by omega),jQ (by omega)]
  rw[h1];have h2:x ^^^ y<2 ^ 62:=Nat.xor_lt_two_pow (by omega) (by omega);exact Abs.wrap_i64 (by omega) (by omega)
 have h2:x ^^^ y<2 ^ 62:=Nat.xor_lt_two_pow (by omega) (by omega);rw[e];omega
end RC
namespace RC
open Go
inductive V2:Step->Prop where
 | mk {s:Step}:IB s.op->IB s.num->IB s.Y0->IP IB s.args->s.kids.length<=9223372036854775807->(∀b∈s.kids,b.steps.length<=9223372036854775807)->(∀b∈s.kids,IB b.result)->(∀b∈s.kids,∀t∈b.steps,V2 t)->V2 s
structure eP (b:Block):Prop where
 steps:IP V2 b.steps
 result:IB b.result
def lf (left:Int)(s:Nat):Int:=if left-s<0 then -1 else left-s
end RC
namespace RC
open Go
end RC
namespace RC
open Go
def fG (o:Int):Bool:=decide (14<=o)&&decide (o<=17)
mutual
def us (v:Int):Step->Nat|.mk o _ _ a k=>if fG o then 0 else a.countP (λx=>decide (x=v))+uk v k
def uk (v:Int):List (Kt Step)->Nat|[]=>0|b::k=>ub v b+uk v k
def ub (v:Int):Kt Step->Nat|⟨ss,r⟩=>(if r=v then 1 else 0)+ul v ss
def ul (v:Int):List Step->Nat|[]=>0|s::l=>us v s+ul v l
end
def ua (v:Int)(a:List Int):Nat:=a.countP λx=>decide (x=v)
theorem fK (v:Int)(a:List Int):ua v a<=a.length:=List.countP_le_length
end RC
namespace RC
open Go
section
variable {D : List AN} {G : List Bo} {ks : List Int} {op num : Int} {N : Nat}
end
end RC
namespace RC
open Go
section
variable {n : IA} {R1 : IA -> List Int -> Block -> Option Int} {R2 : BL -> List Int -> Block -> Option Int} {T : List Int -> Block -> Int} {s : Step} {v : List Int} {N : Nat}
end
end RC
namespace RC
open Go
section
variable {n : IA} {R1 : IA -> List Int -> Block -> Option Int} {R2 : BL -> List Int -> Block -> Option Int} {T : List Int -> Block -> Int} {s : Step} {v : List Int} {N : Nat}
end
end RC
namespace RC
open Go
section
variable {n : IA} {R1 : IA -> List Int -> Block -> Option Int} {R2 : BL -> List Int -> Block -> Option Int} {T : List Int -> Block -> Int} {s : Step} {v : List Int} {N : Nat} {b : Bool}
end
end RC
namespace RC
open Go
section
variable {n : IA} {R1 : IA -> List Int -> Block -> Option Int} {R2 : BL -> List Int -> Block -> Option Int} {T : List Int -> Block -> Int} {s : Step} {v : List Int} {N : Nat} {b : Bool}
end
end RC
namespace RC
open Go
section
variable {n : IA} {R1 : IA -> List Int -> Block -> Option Int} {R2 : BL -> List Int -> Block -> Option Int} {T : List Int -> Block -> Int} {s : Step} {v : List Int} {N : Nat} {b : Bool}
end
end RC
namespace RC
open Go
section
variable {n : IA} {R1 : IA -> List Int -> Block -> Option Int} {R2 : BL -> List Int -> Block -> Option Int} {T : List Int -> Block -> Int} {b : Block} {v : List Int} {N : Nat}
end
end RC
namespace RC
open Go
end RC
namespace RC
open Go
end RC
namespace RC
open Go
theorem XV {α:Type}(A B:List α)(x:α):Sh.get (A++x::B) (A.length:Int)=some x:=BF (by simp)
theorem XR {α:Type}(A B:List α)(x y:α):Sh.put (A++x::B) (A.length:Int) y=A++y::B:=by rw[Oe];simp
theorem Qj {α:Type}{f g:α->Nat}{a b:Nat}:∀{l:List α},(∀x∈l,f x<=a+b*g x)->(l.map f).sum<=a*l.length+b*(l.map g).sum
 | [],_=>by simp
 | x::r,h=>by
  have h1:=h x (by simp);have h2:=Qj (l:=r) λy hy=>h y (by simp[hy]);simp only[gP,jY,gn,Nat.mul_add];omega
mutual
def ms:Step->Nat|.mk _ _ _ a k=>3+a.length+eT k
def eT:List (Kt Step)->Nat|[]=>0|b::k=>mb b+eT k
def mb:Kt Step->Nat|⟨ss,_⟩=>fD ss+1
def fD:List Step->Nat|[]=>0|s::l=>ms s+fD l
end
end RC
namespace RC
open Go
theorem VT {α β:Type}{l:List α}(L:Nat->Int->List β->Option (List β))(g:α->β)(h0 :∀n acc,L (n+1) ((l.length:Nat):Int) acc=some acc)
  (hs :∀n i x acc,l[i]?=some x->acc.length=i->L (n+1) ((i:Nat):Int) acc=L n ((i+1:Nat):Int) (acc++[g x])) {N:Nat} (hN:l.length<N):L N 0 []=some (l.map g):=by
 have key:∀{N i:Nat},i<=l.length->l.length-i<N->L N (i:Int) ((l.take i).map g)=some (l.map g):=by
  intro N i hi hN;refine Bm l.length (λN i=>L N (i:Int) ((l.take i).map g)=some (l.map g)) ?_ ?_ hi hN
  ·intro n;rw[h0,iR]
  ·intro n i hi ih;obtain⟨x,hx,_⟩:=CE hi;rw[hs n i x _ hx (by simp;omega),<- ih,EP hx,iD];rfl
 have:=key (gK _) (by omega:l.length-0<N);simpa using this
theorem VR {α:Type}{l:List α}(L:Nat->Int->List α->Option (List α))(g:α->α)(h0 :∀n acc,L (n+1) ((l.length:Nat):Int) acc=some acc)
  (hs :∀n (A:List α) (x:α) (C:List α),A.length+C.length<l.length->l[A.length]?=some x->L (n+1) ((A.length:Nat):Int) (A++x::C)=L n ((A.length+1:Nat):Int) (A++g x::C)) {N:Nat} (hN:l.length<N):L N 0 l=some (l.map g):=by
 have key:∀(C A:List α) (n:Nat),C.length<n->A.length<=l.length->C=l.drop A.length->L n ((A.length:Nat):Int) (A++C)=some (A++C.map g):=by
  intro C
  induction C with
  | nil=>
   intro A n hn h1 h2;obtain⟨n,rfl⟩ :∃m,n=m+1:=⟨n-1,by simp at hn;omega⟩
   have h3:=iE List.length h2;simp at h3;rw[show A.length=l.length by omega,h0];simp
  | cons x C ih=>
   intro A n hn h1 h2;have h3:=iE List.length h2;simp only[gn,jH]at hn h3;obtain⟨n,rfl⟩ :∃m,n=m+1:=⟨n-1,by omega⟩
   have hx:l[A.length]?=some x:=by
    have:=iE (λz=>z[0]?) h2;simpa using this.symm
   rw[hs n A x C (by omega) hx];have:=ih (A++[g x]) n (by omega) (by simp;omega) (by
    rw[drop_cons hx]at h2;simpa using (List.cons.inj h2).2)
   simpa using this
 have:=key l [] N hN (by simp) (by simp);simpa using this
theorem Wb {i:Nat}(h:i<=1048576):Sh.w ((i:Int)+1)=((i+1:Nat):Int):=by rw[BP (by omega) (by omega)];rfl
theorem fW {l:List Int}(hl:l.length<=1048576):FB l=some l:=by
 unfold FB;rw[EC [] l 8 (by simp;omega) (by simp;omega)];rfl
theorem fS {l:List Int}(hl:l.length<=1048576):CI l=some l:=by
 unfold CI;rw[EC [] l 8 (by simp;omega) (by simp;omega)];rfl
theorem VO {D:List AN}{i:Nat}{d:AN}(hd:D[i]?=some d)(hz:dz d<=1048576){N:Nat}(hN:2000000<=N):D9 i D N 0 []=some d.cons:=by
 unfold dz at hz;rw[VT (l:=d.cons) (D9 i D) id (λn acc=>by rw[D9,BF hd];simp only[fZ];rw[fr (by simp[AM])]) (λn j c acc hc ha=>?_) (by omega)]
 ·simp
 ·have hj:=(fe.1 hc).1;have hcz:=Kv cz (fc hc);rw[D9,BF hd];simp only[fZ];rw[fq (by simp[AM];omega),BF hc];simp only[fZ];rw[fW (show cz c<=1048576 by omega)];simp only[fZ];rw[EC acc _ 24 (by simp;omega) (by simp;omega)];simp only[fZ];rw[Wb (by omega)];rfl
theorem VL {D:List AN}(hl:D.length<=1048576)(hz :∀d∈D,dz d<=1048576){N:Nat}(hN:2000000<=N):H3 N D=some D:=by
 unfold H3;rw[VT (l:=D) (Eh N D) id (λn acc=>by rw[Eh,fr (by simp[AM])]) (λn j c acc hc ha=>?_) (by omega)]
 ·simp
 ·have hj:=(fe.1 hc).1;rw[Eh,fq (by simp[AM];omega),VO hc (hz c (fc hc)) hN,BF hc];simp only[fZ];rw[EC acc _ 40 (by simp;omega) (by simp;omega)];simp only[fZ];rw[Wb (by omega)];rfl
theorem UQ {D:List AN}(hl:D.length<=1048576)(hz :∀d∈D,dz d<=1048576){N:Nat}(hN:2000000<=N):Hf N D=some D:=by
 unfold Hf DP;rw[EC [] D 40 (by simp;omega) (by simp;omega)];simp only[fZ,iN];rw[VR (l:=D) (EH N (Sh.len D)) id (λn acc=>by rw[EH,fr (by simp[AM])]) (λn A d C hA hd=>?_) (by omega)]
 ·simp
 ·have h1:=hz d (fc hd);unfold dz at h1;rw[EH,fq (by simp[AM];omega),XV];simp only[fZ];unfold Ct;rw[EC [] d.cons 24 (by simp;omega) (by simp;omega)];simp only[fZ,iN];rw[VR (l:=d.cons) (EK d.cons) id (λn acc=>by rw[EK,fr (by simp[AM])]) (λn B c E hB hc=>?_) (by omega)]
  ·simp only[fZ,XR,hZ];rw[Wb (by omega)];rfl
  ·have hcz:=Kv cz (fc hc);have hl:=(fe.1 hc).1;rw[EK,fq (by simp[AM];omega),BF hc];simp only[fZ];rw[fS (show cz c<=1048576 by omega),XV];simp only[fZ];rw[XR,Wb (by omega)];rfl
end RC
namespace RC
open Go
end RC
namespace RC
end RC
namespace RC
open Go
mutual
def vs:Step->List Int|.mk o _ _ a k=>if fG o then [] else a++eY k
def eY:List (Kt Step)->List Int|[]=>[]|b::k=>fV b++eY k
def fV:Kt Step->List Int|⟨ss,r⟩=>eh ss++[r]
def eh:List Step->List Int|[]=>[]|s::l=>vs s++eh l
end
end RC
namespace RC
open Go
def ee (h:List Cell)(j:Nat)(w:Int):Bool:=dL h w&&decide ((w-1000).toNat=j)
def fL (h:List Cell)(ws:List Int)(j:Nat):Nat:=ws.countP (ee h j)
theorem fF (h:List Cell)(j:Nat):fL h [] j=0:=rfl
def eQ (l:List Nat):List Int:=List.map (λn:Nat=>(n:Int)) l
end RC
namespace RC
open Go
def mk (m:Nat->Bool)(n i:Nat):List Nat:=(List.range' i (n-i)).filter m
def dV (m:Nat->Bool)(j:Nat):Nat->Bool:=λk=>m k || decide (k=j)
def dy (m:Nat->Bool)(l:List Int):Nat->Bool:=λk=>m k || decide ((k:Int)∈l)
mutual
def ct:AG->List Int|.mk o n k=>(if o=9∨o=10 then [n] else [])++bQ k
def bQ:List AG->List Int|[]=>[]|e::l=>ct e++bQ l
end
end RC
namespace RC
open Go
def push:List Int->(Nat->Bool)->List Int->(Nat->Bool)×List Int
 | [],m,w=>(m,w)
 | x::q,m,w=>if m x.toNat then push q m w else push q (dV m x.toNat) (w++[x])
end RC
namespace RC
open Go
def fP (p:AP)(k:Nat):List Int:=match p.funcs[k]? with|some f=>ct f.body|none=>[]
def fT:Nat->Bool:=λ_=>false
def cl (p:AP)(F k:Nat):List Int:=eQ (mk (dy fT (fP p k)) F 0)
end RC
namespace RC
open Go
end RC
namespace RC
open Go
end RC
namespace RC
open Go
section
variable {p : AP} {R1 : AP -> List Int -> AG -> Option Int} {R2 : List Int -> BL -> AG -> Option Int} {T : List Int -> AG -> Int} {e : AG} {v : List Int} {N : Nat}
theorem Rp {l:List Int}(h:Kh l≠-1):∀x∈l,x≠-1:=by
 cases l with
 | nil=>exact absurd rfl h
 | cons a r=>
  simp only[Kh]at h;by_cases hr:r.all (λx=>decide (x=a))=true
  ·rw[fq hr]at h;intro x hx;rcases fu.1 hx with rfl|hx
   ·exact h
   ·have:=fk.1 hr x hx;simp only[fy]at this;rw[this];exact h
  ·rw[fr hr]at h;exact absurd rfl h
theorem aU (H:Jn p (Ee p) R1 R2 T (en e))(V:Hi p e v)(S:FE p.decls p.funcs)(hN:2000000<=N){t:Int}(hB:Ak N R2 v (Ee p) e=some t)(ht:t≠-1):
  ∀k∈e.kids,∃m:List Int,m.length<=3/\(∀x∈m,Dj p.decls x=true)/\T (v++m) k≠-1:=by
 have hv:v.length<=1000:=by have:=V.len;omega
 have nil:∀k,T v k≠-1->∃m:List Int,m.length<=3/\(∀x∈m,Dj p.decls x=true)/\T (v++m) k≠-1:=λk h=>⟨[],by simp,λx hx=>(by cases hx),by simpa using h⟩;by_cases qT:e.op=12
 ·unfold Ak at hB;simp only[qT,gH,gb]at hB;intro k hk;have:0<Sh.len e.kids:=by rw[AM];have:=List.length_pos_of_mem hk;omega
  simp only[this,gH,gb,fZ,ff]at hB;exact absurd hB.symm ht
 by_cases h13:e.op=13
 ·unfold Ak at hB;simp only[h13,Int.reduceEq,gH,gF,fh,gb,gM]at hB;by_cases hl:e.kids.length=2
  ·obtain⟨a,b,hk⟩ :∃a b,e.kids=[a,b]:=by
    match hk:e.kids,hl with
    | [a,b],_=>exact⟨a,b,rfl⟩
   have mM:a∈e.kids:=by rw[hk];simp
   have ny:b∈e.kids:=by rw[hk];simp
   obtain⟨a1,a2,a3⟩:=H v a (V.Ck.kids a mM) (DY mM) (V.Jo mM) V.I5;have g0:Sh.get e.kids 0=some a:=by rw[hk];rfl
   have g1:Sh.get e.kids 1=some b:=by rw[hk];rfl
   rw[g0,g1]at hB;simp only[fZ,AM,hl]at hB;rw[a2]at hB;simp only[fZ]at hB;by_cases hn:e.num=0
   ·by_cases h0:T v a<0
    ·simp[hn,h0]at hB;exact absurd hB.symm ht
    ·have qS:Dj p.decls (T v a)=true:=a3.resolve_left (by omega);obtain⟨b1,b2,b3⟩:=H (v++[T v a]) b (V.Ck.kids b ny) (DY ny) (V.more ny (by simp)) (V.UT (by simp[qS]));rw[EC v [T v a] 8 (by simp;omega) (by simp;omega)]at hB;simp only[fZ,b2]at hB;simp[hn,h0]at hB;intro k oP;rw[hk]at oP;simp only[fu,gT,iB]at oP;rcases oP with rfl|rfl
     ·exact nil _ (by omega)
     ·exact⟨[T v a],by simp,by simp[qS],by rw[hB];exact ht⟩
   ·simp[hn]at hB;exact absurd hB.symm ht
  ·have:¬ ((e.kids.length:Int)=2):=by omega
   simp[AM,this]at hB;exact absurd hB.symm ht
 by_cases h7:e.op=7
 ·unfold Ak at hB;simp only[h7,Int.reduceEq,gH,gF,fh,gb,gM]at hB;by_cases hl:e.kids.length=3
  ·obtain⟨a,b,c,hk⟩ :∃a b c,e.kids=[a,b,c]:=by
    match hk:e.kids,hl with
    | [a,b,c],_=>exact⟨a,b,c,rfl⟩
   have mM:a∈e.kids:=by rw[hk];simp
   have ny:b∈e.kids:=by rw[hk];simp
   have vm:c∈e.kids:=by rw[hk];simp
   obtain⟨a1,a2,a3⟩:=H v a (V.Ck.kids a mM) (DY mM) (V.Jo mM) V.I5;have g0:Sh.get e.kids 0=some a:=by rw[hk];rfl
   have g3:Sh.sl e.kids 1 3=some [b,c]:=by rw[hk];rfl
   have o:=Ji (ks:=[b,c]) (ms:=[[],[]]) H V hN (by intro k hk;simp only[fu,gT,iB]at hk;rcases hk with rfl|rfl<;>assumption) (by simp) rfl (by simp);have vn:Sh.mk ([]:List Int) 2 24=some [[],[]]:=Ol [] 2 24 (by omega) (by omega);rw[g0]at hB;simp only[fZ,AM,hl]at hB;rw[a2,show ((3:Nat):Int)=3 from rfl,g3,vn]at hB;simp only[fZ]at hB;rw[o]at hB;by_cases hn:e.num=0
   ·by_cases h0:T v a=0
    ·simp[hn,h0]at hB;have qA:=Rp (l:=[T v b,T v c]) (by rw[hB];exact ht);intro k oP;rw[hk]at oP;simp only[fu,gT,iB]at oP;rcases oP with rfl|rfl|rfl
     ·exact nil _ (by omega)
     ·exact nil _ (qA _ (by simp))
     ·exact nil _ (qA _ (by simp))
    ·simp[hn,h0]at hB;exact absurd hB.symm ht
   ·simp[hn]at hB;exact absurd hB.symm ht
  ·have:¬ ((e.kids.length:Int)=3):=by omega
   simp[AM,this]at hB;exact absurd hB.symm ht
 by_cases h8:e.op=8
 ·have ot:=V.Ks;have hD:=S.MU;have hn:=S.nc;have rj:=Lc S.Sj e.num;unfold Ak at hB;simp only[h8,Int.reduceEq,gH,gF,fh,gb,gM]at hB;rw[show (Ee p).decls=p.decls from rfl,H7 (by omega) (by omega) hN]at hB;simp only[fZ]at hB;generalize sI:CN p.decls e.num=C at rj hB;have rS:∀c∈C,Bs N p.decls c=some (Fu p.decls c)/\Ds N p.decls c=some (Fu p.decls c)/\(Fu p.decls c).length<=3/\∀x∈Fu p.decls c,Dj p.decls x=true:=λc hc=>PO S (sI▸hc) hN;rw[AM C,AM e.kids,BP (n:=1+(C.length:Int)) (by omega) (by omega)]at hB;by_cases h0:C.length=0
  ·simp[h0]at hB;exact absurd hB.symm ht
  ·have pN:¬ ((C.length:Int)=0):=by omega
   have lv:¬ C=[]:=λq=>h0 (by rw[q];rfl);by_cases h1:e.kids.length=1+C.length
   ·have nY:((e.kids.length:Int)=1+(C.length:Int)):=by omega
    obtain⟨a,r,nZ⟩ :∃a r,e.kids=a::r:=by
     cases hq:e.kids with
     | nil=>rw[hq]at h1;simp at h1;omega
     | cons a r=>exact⟨a,r,rfl⟩
    have pJ:r.length=C.length:=by rw[nZ]at h1;simp at h1;omega
    have mM:a∈e.kids:=by rw[nZ];simp
    have sb:∀k∈r,k∈e.kids:=λk hk=>by rw[nZ];simp[hk]
    obtain⟨a1,a2,a3⟩:=H v a (V.Ck.kids a mM) (DY mM) (V.Jo mM) V.I5;have g0:Sh.get e.kids 0=some a:=by rw[nZ];rfl
    have g3:Sh.sl e.kids 1 (e.kids.length:Int)=some r:=by
     unfold Sh.sl;rw[fq ⟨by omega,by omega,by omega⟩,nZ];simp
    have vo:Sh.mk ([]:List Int) (C.length:Int) 24=some (List.replicate C.length []):=Ol [] C.length 24 (by omega) (by omega);have o:=Ji (ks:=r) (ms:=C.map (Fu p.decls)) H V hN sb (by omega) (by simp[pJ]) (by
     intro m hm;obtain⟨c,hc,rfl⟩:=gC.1 hm;exact (rS c hc).2.2)
    have FL:=Nw (p:=p) S hN rj λc hc=>(rS c hc).2.1;rw[g0,g3,vo]at hB;simp only[fZ]at hB;rw[a2,FL]at hB;simp only[fZ]at hB;rw[o]at hB;by_cases rT:T v a=e.num
    ·simp[lv,nY,rT]at hB;have qA:=Rp (by rw[hB];exact ht);intro k oP;rw[nZ]at oP;rcases fu.1 oP with rfl|oP
     ·refine nil _ λhq=>?_;have yX:e.num=-1:=by rw[<- rT];exact hq
      rw[yX]at sI;exact h0 (by rw[<- sI];simp[CN])
     ·obtain⟨i,hi⟩:=gG.1 oP;have nQ:=(fe.1 hi).1;obtain⟨c,hc,mq⟩:=CE (l:=C) (i:=i) (by omega);refine⟨Fu p.decls c,(rS c mq).2.2.1,(rS c mq).2.2.2,qA _ (gG.2 ⟨i,?_⟩)⟩;rw[iV,fg,hc,hi];rfl
    ·simp[lv,nY,rT]at hB;exact absurd hB.symm ht
   ·have nY:¬ ((e.kids.length:Int)=1+(C.length:Int)):=by omega
    simp[lv,nY]at hB;exact absurd hB.symm ht
 rw[FI H V hN qT h13 h7 h8]at hB;by_cases h:(e.kids.map (T v)).any (λt=>decide (t<0))=true
 ·rw[fq h]at hB;simp at hB;exact absurd hB.symm ht
 ·intro k hk;refine nil k λhq=>h ?_;exact jF.2 ⟨T v k,jU hk,by rw[hq];rfl⟩
end
end RC
namespace RC
open Go
def TT (p:AP)(N:Nat)(T:List Int->AG->Int):Prop:=∀(v:List Int) (e:AG),Aq e->en e<31->v.length+3*en e<=1000->(∀x∈v,Dj p.decls x=true)->
  ∀n1 n2,31<=n1->31<=n2->Cf N n1 p v e=some (T v e)/\BY N n2 v (Ee p) e=some (T v e)/\(T v e=-1∨Dj p.decls (T v e)=true)
end RC
namespace RC
open Go
def Nf (o n:Int):List AG->AG
 | c::d::k=>if o=11/\c.op=10 then .mk 9 c.num (c.kids++[d]) else .mk o n (c::d::k)
 | k=>.mk o n k
mutual
def kn:AG->AG|.mk o n k=>Nf o n (WJ k)
def WJ:List AG->List AG|[]=>[]|e::l=>kn e::WJ l
end
theorem Qw:∀l,WJ l=l.map kn
 | []=>by simp[WJ]
 | e::l=>by simp[WJ,Qw l]
theorem QW (e:AG):kn e=Nf e.op e.num (e.kids.map kn):=by cases e;simp[kn,Qw,AG.kids,AG.op,AG.num]
def K2 (e:AG):Prop:=e.op=11->2<=e.kids.length
mutual
def KA:AG->Prop|.mk o n k=>K2 (.mk o n k)/\Zj k
def Zj:List AG->Prop|[]=>True|e::l=>KA e/\Zj l
end
theorem XZ:∀{l:List AG},Zj l->∀e∈l,KA e
 | [],_,e,h=>by cases h
 | a::l,h,e,he=>by
  unfold Zj at h;rcases fu.1 he with rfl|he
  ·exact h.1
  ·exact XZ h.2 e he
theorem KA.k2 {e:AG}(h:KA e):K2 e:=by cases e;unfold KA at h;exact h.1
theorem KA.Jo {e k:AG}(h:KA e)(hk:k∈e.kids):KA k:=by cases e;unfold KA at h;exact XZ h.2 k hk
theorem WR {N:Nat}(hN:2000000<=N):∀(n:Nat) (k:List AG),CG k<n->CG k<=1000->C9 N n k=some k:=by
 intro n
 induction n with
 | zero=>intro k h;omega
 | succ n ih=>
  intro k hk hs;have hlen:=Hl k;rw[C9];unfold HF;have key:∀(M i:Nat),i<=k.length->k.length-i<M->CQ k (C9 N n) M i (k.take i)=some k:=by
   intro M i hi hM;refine Bm k.length (λM i=>CQ k (C9 N n) M i (k.take i)=some k) ?_ ?_ hi hM
   ·intro m;rw[CQ,fr (by simp[AM]),iR]
   ·intro m i hi qI;obtain⟨e,he,hem⟩:=CE hi;have h1:=Ju hem;have h2:=Ex e;rw[CQ,fq (by simp[AM];omega),BF he];simp only[fZ,Ix];rw[ih e.kids (by omega) (by omega)];simp only[fZ];rw[<- Nx,EC _ _ 40 (by simp;omega) (by simp;omega),BP (by omega) (by omega),show ((i:Int)+1)=((i+1:Nat):Int) by omega];simp only[fZ];rw[<- EP he];exact qI
  have:=key N 0 (gK _) (by omega);rw[ij,lI]at this;rw[this];rfl
theorem P5 {N:Nat}(hN:2000000<=N){k:List AG}(hs:CG k<=1000):GK N k=some k:=by
 unfold GK;exact WR hN N k (by omega) hs
theorem VA {N:Nat}(hN:2000000<=N){e:AG}(hs:CG e.kids<=1000):Hm N e=some e:=by
 unfold Hm;rw[P5 hN hs];simp only[fZ];rw[<- Nx]
end RC
namespace RC
open Go
theorem Xw (a b:List AG):CG (a++b)=CG a+CG b:=by
 induction a with
 | nil=>simp[CG]
 | cons x a ih=>simp only[kJ,CG,ih];omega
theorem cd (o n:Int)(k:List AG):en (Nf o n k)<=1+CG k:=by
 unfold Nf;split
 ·rename_i c d k;split
  ·rw[Ex];show 1+CG (c.kids++[d])<=_;have:=Ex c;rw[Xw];simp only[CG];omega
  ·rw[Ex];exact gA _
 ·rw[Ex];exact gA _
mutual
theorem Tv:∀e:AG,en (kn e)<=en e
 | .mk o n k=>by
  unfold kn;have h1:=cd o n (WJ k);have h2:=PB k;rw[Ex (.mk o n k)];show _<=1+CG k;omega
theorem PB:∀l:List AG,CG (WJ l)<=CG l
 | []=>by simp[WJ,CG]
 | e::l=>by
  have h1:=Tv e;have h2:=PB l;simp only[WJ,CG];omega
end
theorem bk {N:Nat}(hN:2000000<=N):∀(n:Nat) (e:AG),en e<=n->en e<=500->KA e->Gh N n e=some (kn e):=by
 intro n
 induction n with
 | zero=>intro e h;have:=Kf e;omega
 | succ n ih=>
  intro e hn hs hK;have hlen:=Hl e.kids;have he:=Ex e;rw[Gh];unfold Kd;have key:∀(M i:Nat),i<=e.kids.length->e.kids.length-i<M->Eo e (Gh N n) M i ((e.kids.map kn).take i)=some (e.kids.map kn):=by
   intro M i hi hM;refine Bm e.kids.length (λM i=>Eo e (Gh N n) M i ((e.kids.map kn).take i)=some (e.kids.map kn)) ?_ ?_ hi hM
   ·intro m;rw[Eo,fr (by simp[AM]),gx (by simp)]
   ·intro m i hi qI;obtain⟨c,hc,mq⟩:=CE hi;have h1:=Ju mq;rw[Eo,fq (by simp[AM];omega),BF hc];simp only[fZ];rw[ih c (by omega) (by omega) (hK.Jo mq)];simp only[fZ];rw[EC _ _ 40 (by simp;omega) (by simp;omega),BP (by omega) (by omega),show ((i:Int)+1)=((i+1:Nat):Int) by omega];simp only[fZ];have hm:(e.kids.map kn)[i]?=some (kn c):=by rw[fg,hc];rfl
    rw[<- EP hm];exact qI
  have:=key N 0 (gK _) (by omega);rw[ij,lI]at this;rw[this,QW];simp only[fZ];have rB:CG (e.kids.map kn)<=CG e.kids:=by rw[<- Qw];exact PB _
  have ry:(e.kids.map kn).length=e.kids.length:=by simp
  have vp:=hK.k2;unfold K2 at vp;generalize e.kids.map kn=l at *;by_cases ho:e.op=11
  ·have:=vp ho
   match l,ry,rB with
   | [],ry,_=>simp at ry;omega
   | [_],ry,_=>simp at ry;omega
   | c::d::k,ry,rB=>
    have h0:Sh.get (c::d::k) 0=some c:=rfl;have h1:Sh.get (c::d::k) 1=some d:=rfl;rw[fq (by simpa using ho),h0,h1];simp only[fZ,Nf];by_cases hc:c.op=10
    ·have hce:=Ex c;simp only[CG]at rB;have qm:=Hl c.kids;rw[fq (by simpa using hc),fq ⟨ho,hc⟩,P5 hN (by omega)];simp only[fZ];rw[EC _ _ 40 (by simp;omega) (by simp;omega)];rfl
    ·rw[fr (by simpa using hc),fr (λh=>hc h.2)]
  ·rw[fr (by simpa using ho)];simp only[fZ,fh,gM];congr 1;unfold Nf;split
   ·rw[fr (λh=>ho h.1)]
   ·rfl
theorem Zy {N:Nat}(hN:2000000<=N){e:AG}(hs:en e<=500)(hK:KA e):MD N e=some (kn e):=by
 unfold MD;exact bk hN N e (by omega) hs hK
end RC
namespace RC
open Go
def M1 (N:Nat)(ds:List AN)(e:AG):Prop:=e.op=8->∀t:Nat,1<=t->t<e.kids.length->∃q c f,GY N ds e.num=some q/\q[t-1]?=some c/\Ds N ds c=some f
mutual
def MA (N:Nat)(ds:List AN):AG->Prop|.mk o n k=>M1 N ds (.mk o n k)/\Zg N ds k
def Zg (N:Nat)(ds:List AN):List AG->Prop|[]=>True|e::l=>MA N ds e/\Zg N ds l
end
theorem XP {N:Nat}{ds:List AN}:∀{l:List AG},Zg N ds l->∀e∈l,MA N ds e
 | [],_,e,h=>by cases h
 | a::l,h,e,he=>by
  unfold Zg at h;rcases fu.1 he with rfl|he
  ·exact h.1
  ·exact XP h.2 e he
theorem MA.m1 {N:Nat}{ds:List AN}{e:AG}(h:MA N ds e):M1 N ds e:=by cases e;unfold MA at h;exact h.1
theorem MA.Jo {N:Nat}{ds:List AN}{e k:AG}(h:MA N ds e)(hk:k∈e.kids):MA N ds k:=by cases e;unfold MA at h;exact XP h.2 k hk
theorem Ys {l:List AG}{o n s:Int}(hz:CG l<=1000)(h2:o=11->2<=l.length):Gu l o n s=some (Nf o n l):=by
 unfold Gu;by_cases ho:o=11
 ·have:=h2 ho
  match l,hz with
  | [],_=>simp at this
  | [_],_=>simp at this
  | c::d::k,hz=>
   have h0:Sh.get (c::d::k) 0=some c:=rfl;have h1:Sh.get (c::d::k) 1=some d:=rfl;rw[fq (by simpa using ho),h0,h1];simp only[fZ,Nf];by_cases hc:c.op=10
   ·have hce:=Ex c;simp only[CG]at hz;have qm:=Hl c.kids;rw[fq (by simpa using hc),fq ⟨ho,hc⟩,EC _ _ 40 (by simp;omega) (by simp;omega)];rfl
   ·rw[fr (by simpa using hc),fr (λh=>hc h.2)]
 ·rw[fr (by simpa using ho)];simp only[fZ,fh,gM];congr 1;unfold Nf;split
  ·rw[fr (λh=>ho h.1)]
  ·rfl
theorem UD {N:Nat}(hN:2000000<=N){ds:List AN}:∀(n:Nat) (e:AG) (s:Int),en e<=n->en e<=500->KA e->MA N ds e->EM N n e.kids ds e.op e.num s=some (kn e):=by
 intro n
 induction n with
 | zero=>intro e _ h;have:=Kf e;omega
 | succ n ih=>
  intro e s hn hs hK hM;have hlen:=Hl e.kids;have he:=Ex e;rw[EM];unfold HS;have key:∀(M i:Nat),i<=e.kids.length->e.kids.length-i<M->Cu N e.kids ds e.op e.num s (EM N n) M i ((e.kids.map kn).take i++e.kids.drop i)=some (e.kids.map kn):=by
   intro M i hi hM2;refine Bm e.kids.length (λM i=>Cu N e.kids ds e.op e.num s (EM N n) M i ((e.kids.map kn).take i++e.kids.drop i)=some (e.kids.map kn)) ?_ ?_ hi hM2
   ·intro m;rw[Cu,fr (by simp[AM]),List.drop_length,iK,gx (by simp)]
   ·intro m i hi qI;obtain⟨c,hc,mq⟩:=CE hi;have h1:=Ju mq;have hl:((e.kids.map kn).take i).length=i:=by simp;omega
    have lW:Sh.get ((e.kids.map kn).take i++e.kids.drop i) (i:Int)=some c:=by
     rw[OV,fw (by omega),hl,iS,gh,jJ,hc]
    have tX:Sh.put ((e.kids.map kn).take i++e.kids.drop i) (i:Int) (kn c)=(e.kids.map kn).take (i+1)++e.kids.drop (i+1):=by
     have hm:(e.kids.map kn)[i]?=some (kn c):=by rw[fg,hc];rfl
     rw[Oe,jo _ _ (by omega),hl,iS,drop_cons hc,jc,EP hm,jh];rfl
    have ru:∃sc,((
     if (decide (e.op=13))=true then
      some (decide ((i:Int)=1))
     else
      some false
    ).bind λt23=>
    if t23=true then
     some (Sh.w (s+1))
    else
     (
      if (decide (e.op=8))=true then
       some (decide (0<(i:Int)))
      else
       some false
     ).bind λt27=>
     if t27=true then
      (GY N ds e.num).bind λqg=>
      (Sh.get qg (Sh.w ((i:Int)-1))).bind λxn=>
      (Ds N ds xn).bind λpB=>
      some (Sh.w (s+(Sh.len pB)))
     else
      some s)=some sc:=by
     by_cases h13:e.op=13
     ·have h8:¬ e.op=8:=by omega
      rw[fq (by simpa using h13),fr (by simpa using h8)];simp only[fZ,fh,gM];split<;>exact⟨_,rfl⟩
     ·rw[fr (by simpa using h13)];simp only[fZ,fh,gM];by_cases h8:e.op=8/\0<i
      ·obtain⟨q,c',f,q1,q2,q3⟩:=hM.m1 h8.1 i h8.2 hi;rw[fq (by simpa using h8.1)];simp only[fZ];rw[fq (by simp;omega),q1];simp only[fZ];rw[BP (by omega) (by omega),show ((i:Int)-1)=((i-1:Nat):Int) by omega,BF q2];simp only[fZ];rw[q3];exact⟨_,rfl⟩
      ·by_cases h:e.op=8
       ·rw[fq (by simpa using h)];simp only[fZ];rw[fr (by simp;omega)];exact⟨_,rfl⟩
       ·rw[fr (by simpa using h)];exact⟨_,rfl⟩
    obtain⟨sc,ru⟩:=ru;rw[Cu,fq (by simp[AM];omega),ru];simp only[fZ];rw[lW];simp only[fZ];rw[ih c sc (by omega) (by omega) (hK.Jo mq) (hM.Jo mq)];simp only[fZ];rw[tX,BP (by omega) (by omega),show ((i:Int)+1)=((i+1:Nat):Int) by omega];exact qI
  have:=key N 0 (gK _) (by omega);rw[ij,iN,ir,lI]at this;rw[this];simp only[fZ];have rB:CG (e.kids.map kn)<=CG e.kids:=by rw[<- Qw];exact PB _
  rw[Ys (by omega) (λh=>by have:=hK.k2 h;simpa using this),QW];rfl
theorem S9 {N:Nat}(hN:2000000<=N){ds:List AN}{e:AG}{s:Int}(hs:en e<=500)(hK:KA e)(hM:MA N ds e):IW N e.kids ds e.op e.num s=some (kn e):=by
 unfold IW;exact UD hN N e s (by omega) hs hK hM
end RC
namespace RC
open Go
theorem XJ {N:Nat}(hN:2000000<=N):∀(n:Nat) (e:AG),en e<=n->en e<=1000->Aq e->Fo N n e 0 0=some e:=by
 intro n
 induction n with
 | zero=>intro e h;have:=Kf e;omega
 | succ n ih=>
  intro e hn hs hI;have hlen:=Hl e.kids;have he:=Ex e;obtain⟨n1,n2⟩:=hI.num;rw[Fo];unfold JY;have key:∀(M i:Nat),i<=e.kids.length->e.kids.length-i<M->D4 e 0 0 (Fo N n) M i (e.kids.take i)=some e.kids:=by
   intro M i hi hM;refine Bm e.kids.length (λM i=>D4 e 0 0 (Fo N n) M i (e.kids.take i)=some e.kids) ?_ ?_ hi hM
   ·intro m;rw[D4,fr (by simp[AM]),iR]
   ·intro m i hi qI;obtain⟨c,hc,mq⟩:=CE hi;have h1:=Ju mq;rw[D4,fq (by simp[AM];omega),BF hc];simp only[fZ];rw[ih c (by omega) (by omega) (hI.kids c mq)];simp only[fZ];rw[EC _ _ 40 (by simp;omega) (by simp;omega),BP (by omega) (by omega),show ((i:Int)+1)=((i+1:Nat):Int) by omega];simp only[fZ];rw[<- EP hc];exact qI
  have:=key N 0 (gK _) (by omega);rw[ij,lI]at this;rw[this,Int.add_zero,BP (by omega) (by omega)];have hn:((
   Option.bind (
    if (decide (e.op=12))=true then
     some (decide (0<=e.num))
    else
     some false
   ) λt25=>
   if t25=true then
    some e.num
   else
    some e.num
  ).bind λf3=>(some e.kids).bind λvO=>some (AG.mk e.op f3 vO))=some (AG.mk e.op e.num e.kids):=by
   by_cases h:e.op=12
   ·rw[fq (by simpa using h)];simp
   ·rw[fr (by simpa using h)];simp
  rw[hn,<- Nx]
theorem VF {N:Nat}(hN:2000000<=N){e:AG}(hs:en e<=1000)(hI:Aq e):H5 N e=some e:=by
 unfold H5 Mc;rw[XJ hN N e (by omega) hs hI];rfl
end RC
namespace RC
open Go
theorem RY {N:Nat}(hN:2000000<=N){p:AP}(hd:p.decls.length<=1048576)(hz :∀d∈p.decls,dz d<=1048576)(hf:p.funcs.length<=1048576)(hb :∀f∈p.funcs,f.params.length<=1048576/\en f.body<=1000/\Aq f.body):Gn N p=some p:=by
 unfold Gn;rw[UQ hd hz hN];simp only[fZ];have key:∀(M i:Nat),i<=p.funcs.length->p.funcs.length-i<M->DG N p M i (p.funcs.take i)=some p.funcs:=by
  intro M i hi hM;refine Bm p.funcs.length (λM i=>DG N p M i (p.funcs.take i)=some p.funcs) ?_ ?_ hi hM
  ·intro m;rw[DG,fr (by simp[AM]),iR]
  ·intro m i hi ih;obtain⟨f,pZ,hfm⟩:=CE hi;obtain⟨b1,b2,b3⟩:=hb f hfm;rw[DG,fq (by simp[AM];omega),BF pZ];simp only[fZ];have qY:CI f.params=some f.params:=by
    unfold CI;rw[EC _ _ _ (by simp;omega) (by simp;omega)];rfl
   rw[qY,VF hN b2 b3];simp only[fZ];rw[EC _ _ 72 (by simp;omega) (by simp;omega),BP (by omega) (by omega),show ((i:Int)+1)=((i+1:Nat):Int) by omega];simp only[fZ];have e:Ad.mk f.params f.result f.body=f:=by cases f;rfl
   rw[e,<- EP pZ];exact ih
 have:=key N 0 (gK _) (by omega);rw[ij,lI]at this;rw[this];cases p;rfl
end RC
namespace RC
open Go
def kf (f:Ad):Ad:=.mk f.params f.result (kn f.body)
structure KB (N:Nat) (ds:List AN) (f:Ad):Prop where
 par:f.params.length<=1048576
 small:en f.body<=30
 Ck:Aq f.body
 ka:KA f.body
 ma:MA N ds f.body
theorem U9 {N:Nat}(hN:2000000<=N){p:AP}(hf:p.funcs.length<=1048576)(hb :∀f∈p.funcs,KB N p.decls f):Da N p p N 0 p.funcs=some (Sum.inr (p.funcs.map kf)):=by
 have key:∀(M i:Nat),i<=p.funcs.length->p.funcs.length-i<M->Da N p p M i ((p.funcs.map kf).take i++p.funcs.drop i)=some (Sum.inr (p.funcs.map kf)):=by
  intro M i hi hM;refine Bm p.funcs.length (λM i=>Da N p p M i ((p.funcs.map kf).take i++p.funcs.drop i)=some (Sum.inr (p.funcs.map kf))) ?_ ?_ hi hM
  ·intro m;rw[Da,fr (by simp[AM]),List.drop_length,iK,gx (by simp)]
  ·intro m i hi ih;obtain⟨f,pZ,hfm⟩:=CE hi;have B:=hb f hfm;have hl:((p.funcs.map kf).take i).length=i:=by simp;omega
   have hm:(p.funcs.map kf)[i]?=some (kf f):=by rw[fg,pZ];rfl
   have lW:Sh.get ((p.funcs.map kf).take i++p.funcs.drop i) (i:Int)=some f:=by
    rw[OV,fw (by omega),hl,iS,gh,jJ,pZ]
   have tX:Sh.put ((p.funcs.map kf).take i++p.funcs.drop i) (i:Int) (kf f)=(p.funcs.map kf).take (i+1)++p.funcs.drop (i+1):=by
    rw[Oe,jo _ _ (by omega),hl,iS,drop_cons pZ,jc,EP hm,jh];rfl
   have vr:Sh.get ((p.funcs.map kf).take (i+1)++p.funcs.drop (i+1)) (i:Int)=some (kf f):=by
    rw[OV,ft (by simp;omega),gR,fq (by omega),hm]
   have hs:=B.small;have su:=Tv f.body;have hz:=Ex (kn f.body);rw[Da,fq (by simp[AM];omega),lW];simp only[fZ];rw[S9 hN (by omega) B.ka B.ma];simp only[fZ];rw[show Ad.mk f.params f.result (kn f.body)=kf f from rfl,tX,vr];simp only[fZ];rw[show (kf f).body=kn f.body from rfl,I4 (by omega) hN,fq (by omega)];simp only[fZ];rw[fr (by simp),BP (by omega) (by omega),show ((i:Int)+1)=((i+1:Nat):Int) by omega];exact ih
 have:=key N 0 (gK _) (by omega);rwa [ij,iN,ir,lI]at this
theorem VG {N:Nat}(hN:2000000<=N){p:AP}(hd:p.decls.length<=1048576)(hz :∀d∈p.decls,dz d<=1048576)(hf:p.funcs.length<=1048576)(hb :∀f∈p.funcs,KB N p.decls f):H8 N p=some (.mk p.decls (p.funcs.map kf),true):=by
 unfold H8;rw[RY hN hd hz hf λf h=>⟨(hb f h).par,by have:=(hb f h).small;omega,(hb f h).Ck⟩];simp only[fZ];rw[U9 hN hf hb];rfl
end RC
namespace RC
open Go
theorem YI {N:Nat}(hN:2000000<=N){p:AP}(hf:p.funcs.length<=1048576)(hb :∀f∈p.funcs,KB N p.decls f):DO N p N 0 []=some (p.funcs.map λf=>kn f.body):=by
 have key:∀(M i:Nat),i<=p.funcs.length->p.funcs.length-i<M->DO N p M i ((p.funcs.map λf=>kn f.body).take i)=some (p.funcs.map λf=>kn f.body):=by
  intro M i hi hM;refine Bm p.funcs.length (λM i=>DO N p M i ((p.funcs.map λf=>kn f.body).take i)=some (p.funcs.map λf=>kn f.body)) ?_ ?_ hi hM
  ·intro m;rw[DO,fr (by simp[AM]),gx (by simp)]
  ·intro m i hi ih;obtain⟨f,pZ,hfm⟩:=CE hi;have B:=hb f hfm;have hs:=B.small;have hm:(p.funcs.map λf=>kn f.body)[i]?=some (kn f.body):=by rw[fg,pZ];rfl
   rw[DO,fq (by simp[AM];omega),BF pZ];simp only[fZ];rw[Zy hN (by omega) B.ka];simp only[fZ];rw[EC _ _ 40 (by simp;omega) (by simp;omega),BP (by omega) (by omega),show ((i:Int)+1)=((i+1:Nat):Int) by omega];simp only[fZ];rw[<- EP hm];exact ih
 have:=key N 0 (gK _) (by omega);rwa [ij,lI]at this
theorem Tr {N:Nat}(hN:2000000<=N){p:AP}(hd:p.decls.length<=1048576)(hz :∀d∈p.decls,dz d<=1048576)(hf:p.funcs.length<=1048576)(hb :∀f∈p.funcs,KB N p.decls f):HZ N p (p.funcs.map λf=>kn f.body)=some (.mk p.decls (p.funcs.map kf),true):=by
 unfold HZ;rw[VL hd hz hN];simp only[fZ];have key:∀(M i:Nat),i<=p.funcs.length->p.funcs.length-i<M->Di N p (p.funcs.map λf=>kn f.body) M i ((p.funcs.map kf).take i)=some (Sum.inr (p.funcs.map kf)):=by
  intro M i hi hM;refine Bm p.funcs.length (λM i=>Di N p (p.funcs.map λf=>kn f.body) M i ((p.funcs.map kf).take i)=some (Sum.inr (p.funcs.map kf))) ?_ ?_ hi hM
  ·intro m;rw[Di,fr (by simp[AM]),gx (by simp)]
  ·intro m i hi ih;obtain⟨f,pZ,hfm⟩:=CE hi;have B:=hb f hfm;have hs:=B.small;have su:=Tv f.body;have hze:=Ex (kn f.body);have se:(p.funcs.map λf=>kn f.body)[i]?=some (kn f.body):=by rw[fg,pZ];rfl
   have hm:(p.funcs.map kf)[i]?=some (kf f):=by rw[fg,pZ];rfl
   rw[Di,fq (by simp[AM];omega),BF se];simp only[fZ];rw[Gk (by omega) hN,fq (by omega)];simp only[fZ];rw[fr (by simp),BF pZ];simp only[fZ];have hbp:=B.par;have hci:FB f.params=some f.params:=by
    unfold FB;rw[EC _ _ _ (by simp;omega) (by simp;omega)];rfl
   rw[hci,VA hN (by omega)];simp only[fZ];rw[EC _ _ 72 (by simp;omega) (by simp;omega),BP (by omega) (by omega),show ((i:Int)+1)=((i+1:Nat):Int) by omega];simp only[fZ];rw[show Ad.mk f.params f.result (kn f.body)=kf f from rfl,<- EP hm];exact ih
 have:=key N 0 (gK _) (by omega);rw[ij,lI]at this;rw[this];rfl
end RC
namespace RC
open Go
end RC
namespace RC
open Go
theorem ZE:∀{l:List AG},(∀e∈l,KA e)->Zj l
 | [],_=>trivial
 | a::l,h=>by unfold Zj;exact⟨h a (by simp),ZE λe he=>h e (by simp[he])⟩
theorem eH {e:AG}(h1:K2 e)(h2 :∀k∈e.kids,KA k):KA e:=by
 cases e;unfold KA;exact⟨h1,ZE h2⟩
theorem Y8 {N:Nat}{ds:List AN}:∀{l:List AG},(∀e∈l,MA N ds e)->Zg N ds l
 | [],_=>trivial
 | a::l,h=>by unfold Zg;exact⟨h a (by simp),Y8 λe he=>h e (by simp[he])⟩
theorem eG {N:Nat}{ds:List AN}{e:AG}(h1:M1 N ds e)(h2 :∀k∈e.kids,MA N ds k):MA N ds e:=by
 cases e;unfold MA;exact⟨h1,Y8 h2⟩
section
variable {p : AP} {R1 : AP -> List Int -> AG -> Option Int} {R2 : List Int -> BL -> AG -> Option Int} {T : List Int -> AG -> Int} {e : AG} {v : List Int} {N : Nat}
theorem dQ {t:Int}(hB:Bg N R1 p v e=some t)(ht:t≠-1):K2 e:=by
 intro h;by_cases hl:e.kids.length=2
 ·omega
 ·exfalso;apply ht;have oa:¬ ((e.kids.length:Int)=2):=by omega
  unfold Bg at hB;simp only[h,Int.reduceEq,gH,gF,fh,gb,gM,fZ,AM,oa]at hB;by_cases c2:e.num=0<;>simp[c2,Sh.cont]at hB<;>exact hB.symm
theorem dh (V:Hi p e v)(S:FE p.decls p.funcs)(hN:2000000<=N){t:Int}(hB:Ak N R2 v (Ee p) e=some t)(ht:t≠-1):M1 N p.decls e:=by
 intro h8;have ot:=V.Ks;have hD:=S.MU;have hn:=S.nc;have rj:=Lc S.Sj e.num;unfold Ak at hB;simp only[h8,Int.reduceEq,gH,gF,fh,gb,gM]at hB;have sx:GY N p.decls e.num=some (CN p.decls e.num):=H7 (by omega) (by omega) hN;rw[show (Ee p).decls=p.decls from rfl,sx]at hB;simp only[fZ]at hB;generalize sI:CN p.decls e.num=C at rj hB sx;rw[AM C,AM e.kids,BP (n:=1+(C.length:Int)) (by omega) (by omega)]at hB;by_cases h0:C.length=0
 ·simp[h0]at hB;exact absurd hB.symm ht
 ·have lv:¬ C=[]:=λq=>h0 (by rw[q];rfl);by_cases h1:e.kids.length=1+C.length
  ·intro t h2 h3;obtain⟨c,hc,mq⟩:=CE (l:=C) (i:=t-1) (by omega);have F:=PO S (sI▸mq) hN;exact⟨C,c,_,sx,hc,F.2.1⟩
  ·have nY:¬ ((e.kids.length:Int)=1+(C.length:Int)):=by omega
   simp[lv,nY]at hB;exact absurd hB.symm ht
end
theorem dw {p:AP}(S:FE p.decls p.funcs){N:Nat}(hN:2000000<=N){T:List Int->AG->Int}(hT:TT p N T):∀(n:Nat) (e:AG) (v:List Int),en e<=n->n<=30->Hi p e v->T v e≠-1->KA e/\MA N p.decls e:=by
 intro n
 induction n with
 | zero=>intro e _ h;have:=Kf e;omega
 | succ n ih=>
  intro e v he hn V ht;have H:Jn p (Ee p) (Cf N 31) (BY N 31) T (en e):=λv e a b c d=>hT v e a (by omega) c d 31 31 (gA _) (gA _);obtain⟨q1,q2,_⟩:=hT v e V.Ck (by omega) V.len V.I5 32 32 (by omega) (by omega);rw[Cf]at q1;rw[BY]at q2;have K:∀k∈e.kids,KA k/\MA N p.decls k:=λk hk=>by
   have sH:=DY hk;obtain⟨m,m1,m2,m3⟩:=aU H V S hN q2 ht k hk;exact ih k (v++m) (by omega) (by omega) ⟨V.more hk m1,V.UT m2,by omega,V.Ck.kids k hk⟩ m3
  exact⟨eH (dQ q1 ht) λk hk=>(K k hk).1,eG (dh V S hN q2 ht) λk hk=>(K k hk).2⟩
theorem XW {p:AP}(S:Ed p){N:Nat}(hN:2000000<=N)(hv:Bn N p=some true):FE p.decls p.funcs/\∃T,TT p N T/\∀f∈p.funcs,en f.body<=30/\Hi p f.body f.params/\Dj p.decls f.result=true/\T f.params f.body=f.result:=by
 obtain⟨b,h1,_,h3⟩:=JZ S hN;rw[hv]at h1;cases h1;obtain⟨SO,wU⟩:=h3 rfl;obtain⟨T,hT⟩:=PU SO hN 31;have hl:=S.Ih;refine⟨SO,T,hT,λf hf=>?_⟩;obtain⟨q1,q2,q3⟩:=SO.OE f hf;have he:=wU f hf;have V:Hi p f.body f.params:=⟨by omega,q2,by omega,(S.fin hf).body⟩
 have L1:=E8 (l:=p.funcs) (CB N p) (λ_ f=>Hv p T f) (λn=>by rw[CB,fr (by simp[AM])]) (λn i f hi=>by
  have nQ:=(fe.1 hi).1;have hf:=fc hi;obtain⟨q1,q2,q3⟩:=SO.OE f hf;have he:=wU f hf;have ty:J4 N p f.params f.body=some (T f.params f.body):=(hT f.params f.body (S.fin hf).body (by omega) (by omega) q2 N N (by omega) (by omega)).1;rw[CB,fq (by simp[AM];omega),BF hi];simp only[fZ];rw[Gk (S.fz hf).2 hN,BP (by omega) (by omega),show ((i:Int)+1)=((i+1:Nat):Int) by omega];simp only[fZ];unfold Hv;rw[fq he,fr (by simp),ty];by_cases hr:T f.params f.body=f.result<;>simp[he,hr]) (by omega:p.funcs.length<N)
 rw[Fv]at L1;have hs:p.funcs.all (Hv p T)=true:=by
  unfold Bn at hv;rw[Np S hN]at hv;simp only[fZ]at hv;cases py:Lh p with
  | false=>rw[py]at hv;simp at hv
  | true=>
   rw[py]at hv;simp only[iA,fh,gM]at hv;rw[L1,E9]at hv;cases hb:p.funcs.all (Hv p T) with
   | true=>rfl
   | false=>rw[hb]at hv;simp at hv
 have hb:=fk.1 hs f hf;unfold Hv at hb;simp only[gN,fy]at hb;exact⟨he,V,q3,hb.2⟩
theorem Vb {p:AP}(S:Ed p){N:Nat}(hN:2000000<=N)(hv:Bn N p=some true):∀f∈p.funcs,KB N p.decls f:=by
 intro f hf;obtain⟨SO,T,hT,h⟩:=XW S hN hv;obtain⟨he,V,ty,hb⟩:=h f hf;obtain⟨k1,k2⟩:=dw SO hN hT 30 f.body f.params he (gA _) V (by rw[hb];have:=(Kc ty).1;omega);exact⟨(S.fz hf).1,he,(S.fin hf).body,k1,k2⟩
end RC
namespace RC
open Go
end RC
namespace RC
open Go
end RC
namespace RC
open Go
section
variable {p : AP} {R1 : AP -> List Int -> AG -> Option Int} {R2 : List Int -> BL -> AG -> Option Int} {T : List Int -> AG -> Int} {e : AG} {v : List Int} {N : Nat}
theorem XB (H:Jn p (Ee p) R1 R2 T (en e))(V:Hi p e v)(h:e.op=13){a b:AG}(hk:e.kids=[a,b])(hn:e.num=0)(ha:T v a≠-1):
  Ak N R2 v (Ee p) e=some (T (v++[T v a]) b)/\Dj p.decls (T v a)=true:=by
 have hv:v.length<=1000:=by have:=V.len;omega
 have mM:a∈e.kids:=by rw[hk];simp
 have ny:b∈e.kids:=by rw[hk];simp
 obtain⟨a1,a2,a3⟩:=H v a (V.Ck.kids a mM) (DY mM) (V.Jo mM) V.I5;have qS:Dj p.decls (T v a)=true:=a3.resolve_left ha;have h0:¬ T v a<0:=by have:=(Kc qS).1;omega
 have g0:Sh.get e.kids 0=some a:=by rw[hk];rfl
 have g1:Sh.get e.kids 1=some b:=by rw[hk];rfl
 obtain⟨b1,b2,b3⟩:=H (v++[T v a]) b (V.Ck.kids b ny) (DY ny) (V.more ny (by simp)) (V.UT (by simp[qS]));refine⟨?_,qS⟩;unfold Ak;simp only[h,Int.reduceEq,gH,gF,fh,gb,gM];rw[g0,g1];have hl:((e.kids.length:Int)=2):=by rw[hk];rfl
 simp only[fZ,AM,hl,hn,gH,iA,fh,gM];rw[a2];simp only[fZ,h0,gF,fh,gM];rw[EC v [T v a] 8 (by simp;omega) (by simp;omega)];simp only[fZ,b2]
theorem W0 (H:Jn p (Ee p) R1 R2 T (en e))(V:Hi p e v)(h:e.op=13){t:Int}(hB:Ak N R2 v (Ee p) e=some t)(ht:t≠-1):
  ∃a b,e.kids=[a,b]/\e.num=0/\T v a≠-1/\Dj p.decls (T v a)=true/\t=T (v++[T v a]) b:=by
 have vt:=hB;unfold Ak at hB;simp only[h,Int.reduceEq,gH,gF,fh,gb,gM]at hB;by_cases hl:e.kids.length=2
 ·obtain⟨a,b,hk⟩ :∃a b,e.kids=[a,b]:=by
   match hk:e.kids,hl with
   | [a,b],_=>exact⟨a,b,rfl⟩
  have mM:a∈e.kids:=by rw[hk];simp
  obtain⟨a1,a2,a3⟩:=H v a (V.Ck.kids a mM) (DY mM) (V.Jo mM) V.I5;by_cases hn:e.num=0
  ·by_cases ha:T v a=-1
   ·exfalso;have g0:Sh.get e.kids 0=some a:=by rw[hk];rfl
    rw[g0]at hB;simp only[fZ,AM,hl]at hB;rw[a2]at hB;simp[hn,ha]at hB;exact ht hB.symm
   ·obtain⟨q1,q2⟩:=XB (N:=N) H V h hk hn ha;rw[vt]at q1;exact⟨a,b,hk,hn,ha,q2,by simpa using q1⟩
  ·simp[hn]at hB;exact absurd hB.symm ht
 ·have:¬ ((e.kids.length:Int)=2):=by omega
  simp[AM,this]at hB;exact absurd hB.symm ht
theorem ZG (H:Jn p (Ee p) R1 R2 T (en e))(V:Hi p e v)(hN:2000000<=N)(h:e.op=7){a b c:AG}(hk:e.kids=[a,b,c])(hn:e.num=0)(ha:T v a=0):
  Ak N R2 v (Ee p) e=some (Kh [T v b,T v c]):=by
 have mM:a∈e.kids:=by rw[hk];simp
 have ny:b∈e.kids:=by rw[hk];simp
 have vm:c∈e.kids:=by rw[hk];simp
 obtain⟨a1,a2,a3⟩:=H v a (V.Ck.kids a mM) (DY mM) (V.Jo mM) V.I5;have hl:((e.kids.length:Int)=3):=by rw[hk];rfl
 have g0:Sh.get e.kids 0=some a:=by rw[hk];rfl
 have g3:Sh.sl e.kids 1 3=some [b,c]:=by rw[hk];rfl
 have o:=Ji (ks:=[b,c]) (ms:=[[],[]]) H V hN (by intro k hk;simp only[fu,gT,iB]at hk;rcases hk with rfl|rfl<;>assumption) (by simp) rfl (by simp);have vn:Sh.mk ([]:List Int) 2 24=some [[],[]]:=Ol [] 2 24 (by omega) (by omega);unfold Ak;simp only[h,Int.reduceEq,gH,gF,fh,gb,gM];rw[g0];simp only[fZ,AM,hl];rw[a2,g3,vn];simp only[fZ];rw[o];simp[hn,ha]
theorem Yz (H:Jn p (Ee p) R1 R2 T (en e))(V:Hi p e v)(hN:2000000<=N)(h:e.op=7){t:Int}(hB:Ak N R2 v (Ee p) e=some t)(ht:t≠-1):
  ∃a b c,e.kids=[a,b,c]/\e.num=0/\T v a=0/\t=T v b/\t=T v c:=by
 have vt:=hB;unfold Ak at hB;simp only[h,Int.reduceEq,gH,gF,fh,gb,gM]at hB;by_cases hl:e.kids.length=3
 ·obtain⟨a,b,c,hk⟩ :∃a b c,e.kids=[a,b,c]:=by
   match hk:e.kids,hl with
   | [a,b,c],_=>exact⟨a,b,c,rfl⟩
  have mM:a∈e.kids:=by rw[hk];simp
  obtain⟨a1,a2,a3⟩:=H v a (V.Ck.kids a mM) (DY mM) (V.Jo mM) V.I5;by_cases hn:e.num=0
  ·by_cases ha:T v a=0
   ·have q:=ZG H V hN h hk hn ha;rw[vt]at q;have q:t=Kh [T v b,T v c]:=by simpa using q
    have qA:=Rp (l:=[T v b,T v c]) (by rw[<- q];exact ht);rw[Rr]at q;by_cases hcb:T v c=T v b
    ·rw[fq hcb]at q;exact⟨a,b,c,hk,hn,ha,q,by rw[hcb];exact q⟩
    ·rw[fr hcb]at q;exact absurd q ht
   ·exfalso;have g0:Sh.get e.kids 0=some a:=by rw[hk];rfl
    rw[g0]at hB;simp only[fZ,AM,hl]at hB;rw[a2]at hB;simp[hn,ha]at hB;exact ht hB.symm
  ·simp[hn]at hB;exact absurd hB.symm ht
 ·have:¬ ((e.kids.length:Int)=3):=by omega
  simp[AM,this]at hB;exact absurd hB.symm ht
def Wy (D:List AN)(T:List Int->AG->Int)(v C:List Int)(r:List AG):List Int:=List.zipWith (λm k=>T (v++m) k) (C.map (Fu D)) r
theorem Te (H:Jn p (Ee p) R1 R2 T (en e))(V:Hi p e v)(S:FE p.decls p.funcs)(hN:2000000<=N)(h8:e.op=8){a:AG}{r:List AG}(nZ:e.kids=a::r)(h0:CN p.decls e.num≠[])(pJ:r.length=(CN p.decls e.num).length)(rT:T v a=e.num):
  Ak N R2 v (Ee p) e=some (Kh (Wy p.decls T v (CN p.decls e.num) r)):=by
 have ot:=V.Ks;have hD:=S.MU;have hn:=S.nc;have rj:=Lc S.Sj e.num;unfold Ak;simp only[h8,Int.reduceEq,gH,gF,fh,gb,gM];rw[show (Ee p).decls=p.decls from rfl,H7 (by omega) (by omega) hN];simp only[fZ];generalize sI:CN p.decls e.num=C at *;have rS:∀c∈C,Bs N p.decls c=some (Fu p.decls c)/\Ds N p.decls c=some (Fu p.decls c)/\(Fu p.decls c).length<=3/\∀x∈Fu p.decls c,Dj p.decls x=true:=λc hc=>PO S (sI▸hc) hN;have h1:e.kids.length=1+C.length:=by rw[nZ];simp;omega
 have nY:((e.kids.length:Int)=1+(C.length:Int)):=by omega
 have mM:a∈e.kids:=by rw[nZ];simp
 have sb:∀k∈r,k∈e.kids:=λk hk=>by rw[nZ];simp[hk]
 obtain⟨a1,a2,a3⟩:=H v a (V.Ck.kids a mM) (DY mM) (V.Jo mM) V.I5;have g0:Sh.get e.kids 0=some a:=by rw[nZ];rfl
 have g3:Sh.sl e.kids 1 (e.kids.length:Int)=some r:=by
  unfold Sh.sl;rw[fq ⟨by omega,by omega,by omega⟩,nZ];simp
 have vo:Sh.mk ([]:List Int) (C.length:Int) 24=some (List.replicate C.length []):=Ol [] C.length 24 (by omega) (by omega);have o:=Ji (ks:=r) (ms:=C.map (Fu p.decls)) H V hN sb (by omega) (by simp[pJ]) (by
  intro m hm;obtain⟨c,hc,rfl⟩:=gC.1 hm;exact (rS c hc).2.2)
 have FL:=Nw (p:=p) S hN rj λc hc=>(rS c hc).2.1;rw[AM C,AM e.kids,BP (n:=1+(C.length:Int)) (by omega) (by omega),g0,g3,vo];simp only[fZ];rw[a2,FL];simp only[fZ];rw[o];simp[h0,nY,rT,Wy]
theorem UI (H:Jn p (Ee p) R1 R2 T (en e))(V:Hi p e v)(S:FE p.decls p.funcs)(hN:2000000<=N)(h8:e.op=8){t:Int}(hB:Ak N R2 v (Ee p) e=some t)(ht:t≠-1):
  ∃a r,e.kids=a::r/\CN p.decls e.num≠[]/\r.length=(CN p.decls e.num).length/\T v a=e.num/\t=Kh (Wy p.decls T v (CN p.decls e.num) r):=by
 have vt:=hB;have ot:=V.Ks;have hD:=S.MU;have hn:=S.nc;have rj:=Lc S.Sj e.num;unfold Ak at hB;simp only[h8,Int.reduceEq,gH,gF,fh,gb,gM]at hB;rw[show (Ee p).decls=p.decls from rfl,H7 (by omega) (by omega) hN]at hB;simp only[fZ]at hB;have mv:=λa r=>Te (a:=a) (r:=r) H V S hN h8;rw[AM (CN p.decls e.num),AM e.kids,BP (n:=1+((CN p.decls e.num).length:Int)) (by omega) (by omega)]at hB;by_cases h0:(CN p.decls e.num)=[]
 ·simp[h0]at hB;exact absurd hB.symm ht
 ·have pN:¬ (((CN p.decls e.num).length:Int)=0):=by
   intro q;exact h0 (gY (by omega))
  by_cases h1:e.kids.length=1+(CN p.decls e.num).length
  ·have nY:((e.kids.length:Int)=1+((CN p.decls e.num).length:Int)):=by omega
   obtain⟨a,r,nZ⟩ :∃a r,e.kids=a::r:=by
    cases hq:e.kids with
    | nil=>rw[hq]at h1;simp at h1;omega
    | cons a r=>exact⟨a,r,rfl⟩
   have pJ:r.length=(CN p.decls e.num).length:=by rw[nZ]at h1;simp at h1;omega
   have mM:a∈e.kids:=by rw[nZ];simp
   obtain⟨a1,a2,a3⟩:=H v a (V.Ck.kids a mM) (DY mM) (V.Jo mM) V.I5;by_cases rT:T v a=e.num
   ·have q:=mv a r nZ h0 pJ rT;rw[vt]at q;exact⟨a,r,nZ,h0,pJ,rT,by simpa using q⟩
   ·exfalso;have g0:Sh.get e.kids 0=some a:=by rw[nZ];rfl
    rw[g0]at hB;simp only[fZ]at hB;rw[a2]at hB;simp[h0,nY,rT]at hB;exact ht hB.symm
  ·have nY:¬ ((e.kids.length:Int)=1+((CN p.decls e.num).length:Int)):=by omega
   simp[h0,nY]at hB;exact absurd hB.symm ht
theorem Vq {l:List Int}{t:Int}(h:t=Kh l)(ht:t≠-1):∀x∈l,x=t:=by
 cases l with
 | nil=>intro x hx;cases hx
 | cons a r=>
  simp only[Kh]at h;by_cases hr:r.all (λx=>decide (x=a))=true
  ·rw[fq hr]at h;intro x hx;rcases fu.1 hx with rfl|hx
   ·exact h.symm
   ·have:=fk.1 hr x hx;simp only[fy]at this;rw[this,h]
  ·rw[fr hr]at h;exact absurd h ht
def NA (D:List AN)(o nu:Int)(i:Nat):Nat:=if o=13/\i=1 then 1 else if o=8/\0<i then (Fu D (((CN D nu)[i-1]?).getD 0)).length else 0
theorem V5 {e':AG}{v':List Int}(H:Jn p (Ee p) R1 R2 T (en e))(H':Jn p (Ee p) R1 R2 T (en e'))(V:Hi p e v)(V':Hi p e' v')(S:FE p.decls p.funcs)(hN:2000000<=N){t:Int}(hB:Ak N R2 v (Ee p) e=some t)(ht:t≠-1)
  (ho:e'.op=e.op) (hn:e'.num=e.num) (qT:e.op≠12) (hl:e'.kids.length=e.kids.length)
  (hf :∀(i:Nat) k k',e.kids[i]?=some k->e'.kids[i]?=some k'->∀m:List Int,m.length=NA p.decls e.op e.num i->m.length<=3->(∀x∈m,Dj p.decls x=true)->T (v++m) k≠-1->T (v'++m) k'=T (v++m) k) :
  Ak N R2 v' (Ee p) e'=some t:=by
 have sJ:∀(i:Nat) k k',e.kids[i]?=some k->e'.kids[i]?=some k'->NA p.decls e.op e.num i=0->T v k≠-1->T v' k'=T v k:=λi k k' hk ng hx h=>by
  have:=hf i k k' hk ng [] (by rw[hx];rfl) (by simp) (λx hx=>(by cases hx)) (by simpa using h);simpa using this
 by_cases h13:e.op=13
 ·obtain⟨a,b,q1,q2,q3,q4,q5⟩:=W0 H V h13 hB ht;obtain⟨a',b',ng⟩ :∃a' b',e'.kids=[a',b']:=by
   match hq:e'.kids,hl with
   | [a',b'],_=>exact⟨a',b',rfl⟩
   | [],hl=>rw[q1]at hl;simp at hl
   | [_],hl=>rw[q1]at hl;simp at hl
   | _::_::_::_,hl=>rw[q1]at hl;simp at hl
  have e1:=sJ 0 a a' (by rw[q1];rfl) (by rw[ng];rfl) (by simp[NA,h13]) q3;have e2:=hf 1 b b' (by rw[q1];rfl) (by rw[ng];rfl) [T v a] (by simp[NA,h13]) (by simp) (by simp[q4]) (by rw[<- q5];exact ht);have:=(XB (N:=N) H' V' (by rw[ho];exact h13) ng (by rw[hn];exact q2) (by rw[e1];exact q3)).1;rw[this,e1,e2,<- q5]
 by_cases h7:e.op=7
 ·obtain⟨a,b,c,q1,q2,q3,q4,q5⟩:=Yz H V hN h7 hB ht;obtain⟨a',b',c',ng⟩ :∃a' b' c',e'.kids=[a',b',c']:=by
   match hq:e'.kids,hl with
   | [a',b',c'],_=>exact⟨a',b',c',rfl⟩
   | [],hl=>rw[q1]at hl;simp at hl
   | [_],hl=>rw[q1]at hl;simp at hl
   | [_,_],hl=>rw[q1]at hl;simp at hl
   | _::_::_::_::_,hl=>rw[q1]at hl;simp at hl
  have hx:∀i,NA p.decls e.op e.num i=0:=λi=>by simp[NA,h7]
  have e1:=sJ 0 a a' (by rw[q1];rfl) (by rw[ng];rfl) (hx _) (by rw[q3];omega);have e2:=sJ 1 b b' (by rw[q1];rfl) (by rw[ng];rfl) (hx _) (by rw[<- q4];exact ht);have e3:=sJ 2 c c' (by rw[q1];rfl) (by rw[ng];rfl) (hx _) (by rw[<- q5];exact ht);have:=ZG H' V' hN (by rw[ho];exact h7) ng (by rw[hn];exact q2) (by rw[e1];exact q3);rw[this,e2,e3,<- q4,<- q5,Rr,fq rfl]
 by_cases h8:e.op=8
 ·obtain⟨a,r,q1,q2,q3,q4,q5⟩:=UI H V S hN h8 hB ht;have tY:e.num≠-1:=λq=>q2 (by rw[q];simp[CN]);obtain⟨a',r',ng⟩ :∃a' r',e'.kids=a'::r':=by
   match hq:e'.kids,hl with
   | a'::r',_=>exact⟨a',r',rfl⟩
   | [],hl=>rw[q1]at hl;simp at hl
  have pJ:r'.length=r.length:=by rw[ng,q1]at hl;simpa using hl
  have e1:=sJ 0 a a' (by rw[q1];rfl) (by rw[ng];rfl) (by simp[NA,h8]) (by rw[q4];exact tY);have:=Te H' V' S hN (by rw[ho];exact h8) ng (by rw[hn];exact q2) (by rw[hn,pJ];exact q3) (by rw[hn,e1];exact q4);rw[this,hn,q5];have al:=Vq q5 ht;congr 2;unfold Wy at al⊢;apply iu;intro i;rw[iV,iV,fg];cases hc:(CN p.decls e.num)[i]? with
  | none=>rfl
  | some c=>
   cases hr:r[i]? with
   | none=>
    have:r'[i]?=none:=by rw[jC]at hr⊢;omega
    rw[this];rfl
   | some k=>
    have nQ:=(fe.1 hr).1;have mc:r'[i]?=some r'[i]:=fm (by omega);have mq:=fc hc;have F:=PO S mq hN;have:=al (T (v++Fu p.decls c) k) (gG.2 ⟨i,by rw[iV,fg,hc,hr];rfl⟩);have g:=hf (i+1) k r'[i] (by rw[q1];exact hr) (by rw[ng];exact mc) (Fu p.decls c) (by simp[NA,h8,hc]) F.2.2.1 F.2.2.2 (by rw[this];exact ht);rw[mc];show some (T (v'++Fu p.decls c) r'[i])=some (T (v++Fu p.decls c) k);rw[g]
 have hb:=hB;rw[FI H V hN qT h13 h7 h8]at hb;rw[FI H' V' hN (by rw[ho];exact qT) (by rw[ho];exact h13) (by rw[ho];exact h7) (by rw[ho];exact h8),ho,hn];have:e'.kids.map (T v')=e.kids.map (T v):=by
  apply iu;intro i;rw[fg,fg];cases hk:e.kids[i]? with
  | none=>
   have:e'.kids[i]?=none:=by rw[jC]at hk⊢;omega
   rw[this];rfl
  | some k=>
   have nQ:=(fe.1 hk).1;have ng:e'.kids[i]?=some e'.kids[i]:=fm (by omega);rw[ng];have:=sJ i k _ hk ng (by simp[NA,h13,h8]) λq=>by
    rw[fq (jF.2 ⟨T v k,jU (fc hk),by rw[q];rfl⟩)]at hb;simp at hb;exact ht hb.symm
   show some (T v' e'.kids[i])=some (T v k);rw[this]
 rw[this];exact hb
end
end RC
namespace RC
open Go
structure VX (p:AP) (e:AG) (v:List Int):Prop where
 len:v.length+3*en e<=900
 I5 :∀x∈v,Dj p.decls x=true
 Ck:Aq e
theorem VX.VQ {p:AP}{e:AG}{v:List Int}(V:VX p e v):Hi p e v:=⟨by have:=V.len;omega,V.I5,by have:=V.len;omega,V.Ck⟩
def TX (p:AP)(N:Nat)(T:List Int->AG->Int):Prop:=∀(v:List Int) (e:AG),Aq e->en e<340->v.length+3*en e<=1000->(∀x∈v,Dj p.decls x=true)->
  ∀n1 n2,340<=n1->340<=n2->Cf N n1 p v e=some (T v e)/\BY N n2 v (Ee p) e=some (T v e)/\(T v e=-1∨Dj p.decls (T v e)=true)
section
variable {p : AP} {N : Nat} {T : List Int -> AG -> Int} {e : AG} {v : List Int}
theorem TX.tok (hT:TX p N T){m:Nat}(hm:m<=340):Jn p (Ee p) (Cf N 340) (BY N 340) T m:=λv e a b c d=>hT v e a (by omega) c d 340 340 (gA _) (gA _)
theorem TX.bi (hT:TX p N T)(V:VX p e v):Ak N (BY N 340) v (Ee p) e=some (T v e):=by
 have h:=V.len;have:=(hT v e V.Ck (by omega) (by omega) V.I5 341 341 (by omega) (by omega)).2.1;rwa [BY]at this
theorem TX.bs (hT:TX p N T)(V:VX p e v):Bg N (Cf N 340) p v e=some (T v e):=by
 have h:=V.len;have:=(hT v e V.Ck (by omega) (by omega) V.I5 341 341 (by omega) (by omega)).1;rwa [Cf]at this
theorem TX.H (hT:TX p N T)(V:VX p e v):Jn p (Ee p) (Cf N 340) (BY N 340) T (en e):=hT.tok (by have:=V.len;omega)
theorem VX.Jo (V:VX p e v){k:AG}(hk:k∈e.kids){m:List Int}(hm:m.length<=3)(ht :∀x∈m,Dj p.decls x=true):VX p k (v++m):=by
 have h:=V.len;have sH:=DY hk;refine⟨by rw[gV];omega,λx hx=>?_,V.Ck.kids k hk⟩;rcases gS.1 hx with hx|hx
 ·exact V.I5 x hx
 ·exact ht x hx
theorem VX.eU (V:VX p e v){k:AG}(hk:k∈e.kids):VX p k v:=by
 have:=V.Jo hk (m:=[]) (by simp) (λx hx=>by cases hx);simpa using this
theorem TX.var (hT:TX p N T)(V:VX p e v)(h:e.op=12):T v e=if e.kids=[]/\0<=e.num/\e.num<(v.length:Int) then (v[e.num.toNat]?).getD (-1) else -1:=by
 have q:=hT.bi V;unfold Ak at q;simp only[h,gH,gb]at q;by_cases hk:e.kids=[]
 ·rw[hk]at q⊢;by_cases h0:e.num<0
  ·have:¬ (0<=e.num):=by omega
   simp[AM,h0]at q;simp[this,<- q]
  ·by_cases h1:(v.length:Int)<=e.num
   ·have:¬ (e.num<(v.length:Int)):=by omega
    simp[AM,h0,h1]at q;simp[this,<- q]
   ·obtain⟨x,hx1,qx⟩:=Om (l:=v) (j:=e.num) (by omega) (by omega);have a1:0<=e.num:=by omega
    have a2:e.num<(v.length:Int):=by omega
    simp only[AM,iM,h0,h1,gF,fh,gM,fZ]at q;rw[hx1]at q;rw[fq ⟨rfl,a1,a2⟩,qx];simpa using q.symm
 ·have:0<Sh.len e.kids:=by rw[AM];have:=jv.2 hk;omega
  simp only[this,gH,gb,fZ,ff]at q;simp[hk,<- q]
end
mutual
def sh (n k:Int):AG->AG|.mk o nu ks=>.mk o (if o=12/\n<=nu then nu+k else nu) (shl n k ks)
def shl (n k:Int):List AG->List AG|[]=>[]|e::l=>sh n k e::shl n k l
end
section
variable {p : AP} {N : Nat} {T : List Int -> AG -> Int}
def lt (n:Nat):Nat->List AG->AG->AG
 | _,[],b=>b
 | k,x::r,b=>.mk 13 0 [sh n k x,lt n (k+1) r b]
end
end RC
namespace RC
end RC
namespace RC
end RC
namespace RC
open Go
def ci (D:List AN)(t c:Int):Nat:=(c-(nc (D.take (t-1).toNat):Int)).toNat
section
variable {p : AP} {N : Nat} {T : List Int -> AG -> Int} {e : AG} {v : List Int}
end
end RC
namespace RC
open Go
section
variable {p : AP} {N : Nat} {T : List Int -> AG -> Int}
theorem ba (S:FE p.decls p.funcs)(hN:2000000<=N)(hT:TX p N T){e:AG}{v:List Int}(V:VX p e v)(ht:T v e≠-1){i:Nat}{k:AG}(hk:e.kids[i]?=some k):
  ∃m:List Int,m.length=NA p.decls e.op e.num i/\m.length<=3/\(∀x∈m,Dj p.decls x=true)/\T (v++m) k≠-1:=by
 have hB:=hT.bi V;have nil:NA p.decls e.op e.num i=0->T v k≠-1->∃m:List Int,m.length=NA p.decls e.op e.num i/\m.length<=3/\(∀x∈m,Dj p.decls x=true)/\T (v++m) k≠-1:=λhx h=>⟨[],by rw[hx];rfl,by simp,λx hx=>(by cases hx),by simpa using h⟩;by_cases qT:e.op=12
 ·have q:=hT.var V qT;by_cases hr:e.kids=[]/\0<=e.num/\e.num<(v.length:Int)
  ·rw[hr.1]at hk;simp at hk
  ·rw[fr hr]at q;exact absurd q ht
 by_cases h13:e.op=13
 ·obtain⟨a,b,q1,q2,q3,q4,q5⟩:=W0 (hT.H V) V.VQ h13 hB ht;rw[q1]at hk
  match i,hk with
  | 0,hk=>simp at hk;subst hk;exact nil (by simp[NA,h13]) q3
  | 1,hk=>simp at hk;subst hk;exact⟨[T v a],by simp[NA,h13],by simp,by simp[q4],by rw[<- q5];exact ht⟩
 by_cases h7:e.op=7
 ·obtain⟨a,b,c,q1,q2,q3,q4,q5⟩:=Yz (hT.H V) V.VQ hN h7 hB ht;have hx:NA p.decls e.op e.num i=0:=by simp[NA,h7]
  rw[q1]at hk
  match i,hk with
  | 0,hk=>simp at hk;subst hk;exact nil hx (by rw[q3];omega)
  | 1,hk=>simp at hk;subst hk;exact nil hx (by rw[<- q4];exact ht)
  | 2,hk=>simp at hk;subst hk;exact nil hx (by rw[<- q5];exact ht)
 by_cases h8:e.op=8
 ·obtain⟨a,r,q1,q2,q3,q4,q5⟩:=UI (hT.H V) V.VQ S hN h8 hB ht;have tY:e.num≠-1:=λq=>q2 (by rw[q];simp[CN]);rw[q1]at hk
  match i,hk with
  | 0,hk=>simp at hk;subst hk;exact nil (by simp[NA,h8]) (by rw[q4];exact tY)
  | i+1,hk=>
   simp only[gZ]at hk;have nQ:=(fe.1 hk).1;have hc:(CN p.decls e.num)[i]?=some (CN p.decls e.num)[i]:=fm (by omega);have F:=PO S (fc hc) hN;have:=Vq q5 ht (T (v++Fu p.decls (CN p.decls e.num)[i]) k) (gG.2 ⟨i,by unfold Wy;rw[iV,fg,hc,hk];rfl⟩);exact⟨_,by simp[NA,h8,hc],F.2.2.1,F.2.2.2,by rw[this];exact ht⟩
 rw[FI (hT.H V) V.VQ hN qT h13 h7 h8]at hB;by_cases h:(e.kids.map (T v)).any (λt=>decide (t<0))=true
 ·rw[fq h]at hB;simp at hB;exact absurd hB.symm ht
 ·exact nil (by simp[NA,h13,h8]) λhq=>h (jF.2 ⟨T v k,jU (fc hk),by rw[hq];rfl⟩)
theorem bn {e:AG}(h:Aq e){l:List AG}(hl:l.length=e.kids.length)(hk :∀k∈l,Aq k):Aq (.mk e.op e.num l):=
 .mk (show IB e.op from h.op) (show IB e.num from h.num) (by show l.length<=_;rw[hl];exact h.Ks) hk
end
end RC
namespace RC
open Go
section
variable {p : AP} {N : Nat} {T : List Int -> AG -> Int}
end
end RC
namespace RC
open Go
section
variable {p : AP} {N : Nat} {T : List Int -> AG -> Int}
end
end RC
namespace RC
open Go
def wB (p:AP)(g:Ad->AG):AP×Bool:=if (p.funcs.all λf=>decide (en (g f)<=30))=true then (.mk p.decls (p.funcs.map λf=>.mk f.params f.result (g f)),true) else (.mk [] [],false)
theorem aV {p:AP}{g:Ad->AG}(hp:Rf p<=1048576)(h4:p.funcs.length<=4)(hz:Rf p<=500000∨∀f∈p.funcs,f.params.length<=3)(hdz:p.decls.length+(p.decls.map dz).sum<=500000):Rf (wB p g).1<=1048576:=by
 unfold wB;split
 ·rename_i h;rw[fk]at h;unfold Rf at hp hz⊢;simp only[gI,iP];have:(p.funcs.map (WX∘λf=>Ad.mk f.params f.result (g f))).sum<=30*p.funcs.length+1*(p.funcs.map WX).sum:=Qj λf hf=>by
   have:=h f hf;simp only[fy]at this;have h2:=Ex (g f);show f.params.length+CG (g f).kids<=_;unfold WX;omega
  rcases hz with hz|hz
  ·omega
  ·have h5:(p.funcs.map (WX∘λf=>Ad.mk f.params f.result (g f))).sum<=33*p.funcs.length+0*(p.funcs.map WX).sum:=Qj λf hf=>by
    have:=h f hf;simp only[fy]at this;have h2:=Ex (g f);have h3:=hz f hf;show f.params.length+CG (g f).kids<=_;omega
   omega
 ·simp[Rf]
section
variable {p : AP} {N : Nat}
theorem Uk (S:Ed p)(hN:2000000<=N)(hv:Bn N p=some true):FE p.decls p.funcs/\∃T,TX p N T/\∀f∈p.funcs,en f.body<=30/\f.params.length<=3/\(∀x∈f.params,Dj p.decls x=true)/\Aq f.body/\Dj p.decls f.result=true/\T f.params f.body=f.result:=by
 obtain⟨SO,T0,hT0,h⟩:=XW S hN hv;obtain⟨T,hT⟩:=PU SO hN 340;refine⟨SO,T,hT,λf hf=>?_⟩;obtain⟨he,V,ty,hb⟩:=h f hf;have hp:=(SO.OE f hf).1;refine⟨he,hp,V.I5,V.Ck,ty,?_⟩;have a:=(hT0 f.params f.body V.Ck (by omega) (by omega) V.I5 340 340 (by omega) (by omega)).1;have b:=(hT f.params f.body V.Ck (by omega) (by omega) V.I5 340 340 (gA _) (gA _)).1;rw[a]at b;rw[<- hb];exact (ik b).symm
end
theorem Wr {p:AP}(S:Ed p){N:Nat}(hN:2000000<=N)(hv:Bn N p=some true):p.funcs.length<=4/\(∀f∈p.funcs,f.params.length<=3)/\p.decls.length+(p.decls.map dz).sum<=500000:=by
 obtain⟨SO,_⟩:=Uk S hN hv;refine⟨SO.Ih,λf hf=>(SO.OE f hf).1,?_⟩;have hD:=SO.MU;have:(p.decls.map dz).sum<=100*p.decls.length+0*(p.decls.map dz).sum:=Qj λd hd=>by
  have h1:=SO.Sj d hd;have h2:(d.cons.map cz).sum<=30*d.cons.length+0*(d.cons.map cz).sum:=Qj λc hc=>by
   have:=(SO.Lj d hd c hc).1;unfold cz;omega
  unfold dz;omega
 omega
end RC
namespace RC
end RC
namespace RC
open Go
def fJ (fi:Int)(body:AG)(n:Nat)(o nu:Int)(l:List AG):AG:=if o=9/\nu=fi then lt n 0 l (sh 0 n body) else .mk o nu l
mutual
def inl (D:List AN)(fi:Int)(body:AG)(n:Nat):AG->AG
 | .mk o nu k=>fJ fi body n o nu (dC D fi body n o nu 0 k)
def dC (D:List AN)(fi:Int)(body:AG)(n:Nat)(o nu:Int):Nat->List AG->List AG
 | _,[]=>[]
 | i,e::l=>inl D fi body (n+NA D o nu i) e::dC D fi body n o nu (i+1) l
end
section
variable {p : AP} {N : Nat} {T : List Int -> AG -> Int}
end
end RC
namespace RC
open Go
section
variable {p : AP} {N : Nat}
def inf (p:AP)(fi:Int)(fb f:Ad):AG:=inl p.decls fi fb.body f.params.length f.body
end
end RC
namespace RC
open Go
def Jf (p:AP)(g:Ad->AG):AP:=.mk p.decls (p.funcs.map λf=>.mk f.params f.result (g f))
theorem dO {p:AP}{g:Ad->AG}(h :∀f∈p.funcs,en (g f)<=30):wB p g=(Jf p g,true):=by
 unfold wB;rw[fq (fk.2 λf hf=>by simpa using h f hf)];rfl
theorem Z0 {p:AP}{g:Ad->AG}:Ee (Jf p g)=Ee p:=by
 unfold Ee Jf;simp[AP.funcs,AP.decls,iP]
theorem FE.Jf {p:AP}{g:Ad->AG}(S:FE p.decls p.funcs):FE (Jf p g).decls (Jf p g).funcs:=
 ⟨S.MU,S.Sj,S.Lj,S.aQ,by show (p.funcs.map _).length<=4;rw[gI];exact S.Ih,λf hf=>by
  obtain⟨f0,h0,rfl⟩:=gC.1 (show f∈p.funcs.map _ from hf);exact S.OE f0 h0⟩
theorem Ed.Jf {p:AP}{g:Ad->AG}(S:Ed p)(h4:p.funcs.length<=4)(h3 :∀f∈p.funcs,f.params.length<=3)(hd:p.decls.length+(p.decls.map dz).sum<=500000)(hg :∀f∈p.funcs,en (g f)<=30/\Aq (g f)):Ed (Jf p g):=by
 refine⟨⟨S.Ck.decls,λf hf=>?_,?_⟩,?_⟩
 ·obtain⟨f0,h0,rfl⟩:=gC.1 (show f∈p.funcs.map _ from hf);have:=S.fin h0;exact⟨this.params,this.result,(hg f0 h0).2⟩
 ·show (p.funcs.map _).length<=_;rw[gI];omega
 ·have:=aV (g:=g) S.size h4 (.inr h3) hd;rwa [dO λf hf=>(hg f hf).1]at this
theorem Xm {p:AP}(S:Ed p){N:Nat}(hN:2000000<=N)(SO:FE p.decls p.funcs){T:List Int->AG->Int}(hT:TX p N T)(wU :∀f∈p.funcs,en f.body<=30):Bn N p=some (Lh p&&p.funcs.all (Hv p T)):=by
 have hl:=S.Ih;have L1:=E8 (l:=p.funcs) (CB N p) (λ_ f=>Hv p T f) (λn=>by rw[CB,fr (by simp[AM])]) (λn i f hi=>by
  have nQ:=(fe.1 hi).1;have hf:=fc hi;obtain⟨q1,q2,q3⟩:=SO.OE f hf;have he:=wU f hf;have ty:J4 N p f.params f.body=some (T f.params f.body):=(hT f.params f.body (S.fin hf).body (by omega) (by omega) q2 N N (by omega) (by omega)).1;rw[CB,fq (by simp[AM];omega),BF hi];simp only[fZ];rw[Gk (S.fz hf).2 hN,BP (by omega) (by omega),show ((i:Int)+1)=((i+1:Nat):Int) by omega];simp only[fZ];unfold Hv;rw[fq he,fr (by simp),ty];by_cases hr:T f.params f.body=f.result<;>simp[he,hr]) (by omega:p.funcs.length<N)
 rw[Fv]at L1;unfold Bn;rw[Np S hN];simp only[fZ];cases py:Lh p with
 | false=>simp
 | true=>
  simp only[iA,fh,gM,Bool.true_and];rw[L1,E9];cases p.funcs.all (Hv p T)<;>rfl
theorem W3 {p:AP}(S:Ed p){N:Nat}(hN:2000000<=N)(hv:Bn N p=some true):Lh p=true:=by
 unfold Bn at hv;rw[Np S hN]at hv;simp only[fZ]at hv;cases py:Lh p with
 | false=>rw[py]at hv;simp at hv
 | true=>rfl
theorem Yj {p:AP}(S:Ed p){N:Nat}(hN:2000000<=N)(hv:Bn N p=some true){T:List Int->AG->Int}(hT:TX p N T){g:Ad->AG}(hg :∀f∈p.funcs,en (g f)<=30/\Aq (g f)/\T f.params (g f)=f.result):
  Bn N (Jf p g)=some true/\Eg N (Jf p g)=some true/\Ed (Jf p g)/\TX (Jf p g) N T:=by
 obtain⟨SO,_⟩:=Uk S hN hv;obtain⟨s1,s2,s3⟩:=Wr S hN hv;have S':Ed (Jf p g):=S.Jf s1 s2 s3 λf hf=>⟨(hg f hf).1,(hg f hf).2.1⟩;have ze:=SO.Jf (g:=g);obtain⟨T',hT'⟩:=PU ze hN 340;have eqT:∀(v:List Int) (e:AG),Aq e->en e<340->v.length+3*en e<=1000->(∀x∈v,Dj p.decls x=true)->T' v e=T v e:=λv e a b c d=>by
  have h1:=(hT' v e a b c d 340 340 (gA _) (gA _)).2.1;have h2:=(hT v e a b c d 340 340 (gA _) (gA _)).2.1;rw[Z0,h2]at h1;exact (ik h1).symm
 have zh:TX (Jf p g) N T:=λv e a b c d n1 n2 h1 h2=>by
  have:=hT' v e a b c d n1 n2 h1 h2;rwa [eqT v e a b c d]at this
 have py:Lh (Jf p g)=true:=by
  rw[<- W3 S hN hv];unfold Lh Jf;simp[AP.funcs,AP.decls,iP];rfl
 have hb:=Xm S' hN ze zh (λf hf=>by
  obtain⟨f0,h0,rfl⟩:=gC.1 (show f∈p.funcs.map _ from hf);exact (hg f0 h0).1)
 have mY:(Jf p g).funcs.all (Hv (Jf p g) T)=true:=fk.2 λf hf=>by
  obtain⟨f0,h0,rfl⟩:=gC.1 (show f∈p.funcs.map _ from hf);obtain⟨g1,g2,g3⟩:=hg f0 h0;unfold Hv;simp only[gN,fy];exact⟨g1,g3⟩
 rw[py,mY]at hb;obtain⟨b,e1,e2,_⟩:=JZ S' hN;rw[hb]at e1;cases e1;exact⟨hb,e2,S',zh⟩
end RC
namespace RC
open Go
end RC
namespace RC
open Go
section
variable {p : AP} {N : Nat} {T : List Int -> AG -> Int} {e : AG} {v : List Int}
theorem YC (S:FE p.decls p.funcs)(hN:2000000<=N)(hT:TX p N T)(V:VX p e v)(h:e.op=11)(ht:T v e≠-1):∃a b d,e.kids=[a,b]/\e.num=0/\MI p.decls (T v a)=some d/\T v b=d.from_/\T v e=d.to:=by
 have hD:=S.MU;have q:=hT.bs V;by_cases hl:e.kids.length=2
 ·obtain⟨a,b,hk⟩ :∃a b,e.kids=[a,b]:=by
   match hk:e.kids,hl with
   | [a,b],_=>exact⟨a,b,rfl⟩
  have mM:a∈e.kids:=by rw[hk];simp
  have ny:b∈e.kids:=by rw[hk];simp
  obtain⟨a1,a2,a3⟩:=hT.H V v a (V.Ck.kids a mM) (DY mM) (V.VQ.Jo mM) V.I5;obtain⟨b1,b2,b3⟩:=hT.H V v b (V.Ck.kids b ny) (DY ny) (V.VQ.Jo ny) V.I5;have g0:Sh.get e.kids 0=some a:=by rw[hk];rfl
  have g1:Sh.get e.kids 1=some b:=by rw[hk];rfl
  unfold Bg at q;simp only[h,Int.reduceEq,gH,gF,fh,gb,gM,fZ,AM,hl]at q;rw[g0,g1]at q;simp only[fZ]at q;rw[a1]at q;simp only[fZ]at q;rw[Hc (by omega),b1]at q;simp only[fZ]at q;cases hA:MI p.decls (T v a) with
  | none=>
   by_cases c2:e.num=0<;>simp[c2,Sh.cont,hA]at q<;>exact absurd q.symm ht
  | some d=>
   obtain⟨m1,m2,m3,m4⟩:=NI hA;have g5:Sh.get p.decls (Sh.w (T v a-1))=some d:=by rw[BP (by omega) (by omega),SE (by omega),m4]
   rw[g5]at q;by_cases c2:e.num=0
   ·by_cases c1:T v b=d.from_
    ·simp[c1,c2,Sh.cont,hA]at q;exact⟨a,b,d,hk,c2,hA,c1,q.symm⟩
    ·simp[c1,c2,Sh.cont,hA]at q;exact absurd q.symm ht
   ·simp[c2,Sh.cont]at q;exact absurd q.symm ht
 ·exfalso;have oa:¬ ((e.kids.length:Int)=2):=by omega
  unfold Bg at q;simp only[h,Int.reduceEq,gH,gF,fh,gb,gM,fZ,AM,oa]at q;by_cases c2:e.num=0<;>simp[c2,Sh.cont]at q<;>exact ht q.symm
theorem bZ {a b:Int}:∀(l:List AN) (k:Nat),HP a b l k≠-1->∃(i:Nat) (d:AN),HP a b l k=((k+i+1:Nat):Int)/\l[i]?=some d/\Nb a b d=true:=by
 intro l
 induction l with
 | nil=>intro k h;exact absurd rfl h
 | cons d r ih=>
  intro k h;unfold HP at h⊢;by_cases hd:Nb a b d=true
  ·rw[fq hd]at h⊢;exact⟨0,d,by omega,rfl,hd⟩
  ·rw[fr hd]at h⊢;obtain⟨i,d',h1,h2,h3⟩:=ih (k+1) h;exact⟨i+1,d',by rw[h1];omega,h2,h3⟩
theorem Yv (S:FE p.decls p.funcs)(hN:2000000<=N)(hT:TX p N T)(V:VX p e v)(h:e.op=10)(ht:T v e≠-1):∃f m x d,Sh.get p.funcs e.num=some f/\f∈p.funcs/\f.params.length=m+1/\f.params[m]?=some x/\e.kids.map (T v)=f.params.take m/\MI p.decls (T v e)=some d/\d.from_=x/\d.to=f.result:=by
 have hF:=S.Ih;have hD:=S.MU;have q:=hT.bs V;unfold Bg FD at q;simp only[h,Int.reduceEq,gH,gF,fh,gb,gM,fZ]at q;rw[El,AM p.funcs,BP (n:=(p.funcs.length:Int)-1) (by omega) (by omega)]at q;rcases WC (p:=p) (n:=e.num) with ⟨f,f0,f1,f2,f3,f4,f5⟩|hr
 ·obtain⟨q1,q2,q3⟩:=S.OE f f3;have pY:e.num<=(p.funcs.length:Int)-1:=by omega
  rw[f4]at q;simp only[h,Int.reduceEq,gH,gF,fh,gb,gM,fZ,f0,pY,jW,iA]at q;by_cases hp:f.params.length=0
  ·have pa:f.params=[]:=gY hp;simp[len_nil,pa,Sh.cont]at q;exact absurd q.symm ht
  ·obtain⟨m,hm⟩ :∃m,f.params.length=m+1:=⟨f.params.length-1,by omega⟩
   obtain⟨x,hx,pK⟩:=CE (l:=f.params) (i:=m) (by omega);have pa:¬ f.params=[]:=λq=>hp (by rw[q];rfl);have hw:Sh.w ((f.params.length:Int)-1)=(m:Int):=by rw[BP (by omega) (by omega)];omega
   simp only[len_nil,pa,gF,fh,gM]at q;rw[AM,hw,Tx (by omega),BF hx]at q;simp only[fZ]at q;rw[Mw (hT.H V) V.VQ hN,KW (by omega) hN]at q;by_cases b:e.kids.map (T v)=f.params.take m
   ·simp[b,Sh.cont]at q;obtain⟨i,d,d1,d2,d3⟩:=bZ (a:=x) (b:=f.result) p.decls 0 (by rw[q];exact ht);have nQ:=(fe.1 d2).1;unfold Nb at d3;simp only[gN,fy]at d3;refine⟨f,m,x,d,f4,f3,hm,hx,b,?_,d3.2.1,d3.2.2⟩;rw[<- q,d1];unfold MI;rw[fq ⟨by omega,by omega⟩];have e1:(((0+i+1:Nat):Int)-1).toNat=i:=by omega
    rw[e1,d2];have d4:d.cons=[]:=gY d3.1;simp[d4]
   ·simp[b,Sh.cont]at q;exact absurd q.symm ht
 ·have:(decide (0<=e.num)&&decide (e.num<=(p.funcs.length:Int)-1))=false:=by
   rw[jm,iZ,iZ];omega
  rw[this]at q;simp[Sh.cont]at q;exact absurd q.symm ht
theorem bL (S:FE p.decls p.funcs)(hN:2000000<=N)(hT:TX p N T){nu:Int}{l:List AG}(V:VX p (.mk 9 nu l) v){f:Ad}(hf:Sh.get p.funcs nu=some f)(hk:l.map (T v)=f.params):T v (.mk 9 nu l)=f.result:=by
 have hF:=S.Ih;have h0:=(Sh.get_some hf).1;have h1:=(Sh.get_some hf).2.2;have pY:nu<=(p.funcs.length:Int)-1:=by omega
 have q:=hT.bs V;have aq:=Mw (hT.H V) V.VQ hN f.params;unfold Bg FD at q;simp only[AG.op,AG.num,AG.kids,Int.reduceEq,gH,gF,fh,gb,gM,fZ]at q aq;rw[El,AM p.funcs,BP (n:=(p.funcs.length:Int)-1) (by omega) (by omega),hf]at q;simp only[h0,pY,gH,jW,iA,fh,gM,gb,fZ]at q;rw[aq]at q;simp[hk,Sh.cont]at q;exact q.symm
theorem dp (S:FE p.decls p.funcs)(hN:2000000<=N)(hT:TX p N T):∀(c:Nat) (e:AG) (v:List Int),en e<=c->VX p e v->T v e≠-1->T v (kn e)=T v e/\Aq (kn e):=by
 intro c
 induction c with
 | zero=>intro e _ h;have:=Kf e;omega
 | succ c ih=>
  intro e v hc V ht;have hlv:=V.len;have rB:CG (e.kids.map kn)<=CG e.kids:=by rw[<- Qw];exact PB _
  have he:=Ex e;have zi:∀k∈e.kids.map kn,Aq k:=λk hk=>by
   obtain⟨k0,uI,rfl⟩:=gC.1 hk;obtain⟨i,hi⟩:=gG.1 uI;obtain⟨m,m1,m2,m3,m4⟩:=ba S hN hT V ht hi;exact (ih k0 (v++m) (by have:=DY uI;omega) (V.Jo uI m2 m3) m4).2
  have Ck:Aq (.mk e.op e.num (e.kids.map kn)):=bn V.Ck (by simp) zi;have V1:VX p (.mk e.op e.num (e.kids.map kn)) v:=⟨by rw[en];omega,V.I5,Ck⟩
  have t1:T v (.mk e.op e.num (e.kids.map kn))=T v e:=by
   by_cases qT:e.op=12
   ·have q:=hT.var V qT;have q':=hT.var V1 qT;by_cases hr:e.kids=[]/\0<=e.num/\e.num<(v.length:Int)
    ·have hf:e.kids.map kn=[]:=by rw[hr.1];rfl
     rw[q,q',fq hr];exact fq ⟨hf,hr.2⟩
    ·rw[fr hr]at q;exact absurd q ht
   ·have hB:=V5 (e':=.mk e.op e.num (e.kids.map kn)) (v':=v) (hT.H V) (hT.H V1) V.VQ V1.VQ S hN (hT.bi V) ht rfl rfl qT (by show (e.kids.map kn).length=_;simp) (λi k k' hk ng m hm1 hm3 xK hkt=>by
     have ng:(e.kids.map kn)[i]?=some k':=ng;rw[fg,hk]at ng;obtain rfl:kn k=k':=by simpa using ng
     have oP:=fc hk;exact (ih k (v++m) (by have:=DY oP;omega) (V.Jo oP hm3 xK) hkt).1)
    have:=hT.bi V1;rw[hB]at this;exact (ik this).symm
  rw[QW];generalize e.kids.map kn=l at *;unfold Nf;split
  ·rename_i a b k;split
   ·rename_i hr;obtain⟨a',b',d,q1,q2,q3,q4,q5⟩:=YC S hN hT V1 hr.1 (by rw[t1];exact ht);have q1:a::b::k=[a',b']:=q1;obtain⟨rfl,rfl,rfl⟩:a=a'/\b=b'/\k=[]:=by simpa using q1
    have Va:VX p a v:=V1.eU (by simp[AG.kids]);have rT:T v a≠-1:=λq=>by
     have:=(NI q3).2.1;omega
    obtain⟨f,m,x,d',c1,c2,c3,c4,c5,c6,c7,c8⟩:=Yv S hN hT Va hr.2 rT;rw[q3]at c6;obtain rfl:=ik c6;have qA:Aq (.mk 9 a.num (a.kids++[b])):=by
     refine .mk (show IB 9 by unfold IB;omega) (show IB a.num from Va.Ck.num) ?_ λy hy=>?_
     ·show (a.kids++[b]).length<=_;have:=Hl a.kids;have:=Ex a;simp only[CG]at rB;simp;omega
     ·have hy:y∈a.kids++[b]:=hy;rcases gS.1 hy with hy|hy
      ·exact Va.Ck.kids y hy
      ·simp only[gB]at hy;rw[hy];exact zi b (by simp)
    have Vc:VX p (.mk 9 a.num (a.kids++[b])) v:=⟨by
     have:=Ex a;simp only[en,Xw,CG]at rB⊢;omega,V.I5,qA⟩
    refine⟨?_,qA⟩;rw[bL S hN hT Vc c1 ?_,<- c8,<- q5,t1];rw[iD,c5];show _++[T v b]=_;rw[q4,c7];have:=EP c4;rw[<- this,<- c3,iR]
   ·exact⟨t1,Ck⟩
  ·exact⟨t1,Ck⟩
end
theorem ZO {op num:Int}{l:List AG}(h:op≠11):Nf op num l=.mk op num l:=by
 unfold Nf;split
 ·exact fr λq=>h q.1
 ·rfl
theorem dG:∀(c:Nat) (e:AG),en e<=c->kn (kn e)=kn e:=by
 intro c
 induction c with
 | zero=>intro e h;have:=Kf e;omega
 | succ c ih=>
  intro e hc;have K:∀k∈e.kids.map kn,kn k=k:=λk hk=>by
   obtain⟨k0,uI,rfl⟩:=gC.1 hk;exact ih k0 (by have:=DY uI;omega)
  rw[QW e];generalize e.kids.map kn=l at *;have ml:∀l:List AG,(∀k∈l,kn k=k)->l.map kn=l:=λl h=>by
   conv=>rhs;rw[<- hZ l]
   exact gO h
  by_cases hr :∃a b r,l=a::b::r/\e.op=11/\a.op=10
  ·obtain⟨a,b,r,rfl,h1,h2⟩:=hr;have hv:Nf e.op e.num (a::b::r)=.mk 9 a.num (a.kids++[b]):=by unfold Nf;exact fq ⟨h1,h2⟩
   rw[hv,QW];have ha:=K a (by simp);have hb:=K b (by simp);have hak:a.kids.map kn=a.kids:=by
    rw[QW a,ZO (by omega)]at ha;exact iE AG.kids ha
   show Nf 9 a.num ((a.kids++[b]).map kn)=_;rw[iD,hak];show Nf 9 a.num (a.kids++[kn b])=_;rw[hb];exact ZO (by omega)
  ·have hv:Nf e.op e.num l=.mk e.op e.num l:=by
    unfold Nf;split
    ·rename_i a b r;exact fr λh=>hr ⟨a,b,r,rfl,h.1,h.2⟩
    ·rfl
   rw[hv,QW];show Nf e.op e.num (l.map kn)=_;rw[ml l K,hv]
end RC
namespace RC
open Go
structure Bk (b:List Int):Prop where
 u8 :∀x∈b,U8 x
 len:b.length<=2000
def At (p K:Int):Prop:=0<=p/\p<=K
theorem Ua {code:List Int}(h8 :∀x∈code,U8 x)(hl:code.length<=1048576):Af (H0 code) λq=>Bk q.1/\q.2=0:=by
 unfold H0;refine Af.bind (R:=λb=>Bk b) (Ay (λh=>?_) λh=>?_) λb hb=>Af.some ⟨hb,rfl⟩
 ·rw[AM]at h;have e:Sh.sl code 0 2000=some (code.take 2000):=by
   unfold Sh.sl;rw[fq ⟨by decide,by decide,by omega⟩];rfl
  exact AS e (Af.some ⟨λx hx=>h8 x (hX hx),by simp;omega⟩)
 ·rw[AM]at h;exact Af.some ⟨h8,by omega⟩
theorem PS {a n:Int}(ha:0<=a)(hn:1<=n):0<=a.tmod n/\a.tmod n<n/\a.tmod n<=a:=by
 rw[Int.tmod_eq_emod_of_nonneg ha];refine⟨Int.emod_nonneg _ (by omega),Int.emod_lt_of_pos _ (by omega),?_⟩;have:=Int.mul_ediv_add_emod a n;have h2:0<=n*(a / n):=Int.mul_nonneg (by omega) (Int.ediv_nonneg ha (by omega));omega
theorem Vp {a n:Int}(ha:0<=a)(hn:1<=n):0<=a.tdiv n/\a.tdiv n<=a:=by
 rw[Int.tdiv_eq_ediv_of_nonneg ha];exact⟨Int.ediv_nonneg ha (by omega),Int.ediv_le_self _ ha⟩
theorem TF {a n:Int}(hn:n≠0):Sh.rem a n=some (a.tmod n):=by unfold Sh.rem;rw[fr hn]
theorem Y1 {a n:Int}(hn:n≠0):Sh.quo a n=some (Sh.w (a.tdiv n)):=by unfold Sh.quo;rw[fr hn]
structure Pk (n p:Int) (q:Int×Int):Prop where
 pos:q.2=p+1
 nn:0<=q.1
 lt:1<=n->q.1<n
 zero:n<1->q.1=0
theorem Cb {b:List Int}(B:Bk b){p n:Int}(hp:At p 1000000):Af (Ax b p n) (Pk n p):=by
 obtain⟨p0,p1⟩:=hp;have hlen:=B.len;have ew:Sh.w (p+1)=p+1:=BP (by omega) (by omega);have ew2:Sh.w (p+1-1)=p:=by rw[BP (by omega) (by omega)];omega
 unfold Ax;rw[ew,ew2,AM];refine Af.bind (R:=λt=>t=true↔n<1∨b.length=0) (Ay (λh=>Af.some (by simp[h])) λh=>Af.some (by simp[h])) λt ht=>?_;refine Ci (λh=>?_) λh=>?_
 ·refine Af.some ⟨rfl,by show (0:Int)<=0;decide,λh1=>?_,λ_=>rfl⟩;show (0:Int)<n;omega
 ·have hn:¬ (n<1∨b.length=0):=λh1=>by rw[ht.2 h1]at h;cases h
  have uJ:1<=n:=by omega
  have wK:1<=b.length:=by omega
  refine Ay (λh1=>?_) λh1=>?_
  ·refine Af.get p0 h1 λc _ hc=>?_;obtain⟨c0,c1⟩:=B.u8 c hc;rw[YM (by omega) (by omega)];obtain⟨m0,m1,_⟩:=PS c0 uJ;exact AS (TF (by omega)) (Af.some ⟨rfl,m0,λ_=>m1,λh=>absurd h (by omega)⟩)
  ·have k1:(1:Int)<=b.length:=by omega
   obtain⟨a0,a1,_⟩:=PS p0 k1;have e7:Sh.w (p*7)=p*7:=BP (by omega) (by omega);have e73:Sh.w (p*7+3)=p*7+3:=BP (by omega) (by omega);obtain⟨d0,d1,_⟩:=PS (a:=p*7+3) (by omega) k1;obtain⟨f0,f1⟩:=Vp p0 k1;rw[e7,e73];refine AS (TF (by omega)) ?_;refine Af.get a0 a1 λc _ hc=>?_;obtain⟨c0,c1⟩:=B.u8 c hc;refine AS (TF (by omega)) ?_;refine Af.get d0 d1 λc' _ oV=>?_;obtain⟨c0',c1'⟩:=B.u8 c' oV;refine AS (Y1 (by omega)) ?_;rw[YM (n:=c) (by omega) (by omega),YM (n:=c') (by omega) (by omega),BP (n:=p.tdiv b.length) (by omega) (by omega),BP (n:=c*131) (by omega) (by omega),BP (n:=c'*1117) (by omega) (by omega),
    BP (n:=c*131+c'*1117) (by omega) (by omega),BP (n:=p*29) (by omega) (by omega),BP (n:=c*131+c'*1117+p*29) (by omega) (by omega),BP (n:=p.tdiv b.length*53) (by omega) (by omega),
    BP (n:=c*131+c'*1117+p*29+p.tdiv b.length*53) (by omega) (by omega)]
   obtain⟨x,hx⟩ :∃x,x=c*131+c'*1117+p*29+p.tdiv b.length*53:=⟨_,rfl⟩
   rw[<- hx];have x0:0<=x:=by omega
   have x1:x<=1000000000000:=by omega
   obtain⟨y0,y1⟩:=Vp x0 (by decide:(1:Int)<=64);rw[BP (n:=x.tdiv 64) (by omega) (by omega)];obtain⟨z0,z1⟩:=cX x0 (by omega) y0 (by omega);obtain⟨m0,m1,_⟩:=PS z0 uJ;exact AS (TF (by omega)) (Af.some ⟨rfl,m0,λ_=>m1,λh=>absurd h (by omega)⟩)
structure On (l:List Int) (p:Int) (q:Int×Int):Prop where
 pos:q.2=p+1
 mem:q.1∈l
theorem GM {b:List Int}(B:Bk b){p:Int}{l:List Int}(hp:At p 1000000)(hl:1<=l.length)(rZ:l.length<=1000):Af (Bu b p l) (On l p):=by
 unfold Bu;rw[AM];refine Af.bind (Cb B hp) λq ⟨h1,h2,h3,_⟩=>?_;exact Af.get h2 (h3 (by omega)) λx _ hx=>Af.some ⟨h1,hx⟩
end RC
