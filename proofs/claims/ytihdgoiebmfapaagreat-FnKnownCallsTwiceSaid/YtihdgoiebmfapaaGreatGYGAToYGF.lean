import Derived.Test.YtihdgoiebmfapaaGreatGPlainAToPlainF
set_option linter.all false
namespace RC
open Go
structure CX (D:List AN) (F:List Ad):Prop where
 dl:D.length<=4
 dU:nc D<=7
 cons :∀d∈D,d.cons.length<=3
 Lj :∀d∈D,∀c∈d.cons,c.fields.length<=3/\∀x∈c.fields,x=0∨x=1∨x=3
 c1:CN D 1=[0,1]
 c3:CN D 3=[2,3]
 f0 :∃t,HO D 0 0=some (t,⟨[]⟩)
 f1 :∃t,HO D 0 1=some (t,⟨[0,1]⟩)
 f2 :∃t,HO D 0 2=some (t,⟨[]⟩)
 f3 :∃t,HO D 0 3=some (t,⟨[3,0,3]⟩)
 arr:HP 1 1 D 0=-1
 fl:F.length<=4
 aK:1<=F.length
 par :∀f∈F,f.params.length<=3
 cl :∀f∈F,(∀x∈f.params,x=0∨x=1∨x=3)∨(f.params=[2,1]/\f.result=1)
section
variable {D : List AN} {F : List Ad}
theorem XA (D:List AN)(i:Nat):nc (D.take i)<=nc D:=by have:=Gz D i;omega
theorem CX.Yy (C:CX D F):D.length<=1048576:=by have:=C.dl;omega
theorem CX.dc (C:CX D F):nc D<=1048576:=by have:=C.dU;omega
theorem CX.TJ (C:CX D F){t:Int}{N:Nat}(hN:2000000<=N):Gb N D t=some (CN D t):=OD C.Yy C.dc hN
theorem PH {D:List AN}{t:Int}:∀x∈CN D t,∃c:Nat,x=(c:Int)/\c<nc D:=by
 intro x hx;unfold CN at hx;split at hx
 ·rename_i h;obtain⟨i,hi,rfl⟩:=gC.1 hx;rw[ig]at hi;cases hd:D[(t-1).toNat]? with
  | none=>rw[hd]at hi;simp at hi
  | some d=>
   rw[hd]at hi;simp only[jI]at hi;have h1:=Ku hd;have h2:=XA D ((t-1).toNat+1);exact⟨nc (D.take (t-1).toNat)+i,by omega,by omega⟩
 ·cases hx
theorem CX.TP (C:CX D F)(t:Int):(CN D t).length<=3:=by
 unfold CN;split
 ·rw[gI,List.length_range];cases hd:D[(t-1).toNat]? with
  | none=>simp
  | some d=>simpa using C.cons d (fc hd)
 ·simp
theorem CX.fields (C:CX D F){c:Nat}(hc:c<nc D){N:Nat}(hN:2000000<=N):∃fl:List Int,Bs N D (c:Int)=some fl/\fl.length<=3/\∀x∈fl,x=0∨x=1∨x=3:=by
 obtain⟨t,x,h1,h2⟩:=Hz C.Yy C.dc hc hN;obtain⟨_,_,d,hd,hx⟩:=PM h1;obtain⟨h3,h4⟩:=C.Lj d hd x hx;exact⟨x.fields,h2,h3,h4⟩
theorem XN:∀(D:List AN) (k c:Nat) {r:Nat×Dd},HO D k c=some r->c<nc D
 | [],k,c,r,h=>by simp[HO]at h
 | d::D,k,c,r,h=>by
  unfold HO at h;have e:nc (d::D)=d.cons.length+nc D:=by simp[nc]
  cases hx:d.cons[c]? with
  | some y=>have:=(fe.1 hx).1;omega
  | none=>
   rw[hx]at h;have:=XN D _ _ h;omega
theorem CX.TS (C:CX D F){c t:Nat}{x:Dd}(h:HO D 0 c=some (t,x)){N:Nat}(hN:2000000<=N):Bs N D (c:Int)=some x.fields:=by
 obtain⟨t',x',h1,h2⟩:=Hz C.Yy C.dc (XN D 0 c h) hN;rw[h]at h1;cases h1;exact h2
theorem cD {l:List Int}{x:Int}(hl:l.length<=1048576){N i:Nat}(hi:i<=l.length)(hN:l.length-i<N):F3 l x N i=some (if x∈l.drop i then Sum.inl true else Sum.inr ()):=by
 refine Bm l.length (λN i=>F3 l x N i=some (if x∈l.drop i then Sum.inl true else Sum.inr ())) ?_ ?_ hi hN
 ·intro n;rw[F3,fr (by simp[AM])];simp
 ·intro n i hi ih;obtain⟨y,hy,_⟩:=CE hi;rw[F3,fq (by simp[AM];omega),BF hy,drop_cons hy];simp only[fZ,fu];rw[BP (by omega) (by omega),show ((i:Int)+1)=((i+1:Nat):Int) by omega];by_cases h:y=x
  ·simp[h]
  ·have h':¬ x=y:=λe=>h e.symm;rw[fr (by simpa using h),ih];simp[h']
theorem bq {l:List Int}{x:Int}(hl:l.length<=1048576){N:Nat}(hN:2000000<=N):Ja N l x=some (decide (x∈l)):=by
 unfold Ja;have:=cD (x:=x) hl (gK _) (by omega:l.length-0<N);rw[lI,ir]at this;rw[this];by_cases h:x∈l<;>simp[h,Sh.cont]
def Yi (D:List AN)(F:List Ad)(t x:Int):Prop:=∃(f:Nat) (g:Ad) (y:Int),x=(f:Int)/\F[f]?=some g/\g.params[g.params.length-1]?=some y/\0<g.params.length/\HP y g.result D 0=t
theorem Ma (C:CX D F){t:Int}{M:Nat}(hM:2000000<=M):Af (Hj M ⟨D,F⟩ t) λl=>l.length<=4/\∀x∈l,Yi D F t x:=by
 have hf:=C.fl;have key:∀{N i:Nat},i<=F.length->F.length-i<N->∀acc:List Int,acc.length<=i->(∀x∈acc,Yi D F t x)->Af (ET M ⟨D,F⟩ t N i acc) λl=>l.length<=F.length/\∀x∈l,Yi D F t x:=by
  intro N i hi hN;refine Bm F.length (λN i=>∀acc:List Int,acc.length<=i->(∀x∈acc,Yi D F t x)->Af (ET M ⟨D,F⟩ t N i acc) λl=>l.length<=F.length/\∀x∈l,Yi D F t x) ?_ ?_ hi hN
  ·intro n acc h1 h2;rw[ET,fr (by simp[AM])];exact Af.some ⟨h1,h2⟩
  ·intro n i hi ih acc h1 h2;obtain⟨g,hg,ph⟩:=CE hi;have hp:=C.par g ph;rw[ET,fq (by simp[AM];omega)];refine Af.bind (R:=λl=>l.length<=i+1/\∀x∈l,Yi D F t x) ?_ λl hl=>?_
   ·refine AS (BF hg) ?_;refine Af.bind (R:=λb=>b=true->Yi D F t i) ?_ λb hb=>?_
    ·refine Ay (λh=>?_) λ_=>Af.some (λh=>by cases h);rw[AM]at h;have mH:0<g.params.length:=by omega
     obtain⟨y,hy,_⟩:=CE (l:=g.params) (i:=g.params.length-1) (by omega);rw[AM,BP (by omega) (by omega),show ((g.params.length:Int)-1)=((g.params.length-1:Nat):Int) by omega];refine AS (BF hy) (AS (KW C.Yy hM) (Af.some λh=>?_));exact⟨i,g,y,rfl,hg,hy,mH,by simpa using h⟩
    ·refine Ci (λh=>?_) λ_=>Af.some ⟨by omega,h2⟩;refine Af.app (by simp;omega) (by simp;omega) (Af.some ⟨by simp;omega,λx hx=>?_⟩);rcases gS.1 hx with h3|h3
     ·exact h2 x h3
     ·rw[gB]at h3;rw[h3];exact hb h
   ·rw[BP (by omega) (by omega),show ((i:Int)+1)=((i+1:Nat):Int) by omega];exact ih l hl.1 hl.2
 unfold Hj;have:=key (gK _) (by omega:F.length-0<M) [] (by simp) (by simp);rw[lI]at this;exact Af.bind this λl hl=>Af.some ⟨by omega,hl.2⟩
theorem LU (C:CX D F){vars:List Int}(hv:vars.length<=1000){t:Int}{M:Nat}(hM:2000000<=M):Af (Gd M ⟨D,F⟩ vars t) λ_=>True:=by
 unfold Gd;refine Af.bind (R:=λ_=>True) ?_ λb _=>Af.some fa;refine AS (Hc C.Yy) ?_;refine Ci (λ_=>Af.some fa) λ_=>?_;refine Af.bind (Ma C hM) λl _=>?_;refine Ay (λ_=>Af.some fa) λ_=>?_;exact AS (bq (by omega) hM) (Af.some fa)
theorem S6 {vars:List Int}(hv:vars.length<=1000){t:Int}{M:Nat}(hM:2000000<=M):Af (Hk M vars t) λl=>l.length<=1000/\∀x∈l,0<=x/\x<=1000:=by
 have key:∀{N i:Nat},i<=vars.length->vars.length-i<N->∀acc:List Int,acc.length<=i->(∀x∈acc,0<=x/\x<=1000)->Af (Dg vars t N i acc) λl=>l.length<=vars.length/\∀x∈l,0<=x/\x<=1000:=by
  intro N i hi hN;refine Bm vars.length (λN i=>∀acc:List Int,acc.length<=i->(∀x∈acc,0<=x/\x<=1000)->Af (Dg vars t N i acc) λl=>l.length<=vars.length/\∀x∈l,0<=x/\x<=1000) ?_ ?_ hi hN
  ·intro n acc h1 h2;rw[Dg,fr (by simp[AM])];exact Af.some ⟨h1,h2⟩
  ·intro n i hi ih acc h1 h2;obtain⟨y,hy,_⟩:=CE hi;rw[Dg,fq (by simp[AM];omega)];refine Af.bind (R:=λl=>l.length<=i+1/\∀x∈l,0<=x/\x<=1000) ?_ λl hl=>?_
   ·refine AS (BF hy) ?_;refine Ay (λ_=>?_) λ_=>Af.some ⟨by omega,h2⟩;refine Af.app (by simp;omega) (by simp;omega) (Af.some ⟨by simp;omega,λx hx=>?_⟩);rcases gS.1 hx with h3|h3
    ·exact h2 x h3
    ·rw[gB]at h3;omega
   ·rw[BP (by omega) (by omega),show ((i:Int)+1)=((i+1:Nat):Int) by omega];exact ih l hl.1 hl.2
 unfold Hk;have:=key (gK _) (by omega:vars.length-0<M) [] (by simp) (by simp);rw[lI]at this;exact Af.bind this λl hl=>Af.some ⟨by omega,hl.2⟩
structure GE (k P:Nat) (p:Int) (q:AG×Int):Prop where
 size:en q.1<=k
 Ck:Aq q.1
 lo:p<=q.2
 hi:q.2<=p+P
theorem GE.up {k k' P P':Nat}{p:Int}{q:AG×Int}(h:GE k P p q)(hk:k<=k')(hP:P<=P'):GE k' P' p q:=⟨by have:=h.size;omega,h.Ck,h.lo,by have:=h.hi;omega⟩
theorem DU {n:Int}(h1:-1000000<=n)(h2:n<=1000000):IB n:=⟨by omega,by omega⟩
theorem JG {o n:Int}{k:List AG}(ho:IB o)(hn:IB n)(hk :∀e∈k,Aq e)(hl:k.length<=1000):Aq ⟨o,n,k⟩:=.mk ho hn (by show k.length<=_;omega) hk
theorem GZ (o n:Int)(k:List AG):en ⟨o,n,k⟩=1+CG k:=Ex _
theorem II:∀(a b:List AG),CG (a++b)=CG a+CG b
 | [],b=>by simp[CG]
 | x::a,b=>by have:=II a b;simp only[kJ,CG];omega
theorem HB (e:AG):CG [e]=en e:=by simp[CG]
theorem N3 {b:List Int}(Bb:Bk b){p:Int}(h0:0<=p)(h1:p<=900000):Af (ID b p) λq=>(-1000<=q.1/\q.1<=1000)/\q.2=p+4:=by
 unfold ID;refine Af.bind (Cb Bb ⟨by omega,by omega⟩) λa ha=>?_;have a1:=ha.pos;have a2:=ha.nn;have a3:=ha.lt (by omega);refine Af.bind (Cb Bb ⟨by omega,by omega⟩) λc hc=>?_;have c1:=hc.pos;have c2:=hc.nn;have c3:=hc.lt (by omega);refine Af.bind (Cb Bb ⟨by omega,by omega⟩) λd hd=>?_;have d1:=hd.pos;have d2:=hd.nn;have d3:=hd.lt (by omega);refine Af.bind (GM Bb ⟨by omega,by omega⟩ (by simp) (by simp)) λe he=>Af.some ⟨?_,by have:=he.pos;show e.2=_;omega⟩;have:=he.mem;simp only[fu,gT,iB]at this;show -1000<=e.1/\e.1<=1000;omega
def ZP (b:List Int)(D:List AN)(F:List Ad)(rec:List Int->Int->List Ad->List AN->Int->Option (AG×Int))(t:Int)(k P:Nat):Prop:=
 ∀p:Int,0<=p->p<=800000->Af (rec b p F D t) (GE k P p)
theorem U6 {b:List Int}{rec:List Int->Int->List Ad->List AN->Int->Option (AG×Int)}{l:List Int}(hl:l.length<=3){k P:Nat}(hP:P<=1000)(oX :∀t∈l,ZP b D F rec t k P){N i:Nat}(hi:i<=l.length)(hN:l.length-i<N):
  ∀(p:Int) (acc:List AG),0<=p->p<=700000+(i*P:Nat)->acc.length=i->(∀e∈acc,Aq e)->CG acc<=i*k->
   Af (Cr b F D l rec N i p acc) λq=>p<=q.1/\q.1<=p+((l.length-i)*P:Nat)/\q.2.length=l.length/\(∀e∈q.2,Aq e)/\CG q.2<=l.length*k:=by
 refine Bm l.length (λN i=>∀(p:Int) (acc:List AG),0<=p->p<=700000+(i*P:Nat)->acc.length=i->(∀e∈acc,Aq e)->CG acc<=i*k->
   Af (Cr b F D l rec N i p acc) λq=>p<=q.1/\q.1<=p+((l.length-i)*P:Nat)/\q.2.length=l.length/\(∀e∈q.2,Aq e)/\CG q.2<=l.length*k) ?_ ?_ hi hN
 ·intro n p acc h0 h1 h2 h3 h4;rw[Cr,fr (by simp[AM])];exact Af.some ⟨by show p<=p;omega,by show p<=_;omega,h2,h3,h4⟩
 ·intro n i hi ih p acc h0 h1 h2 h3 h4;obtain⟨t,ht,uF⟩:=CE hi;have hiP:i*P<=3000:=by
   have:i*P<=3*1000:=Nat.mul_le_mul (by omega) hP;omega
  have e1:(l.length-i)*P=P+(l.length-(i+1))*P:=by
   rw[show l.length-i=(l.length-(i+1))+1 by omega,gU];omega
  have e2:(i+1)*P=i*P+P:=by rw[gU];omega
  have e3:(i+1)*k=i*k+k:=by rw[gU];omega
  rw[Cr,fq (by simp[AM];omega)];refine AS (BF ht) ?_;refine Af.bind (oX t uF p h0 (by omega)) λq hq=>?_;have q1:=hq.lo;have q2:=hq.hi;have q3:=hq.size;refine Af.app (by simp;omega) (by simp;omega) ?_;rw[BP (by omega) (by omega),show ((i:Int)+1)=((i+1:Nat):Int) by omega];refine (ih q.2 (acc++[q.1]) (by omega) (by omega) (by simp;omega) (λe he=>?_) (by rw[II,HB];omega)).mono λr hr=>⟨by have:=hr.1;omega,by have:=hr.2.1;omega,hr.2.2⟩;rcases gS.1 he with h5|h5
  ·exact h3 e h5
  ·rw[gB]at h5;rw[h5];exact hq.Ck
theorem VI {b:List Int}{rec:List Int->Int->List Ad->List AN->Int->Option (AG×Int)}{g:Ad}{m:Nat}(hm:g.params.length=m+1)(hl:m<=2){k P:Nat}(hP:P<=1000)(oX :∀t∈g.params,ZP b D F rec t k P){N i:Nat}(hi:i<=m)(hN:m-i<N):
  ∀(p:Int) (acc:List AG),0<=p->p<=700000+(i*P:Nat)->acc.length=i->(∀e∈acc,Aq e)->CG acc<=i*k->
   Af (Dn g b F D rec N i p acc) λq=>p<=q.1/\q.1<=p+((m-i)*P:Nat)/\q.2.length=m/\(∀e∈q.2,Aq e)/\CG q.2<=(m)*k:=by
 refine Bm m (λN i=>∀(p:Int) (acc:List AG),0<=p->p<=700000+(i*P:Nat)->acc.length=i->(∀e∈acc,Aq e)->CG acc<=i*k->
   Af (Dn g b F D rec N i p acc) λq=>p<=q.1/\q.1<=p+((m-i)*P:Nat)/\q.2.length=m/\(∀e∈q.2,Aq e)/\CG q.2<=(m)*k) ?_ ?_ hi hN
 ·intro n p acc h0 h1 h2 h3 h4;rw[Dn,BP (by omega) (by omega),fr (by rw[fy,AM];omega)];exact Af.some ⟨by show p<=p;omega,by show p<=_;omega,h2,h3,h4⟩
 ·intro n i hi ih p acc h0 h1 h2 h3 h4;obtain⟨t,ht,uF⟩:=CE (l:=g.params) (i:=i) (by omega);have hiP:i*P<=3000:=by
   have:i*P<=3*1000:=Nat.mul_le_mul (by omega) hP;omega
  have e1:(m-i)*P=P+(m-(i+1))*P:=by
   rw[show m-i=(m-(i+1))+1 by omega,gU];omega
  have e2:(i+1)*P=i*P+P:=by rw[gU];omega
  have e3:(i+1)*k=i*k+k:=by rw[gU];omega
  rw[Dn,BP (by omega) (by omega),fq (by rw[fy,AM];omega)];refine AS (BF ht) ?_;refine Af.bind (oX t uF p h0 (by omega)) λq hq=>?_;have q1:=hq.lo;have q2:=hq.hi;have q3:=hq.size;refine Af.app (by simp;omega) (by simp;omega) ?_;rw[show ((i:Int)+1)=((i+1:Nat):Int) by omega];refine (ih q.2 (acc++[q.1]) (by omega) (by omega) (by simp;omega) (λe he=>?_) (by rw[II,HB];omega)).mono λr hr=>⟨by have:=hr.1;omega,by have:=hr.2.1;omega,hr.2.2⟩;rcases gS.1 he with h5|h5
  ·exact h3 e h5
  ·rw[gB]at h5;rw[h5];exact hq.Ck
theorem Fl {o n:Int}(ho:-1000000<=o/\o<=1000000)(hn:-1000000<=n/\n<=1000000):Aq ⟨o,n,[]⟩:=JG (DU ho.1 ho.2) (DU hn.1 hn.2) (by simp) (by simp)
theorem cY (C:CX D F){b:List Int}(Bb:Bk b){M:Nat}(hM:2000000<=M){t:Int}(ht:t=0∨t=1∨t=3)(n:Nat):ZP b D F (DR M (n+1)) t 1 6:=by
 intro p h0 h1;rw[DR];unfold Hd;refine AS (C.TJ hM) ?_;have data:∀(c:Nat) (fs:List Int),CN D t=[(c:Int),((c+1:Nat):Int)]->c<=10->Bs M D (c:Int)=some []->Bs M D ((c+1:Nat):Int)=some fs->t∈fs->fs.length<=3->
   Af ((Sh.get (CN D t) 0).bind λc8=>
  (
   Option.bind (
    if (decide (1<(Sh.len (CN D t))))=true then
     (Ax b p 4).bind λqR=>
     some (decide (qR.1=0),qR.2)
    else
     some (false,p)
   ) λ(t41,f42)=>
   if t41=true then
    (Sh.get (CN D t) 1).bind λtz=>
    some (tz,f42)
   else
    some (c8,f42)
  ).bind λ(pf,f11)=>
  (
   Option.bind (Bs M D pf) λsZ=>
   (Ja M sZ t).bind λpC=>
   if pC=true then
    some c8
   else
    some pf
  ).bind λnq=>
  (Bs M D nq).bind λnr=>
  (Cr b F D nr (DR M n) M 0 f11 []).bind λ(f24,tr)=>
  (Bd 6 nq tr).bind λnd=>
  some (nd,f24)) (GE 1 6 p):=by
  intro c fs qY hc sJ pZ mX qM;rw[qY];refine AS (show Sh.get [(c:Int),((c+1:Nat):Int)] 0=some (c:Int) from rfl) ?_;refine Af.bind (R:=λq=>(q.1=(c:Int)∨q.1=((c+1:Nat):Int))/\q.2=p+1) ?_ ?_
  ·rw[fq (by simp[AM])];refine Af.bind (R:=λq:Bool×Int=>q.2=p+1) (Af.bind (Cb Bb ⟨by omega,by omega⟩) λq hq=>Af.some hq.pos) ?_;rintro⟨t41,f42⟩ hf;dsimp only at hf⊢;refine Ci (λ_=>?_) λ_=>Af.some ⟨.inl rfl,hf⟩;exact AS (show Sh.get [(c:Int),((c+1:Nat):Int)] 1=some ((c+1:Nat):Int) from rfl) (Af.some ⟨.inr rfl,hf⟩)
  ·rintro⟨pf,f11⟩ ⟨hc10,hf⟩;dsimp only at hc10 hf⊢;refine Af.bind (R:=λnq=>nq=(c:Int)) ?_ ?_
   ·rcases hc10 with rfl|rfl
    ·refine AS sJ (AS (bq (by simp) hM) ?_);exact Ci (λ_=>Af.some rfl) λ_=>Af.some rfl
    ·refine AS pZ (AS (bq (by omega) hM) ?_);rw[fq (by simpa using mX)];exact Af.some rfl
   ·rintro nq rfl;refine AS sJ ?_;obtain⟨M',rfl⟩ :∃m,M=m+1:=⟨M-1,by omega⟩
    rw[Cr,fr (by simp[AM])];refine AS rfl (AS rfl (Af.some ⟨?_,Fl ⟨by omega,by omega⟩ ⟨by omega,by omega⟩,?_,?_⟩))
    ·rw[GZ];simp[CG]
    ·show p<=f11;omega
    ·show f11<=_;omega
 rcases ht with rfl|rfl|rfl
 ·have e:CN D 0=[]:=by unfold CN;rw[fr (by omega)]
  rw[e,fr (by simp[AM])];refine Af.bind (Ma C hM) λl _=>?_;refine AS (show _=some false from fr (by simp)) ?_;simp only[fh,gM];refine Af.bind (N3 Bb h0 (by omega)) λq hq=>AS rfl (Af.some ⟨?_,Fl ⟨by omega,by omega⟩ ⟨by omega,by omega⟩,?_,?_⟩)
  ·rw[GZ];simp[CG]
  ·show p<=q.2;omega
  ·show q.2<=_;omega
 ·obtain⟨t0,k0⟩:=C.f0;obtain⟨t1,k1⟩:=C.f1;rw[fq (by rw[C.c1];simp[AM])];exact data 0 [0,1] C.c1 (by omega) (C.TS k0 hM) (C.TS k1 hM) (by simp) (by simp)
 ·obtain⟨t0,k0⟩:=C.f2;obtain⟨t1,k1⟩:=C.f3;rw[fq (by rw[C.c3];simp[AM])];exact data 2 [3,0,3] C.c3 (by omega) (C.TS k0 hM) (C.TS k1 hM) (by simp) (by simp)
end
end RC
namespace RC
open Go
section
variable {D : List AN} {F : List Ad}
theorem U2 (C:CX D F){b:List Int}(Bb:Bk b){M:Nat}(hM:2000000<=M)(t:Int)(n:Nat){p:Int}(h0:0<=p)(h1:p<=600000):Af (DR M (n+2) b p F D t) (GE 4 20 p):=by
 have oX:∀t,(t=0∨t=1∨t=3)->ZP b D F (DR M (n+1)) t 1 6:=λt ht=>cY C Bb hM ht n;rw[DR];unfold Hd;refine AS (C.TJ hM) ?_;have hc3:=C.TP t;refine Ay (λmH=>?_) λ_=>?_
 ·rw[AM]at mH;refine Af.get (by omega) (by omega) λc8 _ zj=>?_;refine Af.bind (R:=λq=>q.1∈CN D t/\p<=q.2/\q.2<=p+1) ?_ ?_
  ·refine Af.bind (R:=λq:Bool×Int=>(q.1=true->1<(CN D t).length)/\p<=q.2/\q.2<=p+1) ?_ ?_
   ·refine Ay (λh2=>?_) λ_=>Af.some ⟨(λh=>by cases h),by show p<=p;omega,by show p<=_;omega⟩;rw[AM]at h2;exact Af.bind (Cb Bb ⟨by omega,by omega⟩) λq hq=>Af.some ⟨λ_=>by omega,by have:=hq.pos;show p<=q.2;omega,by have:=hq.pos;show q.2<=_;omega⟩
   ·rintro⟨t41,f42⟩ ⟨g1,g2,g3⟩;dsimp only at g1 g2 g3⊢;refine Ci (λh=>?_) λ_=>Af.some ⟨zj,g2,g3⟩;refine Af.get (by omega) (by have:=g1 h;omega) λtz _ yY=>Af.some ⟨yY,g2,g3⟩
  ·rintro⟨pf,f11⟩ ⟨hc10,g2,g3⟩;dsimp only at hc10 g2 g3⊢;refine Af.bind (R:=λnq=>nq∈CN D t) ?_ ?_
   ·obtain⟨c,rfl,hc⟩:=PH _ hc10;obtain⟨fl,e1,e2,_⟩:=C.fields hc hM;refine AS e1 (AS (bq (by omega) hM) ?_);exact Ci (λ_=>Af.some zj) λ_=>Af.some hc10
   ·intro nq yZ;obtain⟨c,rfl,hc⟩:=PH _ yZ;obtain⟨fl,e1,e2,e3⟩:=C.fields hc hM;have hn:=C.dU;refine AS e1 ?_;have:=U6 (D:=D) (F:=F) (b:=b) (rec:=DR M (n+1)) e2 (k:=1) (P:=6) (by omega) (λt ht=>oX t (e3 t ht)) (N:=M) (gK _) (by omega) f11 [] (by omega) (by omega) rfl (by simp) (by simp[CG]);refine Af.bind this ?_;rintro⟨f24,tr⟩ ⟨a1,a2,a3,a4,a5⟩;dsimp only at a1 a2 a3 a4 a5⊢;refine AS rfl (Af.some ⟨by rw[GZ];omega,JG (DU (by omega) (by omega)) (DU (by omega) (by omega)) a4 (by omega),by show p<=f24;omega,by show f24<=_;omega⟩)
 ·refine Af.bind (Ma C hM) λl hl=>?_;have hF:=C.fl;refine Af.bind (R:=λt52=>t52=true->0<t/\0<l.length) ?_ λt52 yb=>?_
  ·refine Ay (λh=>Af.some λh2=>⟨h,by rw[fy,AM]at h2;omega⟩) λ_=>Af.some λh=>by cases h
  ·refine Ci (λh=>?_) λ_=>?_
   ·obtain⟨qn,tj⟩:=yb h;rw[AM];refine Af.bind (Cb Bb ⟨by omega,by omega⟩) λq hq=>?_;have q1:=hq.pos;have q2:=hq.nn;have q3:=hq.lt (by omega);refine Af.get q2 q3 λql _ yc=>?_;obtain⟨f,g,y,rfl,hg,hy,hgp,ha⟩:=hl.2 ql yc;have ph:=fc hg;have qM:=(fe.1 hg).1;have vu:=C.par g ph;refine AS (BF hg) ?_;have ye:∀x∈g.params,x=0∨x=1∨x=3:=by
     rcases C.cl g ph with h2|⟨h2,h3⟩
     ·exact h2
     ·exfalso;rw[h2]at hy;have:y=1:=by simpa using hy.symm
      rw[this,h3,C.arr]at ha;omega
    obtain⟨m,hm⟩ :∃m,g.params.length=m+1:=⟨g.params.length-1,by omega⟩
    have:=VI (D:=D) (F:=F) (b:=b) (rec:=DR M (n+1)) hm (by omega) (k:=1) (P:=6) (by omega) (λt ht=>oX t (ye t ht)) (N:=M) (gK _) (by omega) q.2 [] (by omega) (by omega) rfl (by simp) (by simp[CG]);refine Af.bind this ?_;rintro⟨f66,l67⟩ ⟨a1,a2,a3,a4,a5⟩;dsimp only at a1 a2 a3 a4 a5⊢;refine AS rfl (Af.some ⟨by rw[GZ];omega,JG (DU (by omega) (by omega)) (DU (by omega) (by omega)) a4 (by omega),by show p<=f66;omega,by show f66<=_;omega⟩)
   ·refine Af.bind (N3 Bb h0 (by omega)) λq hq=>AS rfl (Af.some ⟨?_,Fl ⟨by omega,by omega⟩ ⟨by omega,by omega⟩,?_,?_⟩)
    ·rw[GZ];simp[CG]
    ·show p<=q.2;omega
    ·show q.2<=_;omega
theorem LW (C:CX D F){b:List Int}(Bb:Bk b){M:Nat}(hM:2000000<=M){vars:List Int}(hv:vars.length<=1000)(t:Int){p:Int}(h0:0<=p)(h1:p<=500000):Af (HK M b p F D vars t) (GE 4 22 p):=by
 unfold HK;refine Af.bind (S6 hv hM) λl hl=>?_;refine Af.bind (R:=λq:Bool×Int=>(q.1=true->0<l.length)/\p<=q.2/\q.2<=p+1) ?_ ?_
 ·refine Ay (λh=>?_) λ_=>Af.some ⟨(λh=>by cases h),by show p<=p;omega,by show p<=_;omega⟩;rw[AM]at h;refine Af.bind (Cb Bb ⟨by omega,by omega⟩) λq hq=>?_;have q1:=hq.pos;refine Ay (λ_=>Af.some ⟨λ_=>by omega,by show p<=q.2;omega,by show q.2<=_;omega⟩) λ_=>?_;exact Af.bind (LU C (by simp) hM) λ_ _=>Af.some ⟨λ_=>by omega,by show p<=q.2;omega,by show q.2<=_;omega⟩
 ·rintro⟨t6,f7⟩ ⟨g1,g2,g3⟩;dsimp only at g1 g2 g3⊢;refine Ci (λh=>?_) λ_=>?_
  ·have tj:=g1 h;rw[AM];refine Af.bind (Cb Bb ⟨by omega,by omega⟩) λq hq=>?_;have q1:=hq.pos;have q2:=hq.nn;have q3:=hq.lt (by omega);refine Af.get q2 q3 λc _ hc=>?_;have:=hl.2 c hc;refine AS rfl (Af.some ⟨by rw[GZ];simp[CG],Fl ⟨by omega,by omega⟩ ⟨by omega,by omega⟩,by show p<=q.2;omega,by show q.2<=_;omega⟩)
  ·unfold L6;obtain⟨m,rfl⟩ :∃m,M=m+2:=⟨M-2,by omega⟩
   refine Af.bind (U2 C Bb hM t m (p:=f7) (by omega) (by omega)) λq hq=>Af.some ⟨hq.size,hq.Ck,by have:=hq.lo;show p<=q.2;omega,by have:=hq.hi;show q.2<=_;omega⟩
theorem WI (C:CX D F){b:List Int}(Bb:Bk b){M:Nat}(hM:2000000<=M){vars:List Int}(hv:vars.length<=1000){p:Int}(h0:0<=p)(h1:p<=500000):Af (JO M b p F D vars) λq=>q.2=p+1:=by
 unfold JO;refine Af.bind (GM Bb ⟨by omega,by omega⟩ (by simp) (by simp)) λq hq=>?_;refine Af.bind (R:=λ_=>True) ?_ λt6 _=>Ci (λ_=>Af.some hq.pos) λ_=>Af.some hq.pos;refine Ay (λ_=>Af.some fa) λ_=>?_;exact Af.bind (LU C hv hM) λ_ _=>Af.some fa
theorem Uw (C:CX D F){t:Int}{M:Nat}(hM:2000000<=M):Af (Ik M ⟨D,F⟩ t) λl=>l.length<=4/\∀x∈l,0<=x/\x<(F.length:Int):=by
 have hf:=C.fl;have pZ:=C.aK;have L2:∀(g:Ad),g.params.length<=3->∀{N i:Nat},i<=g.params.length->g.params.length-i<N->∀ok:Bool,Af (EV M g ⟨D,F⟩ N ok i) λ_=>True:=by
  intro g hg N i hi hN;refine Bm g.params.length (λN i=>∀ok:Bool,Af (EV M g ⟨D,F⟩ N ok i) λ_=>True) ?_ ?_ hi hN
  ·intro n ok;rw[EV,fr (by simp[AM])];exact Af.some fa
  ·intro n i hi ih ok;obtain⟨y,hy,_⟩:=CE hi;rw[EV,fq (by rw[fy,AM];omega),BP (by omega) (by omega),show ((i:Int)+1)=((i+1:Nat):Int) by omega];refine Af.bind (R:=λ_=>True) ?_ λok _=>ih ok;refine Ci (λ_=>?_) λ_=>Af.some fa;refine AS (BF hy) (Af.bind (LU C (by simp) hM) λ_ _=>Af.some fa)
 have key:∀{N i:Nat},i<=F.length->F.length-i<N->∀acc:List Int,acc.length<=i->(∀x∈acc,0<=x/\x<(F.length:Int))->Af (EZ M ⟨D,F⟩ t N i acc) λl=>l.length<=F.length/\∀x∈l,0<=x/\x<(F.length:Int):=by
  intro N i hi hN;refine Bm F.length (λN i=>∀acc:List Int,acc.length<=i->(∀x∈acc,0<=x/\x<(F.length:Int))->Af (EZ M ⟨D,F⟩ t N i acc) λl=>l.length<=F.length/\∀x∈l,0<=x/\x<(F.length:Int)) ?_ ?_ hi hN
  ·intro n acc h1 h2;rw[EZ,fr (by simp[AM])];exact Af.some ⟨h1,h2⟩
  ·intro n i hi ih acc h1 h2;obtain⟨g,hg,ph⟩:=CE hi;have hp:=C.par g ph;rw[EZ,fq (by rw[fy,AM];show (i:Int)<(F.length:Int);omega),BP (by omega) (by omega),show ((i:Int)+1)=((i+1:Nat):Int) by omega];refine Af.bind (R:=λl=>l.length<=i+1/\∀x∈l,0<=x/\x<(F.length:Int)) ?_ λl hl=>ih l hl.1 hl.2;refine AS (BF hg) ?_;have:=L2 g hp (N:=M) (gK _) (by omega) (decide (g.result=t));refine Af.bind this λok _=>?_;refine Ci (λ_=>?_) λ_=>Af.some ⟨by omega,h2⟩;refine Af.app (by simp;omega) (by simp;omega) (Af.some ⟨by simp;omega,λx hx=>?_⟩);rcases gS.1 hx with h3|h3
   ·exact h2 x h3
   ·rw[gB]at h3;omega
 unfold Ik;have:=key (i:=1) pZ (by omega:F.length-1<M) [] (by simp) (by simp);rw[show ((1:Nat):Int)=1 from rfl]at this;exact Af.bind this λl hl=>Af.some ⟨by omega,hl.2⟩
def GF (d:Nat):Nat:=if d=0 then 4 else 9*d-5
def EO (d:Nat):Nat:=if d=0 then 35 else 80*d-45
theorem La {r d n:Nat}(h1:1<=r)(h3:r<=3)(hn:3<=n)(hd:d*r<=n-1):5+r*GF d<=GF n/\40+r*EO d<=EO n:=by
 have pw:¬ n=0:=by omega
 unfold GF EO;rw[fr pw,fr pw];obtain rfl|rfl|rfl:r=1∨r=2∨r=3:=by omega
 all_goals
  by_cases h:d=0
  ·rw[fq h,fq h];omega
  ·rw[fr h,fr h];omega
theorem RR (d:Nat):4<=GF d:=by unfold GF;split<;>omega
theorem Qm (d:Nat):35<=EO d:=by unfold EO;split<;>omega
theorem cQ {d:Nat}(h:d<=20):EO d<=1600:=by unfold EO;split<;>omega
abbrev Vj:=List Int->Int->List Ad->List AN->List Int->Int->Int->Option (AG×Int)
def RG (b:List Int)(D:List AN)(F:List Ad)(rec:Vj)(n:Nat):Prop:=
 ∀(d:Nat) (vars:List Int) (t p:Int),d<n->d<=20->vars.length+3*d<=400->0<=p->p+(EO d:Int)<=400000->Af (rec b p F D vars t (d:Int)) (GE (GF d) (EO d) p)
structure GL (m k P:Nat) (p:Int) (q:List AG×Int):Prop where
 len:q.1.length=m
 size:CG q.1<=k
 Ck :∀e∈q.1,Aq e
 lo:p<=q.2
 hi:q.2<=p+P
theorem Zn (a b:Nat):Int.tdiv (a:Int) (b:Int)=((a / b:Nat):Int):=rfl
theorem Xj {a b:Nat}(hb:b≠0)(ha:a<=1000000):Sh.quo (a:Int) (b:Int)=some ((a / b:Nat):Int):=by
 have h:=jZ a b;rw[Y1 (by omega),Zn];generalize a / b=c at h⊢;rw[BP (by omega) (by omega)]
theorem Sf {b:List Int}{rec:Vj}{n:Nat}(R:RG b D F rec n){vars types:List Int}(ht:types.length<=3){bud:Nat}(hb:bud<=20){d:Nat}(hd:types.length≠0->bud / types.length=d)(rY:d<n)(yh:d<=20)(hv:vars.length+3*d<=400){M:Nat}(hM:2000000<=M){p:Int}(h0:0<=p)(h1:p+(types.length*EO d:Nat)<=400000):
  Af (Fk M rec b p F D vars types (bud:Int)) (GL types.length (types.length*GF d) (types.length*EO d) p):=by
 have key:∀{N i:Nat},i<=types.length->types.length-i<N->∀(q:Int) (acc:List AG),p<=q->q<=p+(i*EO d:Nat)->acc.length=i->(∀e∈acc,Aq e)->CG acc<=i*GF d->
   Af (FK b F D vars types (bud:Int) rec N i q acc) λr=>p<=r.1/\r.1<=p+(types.length*EO d:Nat)/\r.2.length=types.length/\(∀e∈r.2,Aq e)/\CG r.2<=types.length*GF d:=by
  intro N i hi hN;refine Bm types.length (λN i=>∀(q:Int) (acc:List AG),p<=q->q<=p+(i*EO d:Nat)->acc.length=i->(∀e∈acc,Aq e)->CG acc<=i*GF d->
   Af (FK b F D vars types (bud:Int) rec N i q acc) λr=>p<=r.1/\r.1<=p+(types.length*EO d:Nat)/\r.2.length=types.length/\(∀e∈r.2,Aq e)/\CG r.2<=types.length*GF d) ?_ ?_ hi hN
  ·intro n q acc g1 g2 g3 g4 g5;rw[FK,fr (by simp[AM])];exact Af.some ⟨g1,g2,g3,g4,g5⟩
  ·intro n i hi ih q acc g1 g2 g3 g4 g5;obtain⟨t,rF,_⟩:=CE hi;have e2:(i+1)*EO d=i*EO d+EO d:=by rw[gU];omega
   have e3:(i+1)*GF d=i*GF d+GF d:=by rw[gU];omega
   have e4:(i+1)*EO d<=types.length*EO d:=gW _ hi;rw[FK,fq (by rw[fy,AM];omega),BP (n:=(i:Int)+1) (by omega) (by omega),show ((i:Int)+1)=((i+1:Nat):Int) by omega];refine AS (BF rF) ?_;rw[AM];refine AS (Xj (by omega) (by omega)) ?_;rw[hd (by omega)];refine Af.bind (R d vars t q rY yh hv (by omega) (by omega)) λr hr=>?_;have r1:=hr.lo;have r2:=hr.hi;have r3:=hr.size;refine Af.app (by simp;omega) (by simp;omega) ?_;refine ih r.2 (acc++[r.1]) (by omega) (by omega) (by simp;omega) (λe he=>?_) (by rw[II,HB];omega);rcases gS.1 he with h5|h5
   ·exact g4 e h5
   ·rw[gB]at h5;rw[h5];exact hr.Ck
 unfold Fk;have:=key (gK _) (by omega:types.length-0<M) p [] (by omega) (by omega) rfl (by simp) (by simp[CG]);rw[lI]at this;refine Af.bind this ?_;rintro⟨f,l⟩ ⟨a1,a2,a3,a4,a5⟩;exact Af.some ⟨a3,a5,a4,a1,a2⟩
theorem VZ {r d n P:Nat}{p q0 o m:Int}{l:List AG}{q:Int}(ho:-1000000<=o/\o<=1000000)(hm:-1000000<=m/\m<=1000000)(h3:r<=3)(hn:3<=n)(hd:d*r<=n-1)(hq:p<=q0/\q0<=p+P)(hP:P<=40)(g:GL r (r*GF d) (r*EO d) q0 (l,q)):GE (GF n) (EO n) p (⟨o,m,l⟩,q):=by
 have s1:=g.size;have s2:=g.lo;have s3:=g.hi;have s4:=g.len;dsimp only at s1 s2 s3 s4;have uJ:=RR n;have zJ:=Qm n;refine⟨?_,JG (DU ho.1 ho.2) (DU hm.1 hm.2) g.Ck (by omega),by show p<=q;omega,?_⟩
 ·rw[GZ];rcases iq r with rfl|hr
  ·omega
  ·have:=(La (d:=d) hr h3 hn hd).1;omega
 ·show q<=_;rcases iq r with rfl|hr
  ·have:40<=EO n:=by unfold EO;rw[fr (by omega)];omega
   omega
  ·have:=(La (d:=d) hr h3 hn hd).2;omega
end
end RC
namespace RC
open Go
section
variable {D : List AN} {F : List Ad}
theorem Re (C:CX D F){b:List Int}{rec:Vj}{n:Nat}(R:RG b D F rec n){vars:List Int}(qy:3<=n)(hn:n<=20)(hv:vars.length+3*n<=400){t d0:Int}{r d:Nat}(hr:(CN D d0).length=r)(hd:r≠0->(n-2) / r=d)(rY:d+1<=n){M:Nat}(hM:2000000<=M){p:Int}(h0:0<=p)(h1:p+(r*EO d:Nat)<=400000){k0:Nat}{e0:AG}(uI:en e0<=k0)(tn:Aq e0):
  Af (Dx M b F D vars t (n:Int) (CN D d0) rec M 0 p [e0]) λq=>p<=q.1/\q.1<=p+(r*EO d:Nat)/\q.2.length=r+1/\(∀e∈q.2,Aq e)/\CG q.2<=k0+r*GF d:=by
 have hr3:=C.TP d0;have key:∀{N i:Nat},i<=(CN D d0).length->(CN D d0).length-i<N->∀(q:Int) (acc:List AG),p<=q->q<=p+(i*EO d:Nat)->acc.length=i+1->(∀e∈acc,Aq e)->CG acc<=k0+i*GF d->
   Af (Dx M b F D vars t (n:Int) (CN D d0) rec N i q acc) λq=>p<=q.1/\q.1<=p+(r*EO d:Nat)/\q.2.length=r+1/\(∀e∈q.2,Aq e)/\CG q.2<=k0+r*GF d:=by
  intro N i hi hN;refine Bm (CN D d0).length (λN i=>∀(q:Int) (acc:List AG),p<=q->q<=p+(i*EO d:Nat)->acc.length=i+1->(∀e∈acc,Aq e)->CG acc<=k0+i*GF d->
   Af (Dx M b F D vars t (n:Int) (CN D d0) rec N i q acc) λq=>p<=q.1/\q.1<=p+(r*EO d:Nat)/\q.2.length=r+1/\(∀e∈q.2,Aq e)/\CG q.2<=k0+r*GF d) ?_ ?_ hi hN
  ·intro m q acc g1 g2 g3 g4 g5;rw[Dx,fr (by simp[AM])];subst hr;exact Af.some ⟨g1,g2,g3,g4,g5⟩
  ·intro m i hi ih q acc g1 g2 g3 g4 g5;obtain⟨c,hc,mq⟩:=CE hi;obtain⟨cn,rfl,hcn⟩:=PH _ mq;obtain⟨fl,e1,e2',_⟩:=C.fields hcn hM;have e2:(i+1)*EO d=i*EO d+EO d:=by rw[gU];omega
   have e3:(i+1)*GF d=i*GF d+GF d:=by rw[gU];omega
   have e4:(i+1)*EO d<=r*EO d:=gW _ (by omega);rw[Dx,fq (by rw[fy,AM];omega),BP (n:=(i:Int)+1) (by omega) (by omega),show ((i:Int)+1)=((i+1:Nat):Int) by omega];refine AS (BF hc) (AS e1 (AS (Iu (by omega) (by omega)) ?_));rw[AM,BP (n:=(n:Int)-2) (by omega) (by omega),show ((n:Int)-2)=((n-2:Nat):Int) by omega];refine AS (Xj (by omega) (by omega)) ?_;rw[hr,hd (by omega)];refine Af.bind (R d (vars++fl) t q (by omega) (by omega) (by rw[gV];omega) (by omega) (by omega)) λs hs=>?_;have r1:=hs.lo;have r2:=hs.hi;have r3:=hs.size;refine Af.app (by simp;omega) (by simp;omega) ?_;refine ih s.2 (acc++[s.1]) (by omega) (by omega) (by simp;omega) (λe he=>?_) (by rw[II,HB];omega);rcases gS.1 he with h5|h5
   ·exact g4 e h5
   ·rw[gB]at h5;rw[h5];exact hs.Ck
 have:=key (gK _) (by omega:(CN D d0).length-0<M) p [e0] (by omega) (by omega) rfl (λe he=>by rw[gB]at he;rw[he];exact tn) (by rw[HB];omega);rw[lI]at this;exact this
theorem NU (a r:Nat):a / r*r<=a:=Nat.div_mul_le_self a r
theorem U4 (C:CX D F){b:List Int}(Bb:Bk b){rec:Vj}{n:Nat}(R:RG b D F rec n){vars:List Int}(qy:3<=n)(hn:n<=20)(hv:vars.length+3*n<=400){t:Int}{M:Nat}(hM:2000000<=M){p0 p:Int}(h0:0<=p0)(hp:p0<=p/\p<=p0+1)(h1:p0+(EO n:Int)<=400000):
  Af (Il M rec b p F D vars t (n:Int)) (GE (GF n) (EO n) p0):=by
 have re:=Qm n;unfold Il;refine Af.bind (GM Bb ⟨by omega,by omega⟩ (by simp) (by simp)) λq hq=>?_;have q1:=hq.pos;have q2:=hq.mem;simp only[fu,gT,iB]at q2;refine Af.bind (R:=λd=>0<=d/\d<=4) ?_ λd0 yi=>?_
 ·refine Af.bind (R:=λ_=>True) ?_ λt32 _=>Ci (λ_=>Af.some (by decide)) λ_=>Af.some (by omega);refine Ay (λ_=>Af.some fa) λ_=>?_;exact AS (Hc C.Yy) (Af.some fa)
 refine AS (C.TJ hM) ?_;refine Af.bind (LW C Bb hM (by omega) d0 (p:=q.2) (by omega) (by omega)) λlf mQ=>?_;have l1:=mQ.lo;have l2:=mQ.hi;have l3:=mQ.size;obtain⟨r,hr⟩ :∃r,(CN D d0).length=r:=⟨_,rfl⟩
 have hr3:=C.TP d0;obtain⟨d,hd⟩ :∃d,d=(n-2) / r:=⟨_,rfl⟩
 have uK:d*r<=n-2:=by rw[hd];exact NU _ _
 have rY:d<=n-2:=by rw[hd];exact jZ _ _
 have uJ:=RR n;have fit:5+r*GF d<=GF n/\35+r*EO d<=EO n:=by
  rcases iq r with h|h
  ·rw[h];constructor
   ·have:5<=GF n:=by unfold GF;rw[fr (by omega)];omega
    omega
   ·omega
  ·have:=La (d:=d) h (by omega) qy (by omega);omega
 have:=Re (t:=t) C R qy hn hv (r:=r) (d:=d) hr (λ_=>hd.symm) (by omega) hM (p:=lf.2) (by omega) (by omega) (k0:=4) l3 mQ.Ck;refine Af.bind this ?_;rintro⟨f16,tu⟩ ⟨a1,a2,a3,a4,a5⟩;dsimp only at a1 a2 a3 a4 a5⊢;exact AS rfl (Af.some ⟨by rw[GZ];omega,JG (DU (by omega) (by omega)) (DU (by omega) (by omega)) a4 (by omega),by show p0<=f16;omega,by show f16<=_;omega⟩)
theorem Uv (C:CX D F){b:List Int}(Bb:Bk b){rec:Vj}{n:Nat}(R:RG b D F rec n){vars:List Int}(qy:3<=n)(hn:n<=20)(hv:vars.length+3*n<=400){t:Int}{M:Nat}(hM:2000000<=M){p0 p:Int}(h0:0<=p0)(hp:p0<=p/\p<=p0+1)(h1:p0+(EO n:Int)<=400000):
  Af (Ii M rec b p F D vars t (n:Int)) (GE (GF n) (EO n) p0):=by
 have re:=Qm n;have uJ:=RR n;have tk:=C.dl;have fit1:5+GF (n-2)<=GF n/\40+EO (n-2)<=EO n:=by
  have:=La (r:=1) (d:=n-2) (n:=n) (by omega) (by omega) qy (by omega);omega
 unfold Ii;refine Af.cont (R:=GE (GF n) (EO n) p0) (S:=λf=>p0<=f/\f<=p0+2) ?_ (λr hr=>hr) λf3 hf3=>?_
 ·refine Af.bind (Cb Bb ⟨by omega,by omega⟩) λnH hq=>?_;have q1:=hq.pos;refine Ay (λ_=>?_) λ_=>Af.some (by show p0<=nH.2/\nH.2<=_;omega);have L1:∀{N i:Nat},i<=5->5-i<N->1<=i->Af (Ec M b F D vars t (n:Int) nH rec N i) λv=>match v with|.inl r=>GE (GF n) (EO n) p0 r|.inr _=>True:=by
   intro N i hi hN;refine Bm 5 (λN i=>1<=i->Af (Ec M b F D vars t (n:Int) nH rec N i) λv=>match v with|.inl r=>GE (GF n) (EO n) p0 r|.inr _=>True) ?_ ?_ hi hN
   ·intro m _;rw[Ec,fr (by rw[fy,AM];omega)];exact Af.some fa
   ·intro m i hi ih h1i;rw[Ec];refine Ay (λhle=>?_) λ_=>Af.some fa;rw[AM]at hle;obtain⟨dd,hdd,_⟩:=CE (l:=D) (i:=i-1) (by omega);rw[BP (n:=(i:Int)-1) (by omega) (by omega),show ((i:Int)-1)=((i-1:Nat):Int) by omega,BP (n:=(i:Int)+1) (by omega) (by omega),show ((i:Int)+1)=((i+1:Nat):Int) by omega,BP (n:=(n:Int)-2) (by omega) (by omega),show ((n:Int)-2)=((n-2:Nat):Int) by omega];refine Af.bind (R:=λ_=>True) ?_ λt45 _=>Ci (λ_=>?_) λ_=>ih (by omega)
    ·refine AS (Hc C.Yy) (Ci (λ_=>?_) λ_=>Af.some fa);refine AS (BF hdd) (Ay (λ_=>?_) λ_=>Af.some fa);exact Af.bind (LU C (by omega) hM) λ_ _=>Af.some fa
    ·refine Af.bind (LW C Bb hM (by omega) i (p:=nH.2) (by omega) (by omega)) λlf mQ=>?_;have l1:=mQ.lo;have l2:=mQ.hi;have l3:=mQ.size;refine AS (BF hdd) ?_;refine Af.bind (R (n-2) vars dd.from_ lf.2 (by omega) (by omega) (by omega) (by omega) (by omega)) λs hs=>?_;have r1:=hs.lo;have r2:=hs.hi;have r3:=hs.size;refine AS rfl (Af.some (show GE (GF n) (EO n) p0 _ from ⟨?_,JG (DU (by omega) (by omega)) (DU (by omega) (by omega)) (λe he=>?_) (by simp),by show p0<=s.2;omega,by show s.2<=_;omega⟩))
     ·rw[GZ];simp only[CG];omega
     ·simp only[fu,gT,iB]at he;rcases he with rfl|rfl
      ·exact mQ.Ck
      ·exact hs.Ck
  have l1:=L1 (N:=M) (i:=1) (by omega) (by omega) (by omega);rw[show ((1:Nat):Int)=1 from rfl]at l1;refine Af.cont (R:=GE (GF n) (EO n) p0) (S:=λ_=>True) ?_ (λr hr=>hr) λ_ _=>Af.some (by show p0<=nH.2/\nH.2<=_;omega);exact l1.mono λv hv=>by cases v<;>exact hv
 ·refine AS (C.TJ hM) ?_;have hc3:=C.TP t;have ga:∀(types:List Int) (q:Int) (o m:Int),types.length<=3->p0<=q->q<=p0+10->-1000000<=o/\o<=1000000->-1000000<=m/\m<=1000000->
    Af ((Fk M rec b q F D vars types (Sh.w ((n:Int)-1))).bind λmm=>(Bd o m mm.1).bind λnp=>some (np,mm.2)) (GE (GF n) (EO n) p0):=by
   intro types q o m ht g1 g2 ho hm;rw[BP (n:=(n:Int)-1) (by omega) (by omega),show ((n:Int)-1)=((n-1:Nat):Int) by omega];obtain⟨d,hd⟩ :∃d,d=(n-1) / types.length:=⟨_,rfl⟩
   have uK:d*types.length<=n-1:=by rw[hd];exact NU _ _
   have rY:d<=n-1:=by rw[hd];exact jZ _ _
   have mr:0<types.length->40+types.length*EO d<=EO n:=λh=>(La (d:=d) h ht qy uK).2;have hle:(types.length*EO d:Nat)<=EO n:=by
    rcases iq types.length with h|h
    ·rw[h];omega
    ·have:=mr h;omega
   have tZ:q+(types.length*EO d:Nat)<=400000:=by
    rcases iq types.length with h|h
    ·rw[h];omega
    ·have:=mr h;omega
   refine Af.bind (Sf R ht (bud:=n-1) (by omega) (d:=d) (λ_=>hd.symm) (by omega) (by omega) (by omega) hM (p:=q) (by omega) tZ) ?_;rintro⟨l,q'⟩ g;exact AS rfl (Af.some (VZ (P:=10) ho hm ht qy uK ⟨g1,g2⟩ (by omega) g))
  refine Ay (λmH=>?_) λ_=>?_
  ·rw[AM]at mH⊢;refine Af.bind (Cb Bb ⟨by omega,by omega⟩) λq hq=>?_;have q1:=hq.pos;have q2:=hq.nn;have q3:=hq.lt (by omega);refine Af.get q2 q3 λpA _ yj=>?_;obtain⟨c,rfl,hc⟩:=PH _ yj;obtain⟨fl,e1,e2,_⟩:=C.fields hc hM;have hnc:=C.dU;exact AS e1 (ga fl q.2 6 c e2 (by omega) (by omega) (by omega) (by omega))
  ·refine Ay (λ_=>?_) λ_=>?_
   ·refine Af.bind (LW C Bb hM (by omega) t (p:=f3) (by omega) (by omega)) λlf mQ=>Af.some ⟨by have:=mQ.size;show en lf.1<=_;omega,mQ.Ck,by have:=mQ.lo;show p0<=lf.2;omega,by have:=mQ.hi;show lf.2<=_;omega⟩
   ·refine Af.bind (Cb Bb ⟨by omega,by omega⟩) λq hq=>?_;have q1:=hq.pos;refine Ay (λ_=>ga [0] q.2 5 0 (by simp) (by omega) (by omega) (by omega) (by omega)) λ_=>?_;refine Af.bind (GM Bb ⟨by omega,by omega⟩ (by simp) (by simp)) λqg vv=>?_;have o1:=vv.pos;have o2:=vv.mem;simp only[fu,gT,iB]at o2;exact ga [0,0] qg.2 qg.1 0 (by simp) (by omega) (by omega) (by omega) (by omega)
theorem Yu (C:CX D F){b:List Int}(Bb:Bk b){rec:Vj}{n:Nat}(R:RG b D F rec n){vars:List Int}(hn:n<=20)(hv:vars.length+3*n<=400){t:Int}{M:Nat}(hM:2000000<=M){p:Int}(h0:0<=p)(h1:p+(EO n:Int)<=400000):
  Af (Km M rec b p F D vars t (n:Int)) (GE (GF n) (EO n) p):=by
 have re:=Qm n;have uJ:=RR n;unfold Km;refine Ay (λ_=>?_) λhn3'=>?_
 ·refine Af.bind (LW C Bb hM (by omega) t (p:=p) (by omega) (by omega)) λlf mQ=>Af.some ⟨by have:=mQ.size;show en lf.1<=_;omega,mQ.Ck,mQ.lo,by have:=mQ.hi;show lf.2<=_;omega⟩
 have qy:3<=n:=by omega
 refine Af.cont (R:=GE (GF n) (EO n) p) (S:=λf=>p<=f/\f<=p+1) ?_ (λr hr=>hr) λf8 hf8=>?_
 ·refine Af.bind (Cb Bb ⟨by omega,by omega⟩) λq hq=>?_;have q1:=hq.pos;refine Ay (λ_=>?_) λ_=>?_
  ·refine Af.bind (LW C Bb hM (by omega) t (p:=q.2) (by omega) (by omega)) λlf mQ=>Af.some (show GE (GF n) (EO n) p _ from ⟨by have:=mQ.size;show en lf.1<=_;omega,mQ.Ck,by have:=mQ.lo;show p<=lf.2;omega,by have:=mQ.hi;show lf.2<=_;omega⟩)
  refine Af.bind (R:=λ_=>True) ?_ λt19 _=>Ci (λ_=>?_) λ_=>?_
  ·exact Ay (λ_=>Af.some fa) λ_=>Af.some fa
  ·have ed:Int.tdiv (n:Int) 2=((n / 2:Nat):Int):=rfl;have fit:2*GF (n / 2)+1<=GF n/\2*EO (n / 2)+2<=EO n:=by
    have yi:¬ n / 2=0:=by omega
    have pw:¬ n=0:=by omega
    unfold GF EO;rw[fr yi,fr pw,fr yi,fr pw];omega
   rw[ed];have hd:=jZ n 2;have hd2:n / 2+1<=n:=by omega
   generalize n / 2=d at hd hd2 fit⊢;rw[BP (n:=(d:Int)) (by omega) (by omega)];refine Af.bind (WI C Bb hM (by omega) (p:=q.2) (by omega) (by omega)) λnB hq23=>?_;refine Af.bind (R d vars nB.1 nB.2 (by omega) (by omega) (by omega) (by omega) (by omega)) λs hs=>?_;have r1:=hs.lo;have r2:=hs.hi;have r3:=hs.size;refine AS (Iu (by omega) (by simp)) ?_;refine Af.bind (R d (vars++[nB.1]) t s.2 (by omega) (by omega) (by simp;omega) (by omega) (by omega)) λu hu=>?_;have u1:=hu.lo;have u2:=hu.hi;have u3:=hu.size;refine AS rfl (Af.some (show GE (GF n) (EO n) p _ from ⟨?_,JG (DU (by omega) (by omega)) (DU (by omega) (by omega)) (λe he=>?_) (by simp),by show p<=u.2;omega,by show u.2<=_;omega⟩))
   ·rw[GZ];simp only[CG];omega
   ·simp only[fu,gT,iB]at he;rcases he with rfl|rfl
    ·exact hs.Ck
    ·exact hu.Ck
  have ga:∀(types:List Int) (q:Int) (o m:Int),types.length<=3->p<=q->q<=p+10->-1000000<=o/\o<=1000000->-1000000<=m/\m<=1000000->
    Af ((Fk M rec b q F D vars types (Sh.w ((n:Int)-1))).bind λmm=>(Bd o m mm.1).bind λnp=>some (Sum.inl (np,mm.2))) λv:(AG×Int) ⊕ Int=>match v with|.inl r=>GE (GF n) (EO n) p r|.inr f=>p<=f/\f<=p+1:=by
   intro types q o m ht g1 g2 ho hm;rw[BP (n:=(n:Int)-1) (by omega) (by omega),show ((n:Int)-1)=((n-1:Nat):Int) by omega];obtain⟨d,hd⟩ :∃d,d=(n-1) / types.length:=⟨_,rfl⟩
   have uK:d*types.length<=n-1:=by rw[hd];exact NU _ _
   have rY:d<=n-1:=by rw[hd];exact jZ _ _
   have mr:0<types.length->40+types.length*EO d<=EO n:=λh=>(La (d:=d) h ht qy uK).2;have tZ:q+(types.length*EO d:Nat)<=400000:=by
    rcases iq types.length with h|h
    ·rw[h];omega
    ·have:=mr h;omega
   refine Af.bind (Sf R ht (bud:=n-1) (by omega) (d:=d) (λ_=>hd.symm) (by omega) (by omega) (by omega) hM (p:=q) (by omega) tZ) ?_;rintro⟨l,q'⟩ g;exact AS rfl (Af.some (VZ (P:=10) ho hm ht qy uK ⟨g1,g2⟩ (by omega) g))
  refine Ay (λ_=>(ga [0,t,t] q.2 7 0 (by simp) (by omega) (by omega) (by omega) (by omega)).mono λv hv=>by cases v<;>exact hv) λ_=>?_;refine Af.bind (R:=λ_=>True) ?_ λt35 _=>Ci (λ_=>?_) λ_=>?_
  ·exact Ay (λ_=>Af.some fa) λ_=>Ay (λ_=>Af.some fa) λ_=>Af.some fa
  ·exact Af.bind (U4 C Bb R qy hn hv hM h0 (p:=q.2) (by omega) h1) λr hr=>Af.some (show GE (GF n) (EO n) p _ from hr)
  refine Af.bind (R:=λ_=>True) ?_ λt41 _=>Ci (λ_=>?_) λ_=>Af.some (by show p<=q.2/\q.2<=_;omega)
  ·exact Ay (λ_=>Af.some fa) λ_=>Af.some fa
  refine Af.bind (Uw C hM) λl hl=>?_;refine Ay (λmH=>?_) λ_=>Af.some (by show p<=q.2/\q.2<=_;omega);rw[AM]at mH⊢;refine Af.bind (Cb Bb ⟨by omega,by omega⟩) λpP ta=>?_;have a1:=ta.pos;have a2:=ta.nn;have a3:=ta.lt (by omega);refine Af.get a2 a3 λqC _ yk=>?_;obtain⟨b0,b1⟩:=hl.2 qC yk;refine Af.get b0 b1 λg _ hg=>?_;have hF:=C.fl;exact (ga g.params pP.2 9 qC (C.par g hg) (by omega) (by omega) (by omega) (by omega)).mono λv hv=>by cases v<;>exact hv
 ·exact Af.bind (Uv C Bb R qy hn hv hM h0 hf8 h1) λr hr=>Af.some hr
theorem UC (C:CX D F){b:List Int}(Bb:Bk b){M:Nat}(hM:2000000<=M):∀n:Nat,RG b D F (Ip M n) n
 | 0=>λd _ _ _ hd=>absurd hd (by omega)
 | n+1=>λd vars t p hd h20 hv h0 h1=>by
  rw[Ip];have R:RG b D F (Ip M n) d:=λd' vars' t' p' hd'=>UC C Bb hM n d' vars' t' p' (by omega);exact Yu C Bb R h20 hv hM h0 h1
theorem I0 (C:CX D F){b:List Int}(Bb:Bk b){M:Nat}(hM:2000000<=M){d:Nat}(hd:d<=20){vars:List Int}(hv:vars.length<=100)(t:Int){p:Int}(h0:0<=p)(h1:p<=300000):Af (Gl M b p F D vars t (d:Int)) (GE (GF d) (EO d) p):=by
 have:=cQ hd;exact UC C Bb hM M d vars t p (by omega) hd (by omega) h0 (by omega)
end
end RC
namespace RC
open Go
section
variable {D : List AN} {F : List Ad}
structure GQ (k P:Nat) (p:Int) (q:Int×Int×Int×List AG):Prop where
 size:en ⟨q.2.1,q.2.2.1,q.2.2.2⟩<=k
 Ck:Aq ⟨q.2.1,q.2.2.1,q.2.2.2⟩
 lo:p<=q.1
 hi:q.1<=p+P
theorem GE.parts {k P:Nat}{p:Int}{q:AG×Int}(h:GE k P p q):GQ k P p (q.2,q.1.op,q.1.num,q.1.kids):=by
 obtain⟨e,f⟩:=q;cases e;exact⟨h.size,h.Ck,h.lo,h.hi⟩
theorem UJ (o n:Int)(a b:AG):en ⟨o,n,[a,b]⟩=1+en a+en b:=by rw[GZ];simp only[CG];omega
theorem Z4 (o n:Int)(a b c:AG):en ⟨o,n,[a,b,c]⟩=1+en a+en b+en c:=by rw[GZ];simp only[CG];omega
theorem KQ (o n:Int):en ⟨o,n,[]⟩=1:=by rw[GZ];simp[CG]
theorem Tc {o n:Int}{a b:AG}(ho:-1000000<=o/\o<=1000000)(hn:-1000000<=n/\n<=1000000)(ha:Aq a)(hb:Aq b):Aq ⟨o,n,[a,b]⟩:=
 JG (DU ho.1 ho.2) (DU hn.1 hn.2) (λe he=>by simp only[fu,gT,iB]at he;rcases he with rfl|rfl<;>assumption) (by simp)
theorem Z9 {o n:Int}{a b c:AG}(ho:-1000000<=o/\o<=1000000)(hn:-1000000<=n/\n<=1000000)(ha:Aq a)(hb:Aq b)(hc:Aq c):Aq ⟨o,n,[a,b,c]⟩:=
 JG (DU ho.1 ho.2) (DU hn.1 hn.2) (λe he=>by simp only[fu,gT,iB]at he;rcases he with rfl|rfl|rfl<;>assumption) (by simp)
theorem et {o n:Int}{a:AG}(ho:-1000000<=o/\o<=1000000)(hn:-1000000<=n/\n<=1000000)(ha:Aq a):Aq ⟨o,n,[a]⟩:=
 JG (DU ho.1 ho.2) (DU hn.1 hn.2) (λe he=>by rw[gB]at he;rw[he];exact ha) (by simp)
theorem V6 {b:List Int}(Bb:Bk b){M:Nat}(hM:2000000<=M)(t:Int){p:Int}(h0:0<=p)(h1:p<=500000):Af (JQ M b p t) (GE 20 20 p):=by
 unfold JQ;have li:∀n:Int,0<=n->n<=100->Aq ⟨0,n,[]⟩:=λn a c=>Fl ⟨by omega,by omega⟩ ⟨by omega,by omega⟩;refine AS rfl ?_;refine Ay (λ_=>?_) λ_=>?_
 ·refine AS rfl ?_;refine Af.bind (Cb Bb ⟨by omega,by omega⟩) λq hq=>?_;have q1:=hq.pos;have q2:=hq.nn;have q3:=hq.lt (by omega);refine AS rfl (AS rfl ?_);refine Af.bind (Cb Bb ⟨by omega,by omega⟩) λs hs=>?_;have s1:=hs.pos;have s2:=hs.nn;have s3:=hs.lt (by omega);have l6:Aq ⟨6,2,[]⟩:=Fl ⟨by omega,by omega⟩ ⟨by omega,by omega⟩;refine AS rfl (AS rfl (Af.some ⟨?_,?_,by show p<=s.2;omega,by show s.2<=_;omega⟩))
  ·rw[Z4,Z4,KQ,KQ,KQ];omega
  ·exact Z9 ⟨by omega,by omega⟩ ⟨by omega,by omega⟩ (Z9 ⟨by omega,by omega⟩ ⟨by omega,by omega⟩ l6 (li _ q2 (by omega)) l6) (li _ s2 (by omega)) l6
 ·refine Af.bind (Cb Bb ⟨by omega,by omega⟩) λq hq=>?_;have q1:=hq.pos;have q2:=hq.nn;have q3:=hq.lt (by omega);have key:∀(n:Nat) (N:Nat) (f o m:Int) (k:List AG),n<N->n<=3->p<=f->f+4*n<=p+13->Aq ⟨o,m,k⟩->en ⟨o,m,k⟩+2*n<=7->Af (FX b N n f o m k) (GQ 20 20 p):=by
   intro n
   induction n with
   | zero=>
    intro N f o m k hN _ g1 g2 g3 g4;obtain⟨N,rfl⟩ :∃m,N=m+1:=⟨N-1,by omega⟩
    rw[FX,fr (by simp)];exact Af.some ⟨by show en ⟨o,m,k⟩<=20;omega,g3,g1,by show f<=_;omega⟩
   | succ n ih=>
    intro N f o m k hN hn g1 g2 g3 g4;obtain⟨N,rfl⟩ :∃m,N=m+1:=⟨N-1,by omega⟩
    rw[FX,fq (by rw[fy];omega)];refine Af.bind (N3 Bb (by omega) (by omega)) λs hs=>?_;refine AS rfl (AS rfl ?_);rw[BP (by omega) (by omega),show (((n+1:Nat):Int)-1)=(n:Int) by omega];refine ih N s.2 6 1 _ (by omega) (by omega) (by omega) (by omega) (Tc ⟨by omega,by omega⟩ ⟨by omega,by omega⟩ (Fl ⟨by omega,by omega⟩ ⟨by omega,by omega⟩) g3) ?_;show en ⟨6,1,[⟨0,s.1,[]⟩,⟨o,m,k⟩]⟩+2*n<=7;rw[UJ,KQ];omega
  obtain⟨n,hn⟩:=gv q2;have h3:=key (n+1) M q.2 6 0 [] (by omega) (by omega) (by omega) (by omega) (Fl ⟨by omega,by omega⟩ ⟨by omega,by omega⟩) (by rw[KQ];omega);rw[BP (by omega) (by omega),hn,show (1+(n:Int))=((n+1:Nat):Int) by omega];refine Af.bind h3 ?_;rintro⟨f,o,m,k⟩ g;exact Af.some ⟨g.size,g.Ck,g.lo,g.hi⟩
theorem XK:GF 4=31:=rfl
theorem YK:EO 4=275:=rfl
theorem fX:GF 3=22:=rfl
theorem fN:EO 3=195:=rfl
theorem cy:GF 16=139:=rfl
theorem fA:EO 16=1235:=rfl
theorem Ut (C:CX D F){b:List Int}(Bb:Bk b){M:Nat}(hM:2000000<=M){p:Int}(h0:0<=p)(h1:p<=200000):Af (Iz M b p F D) (GE 1000 3000 p):=by
 unfold Iz;refine Af.bind (GM Bb ⟨by omega,by omega⟩ (by simp) (by simp)) λq hq=>?_;have q1:=hq.pos;refine Af.bind (I0 C Bb hM (d:=16) (by omega) (vars:=[q.1]) (by simp) 0 (p:=q.2) (by omega) (by omega)) λg hg=>?_;have g1:=hg.size;have g2:=hg.lo;have g3:=hg.hi;rw[cy]at g1;rw[fA]at g3;refine Af.bind (R:=GQ 141 2000 p) ?_ ?_
 ·refine Af.bind (Cb Bb ⟨by omega,by omega⟩) λs hs=>?_;have s1:=hs.pos;refine Ay (λ_=>AS rfl (Af.some ?_)) λ_=>Af.some ?_
  ·refine⟨?_,(et ⟨by omega,by omega⟩ ⟨by omega,by omega⟩ hg.Ck:Aq ⟨5,0,[g.1]⟩),by show p<=s.2;omega,by show s.2<=_;omega⟩;show en ⟨5,0,[g.1]⟩<=_;rw[GZ,HB];omega
  ·have:=hg.parts;exact⟨by have:=this.size;rw[cy]at this;dsimp only at this⊢;omega,this.Ck,by show p<=s.2;omega,by show s.2<=_;omega⟩
 ·rintro⟨f,o,m,k⟩ g;have a1:=g.size;have a2:=g.lo;have a3:=g.hi;have a4:=g.Ck;dsimp only at a1 a2 a3 a4⊢;refine Af.bind (V6 Bb hM q.1 (p:=f) (by omega) (by omega)) λl hl=>?_;have l1:=hl.size;have l2:=hl.lo;have l3:=hl.hi;refine AS rfl (Af.some ⟨by rw[UJ];omega,Tc ⟨by omega,by omega⟩ ⟨by omega,by omega⟩ hl.Ck a4,by show p<=l.2;omega,by show l.2<=_;omega⟩)
theorem Uu (C:CX D F){b:List Int}(Bb:Bk b){M:Nat}(hM:2000000<=M){f:Nat}(hf:f<F.length){a:Nat}(ha:a<=3){p:Int}(h0:0<=p)(h1:p<=200000):Af (Iy M b p F D f a) (GE 1000 3000 p):=by
 have qM:=C.fl;obtain⟨g,hg,ph⟩:=CE hf;have vu:=C.par g ph;unfold Iy;refine AS (BF hg) (AS (Iu (by omega) (by simp)) ?_);have key:∀{N i:Nat},i<=g.params.length->g.params.length-i<N->∀(q:Int) (acc:List AG),p<=q->q<=p+i->acc.length=i->(∀e∈acc,Aq e)->CG acc<=3*i->
   Af (Ea g b a N i q acc) λr=>p<=r.1/\r.1<=p+3/\r.2.length<=3/\(∀e∈r.2,Aq e)/\CG r.2<=9:=by
  intro N i hi hN;refine Bm g.params.length (λN i=>∀(q:Int) (acc:List AG),p<=q->q<=p+i->acc.length=i->(∀e∈acc,Aq e)->CG acc<=3*i->
   Af (Ea g b a N i q acc) λr=>p<=r.1/\r.1<=p+3/\r.2.length<=3/\(∀e∈r.2,Aq e)/\CG r.2<=9) ?_ ?_ hi hN
  ·intro n q acc g1 g2 g3 g4 g5;rw[Ea,fr (by simp[AM])];exact Af.some ⟨g1,by show q<=_;omega,by show acc.length<=3;omega,g4,by show CG acc<=9;omega⟩
  ·intro n i hi ih q acc g1 g2 g3 g4 g5;obtain⟨t,ht,_⟩:=CE hi;rw[Ea,fq (by rw[fy,AM];omega),BP (n:=(i:Int)+1) (by omega) (by omega),show ((i:Int)+1)=((i+1:Nat):Int) by omega,AM];have ap:∀{e:AG} {s:Int},Aq e->en e<=3->p<=s->s<=p+(i+1:Nat)->Af ((Sh.app acc [e] 40).bind λtQ=>some (s,tQ)) λr:Int×List AG=>p<=r.1/\r.1<=p+(i+1:Nat)/\r.2.length=i+1/\(∀e∈r.2,Aq e)/\CG r.2<=3*(i+1):=λhe h3 zk hs2=>
    Af.app (by simp;omega) (by simp;omega) (Af.some ⟨zk,hs2,by simp;omega,λx hx=>by
     rcases gS.1 hx with h5|h5
     ·exact g4 x h5
     ·rw[gB]at h5;rw[h5];exact he,by show CG (acc++_)<=_;rw[II,HB];omega⟩)
   have vi:∀{n:Int},0<=n->n<=100->Aq ⟨12,n,[]⟩:=λa c=>Fl ⟨by omega,by omega⟩ ⟨by omega,by omega⟩;refine Af.bind (R:=λr:Int×List AG=>p<=r.1/\r.1<=p+(i+1:Nat)/\r.2.length=i+1/\(∀e∈r.2,Aq e)/\CG r.2<=3*(i+1)) ?_ λr hr=>ih r.1 r.2 hr.1 hr.2.1 hr.2.2.1 hr.2.2.2.1 hr.2.2.2.2;refine Ay (λ_=>?_) λ_=>?_
   ·rw[BP (n:=(g.params.length:Int)+1) (by omega) (by omega)];exact AS rfl (ap (vi (by omega) (by omega)) (by rw[KQ];omega) g1 (by omega))
   ·refine Af.bind (R:=λr:Bool×Int=>p<=r.2/\r.2<=p+(i+1:Nat)) ?_ ?_
    ·refine AS (BF ht) (Ay (λ_=>?_) λ_=>Af.some (by show p<=q/\q<=_;omega));exact Af.bind (Cb Bb ⟨by omega,by omega⟩) λs hs=>Af.some (by have:=hs.pos;show p<=s.2/\s.2<=_;omega)
    ·rintro⟨t70,f71⟩ ⟨a1,a2⟩;dsimp only at a1 a2⊢;refine Ci (λ_=>?_) λ_=>?_
     ·exact AS rfl (AS rfl (AS rfl (ap (Tc ⟨by omega,by omega⟩ ⟨by omega,by omega⟩ (vi (by omega) (by omega)) (vi (by omega) (by omega))) (by rw[UJ,KQ,KQ];omega) a1 a2)))
     ·exact AS rfl (ap (vi (by omega) (by omega)) (by rw[KQ];omega) a1 a2)
 have k:=key (gK _) (by omega:g.params.length-0<M) p [] (by omega) (by omega) rfl (by simp) (by simp[CG]);rw[lI]at k;refine Af.bind k ?_;rintro⟨f13,mf⟩ ⟨a1,a2,a3,a4,a5⟩;dsimp only at a1 a2 a3 a4 a5⊢;have again:Aq ⟨9,f,mf⟩:=JG (DU (by omega) (by omega)) (DU (by omega) (by omega)) a4 (by omega);have ea:en ⟨9,(f:Int),mf⟩<=10:=by rw[GZ];omega
 refine AS rfl ?_;have tW:(g.params++[(0:Int),1]).length<=100:=by simp;omega
 refine Af.bind (R:=GQ 200 1000 p) ?_ ?_
 ·refine Af.bind (R:=λr:Bool×Int=>p<=r.2/\r.2<=p+4) ?_ ?_
  ·refine Ay (λ_=>?_) λ_=>Af.some (by show p<=f13/\f13<=_;omega);exact Af.bind (Cb Bb ⟨by omega,by omega⟩) λs hs=>Af.some (by have:=hs.pos;show p<=s.2/\s.2<=_;omega)
  ·rintro⟨t30,f31⟩ ⟨b1,b2⟩;dsimp only at b1 b2⊢;refine Ci (λ_=>?_) λ_=>?_
   ·refine Af.bind (I0 C Bb hM (d:=4) (by omega) tW 0 (p:=f31) (by omega) (by omega)) λoe hq=>?_;have c1:=hq.size;have c2:=hq.lo;have c3:=hq.hi;rw[XK]at c1;rw[YK]at c3;refine Af.bind (R:=λr:Int×Int×List AG=>en ⟨r.1,r.2.1,r.2.2⟩<=31/\Aq ⟨r.1,r.2.1,r.2.2⟩) ?_ ?_
    ·refine Af.bind (R:=λ_=>True) ?_ λt43 _=>Ci (λ_=>?_) λ_=>Af.some ?_
     ·refine Ay (λh=>?_) λ_=>Af.some fa;rw[AM]at h;exact Af.get (by omega) (by omega) λ_ _ _=>Af.some fa
     ·rw[AM];refine AS rfl (AS rfl (AS rfl (Af.some ⟨?_,?_⟩)))
      ·show en ⟨11,0,[⟨12,0,[]⟩,⟨12,(g.params.length:Int),[]⟩]⟩<=31;rw[UJ,KQ,KQ];omega
      ·exact (Tc ⟨by omega,by omega⟩ ⟨by omega,by omega⟩ (Fl ⟨by omega,by omega⟩ ⟨by omega,by omega⟩) (Fl ⟨by omega,by omega⟩ ⟨by omega,by omega⟩):Aq ⟨11,0,[⟨12,0,[]⟩,⟨12,(g.params.length:Int),[]⟩]⟩)
     ·have:=hq.parts;exact⟨by have:=this.size;dsimp only at this⊢;rw[XK]at this;exact this,this.Ck⟩
    ·rintro⟨f37,f38,f39⟩ ⟨d1,d2⟩;dsimp only at d1 d2⊢;refine AS rfl (Af.some ⟨?_,(Tc ⟨by omega,by omega⟩ ⟨by omega,by omega⟩ d2 again:Aq ⟨6,1,[⟨f37,f38,f39⟩,⟨9,(f:Int),mf⟩]⟩),by show p<=oe.2;omega,by show oe.2<=_;omega⟩);show en ⟨6,1,[⟨f37,f38,f39⟩,⟨9,(f:Int),mf⟩]⟩<=200;rw[UJ];omega
   ·refine Ay (λ_=>?_) λ_=>Af.some ⟨by show en ⟨9,(f:Int),mf⟩<=200;omega,again,by show p<=f31;omega,by show f31<=_;omega⟩;refine Af.bind (GM Bb ⟨by omega,by omega⟩ (by simp) (by simp)) λqi vw=>?_;have o1:=vw.pos;have o2:=vw.mem;simp only[fu,gT,iB]at o2;refine Af.bind (I0 C Bb hM (d:=4) (by omega) tW 0 (p:=qi.2) (by omega) (by omega)) λrO hq=>?_;have c1:=hq.size;have c2:=hq.lo;have c3:=hq.hi;rw[XK]at c1;rw[YK]at c3;refine AS rfl (Af.some ⟨?_,(Tc ⟨by omega,by omega⟩ ⟨by omega,by omega⟩ hq.Ck again:Aq ⟨qi.1,0,[rO.1,⟨9,(f:Int),mf⟩]⟩),by show p<=rO.2;omega,by show rO.2<=_;omega⟩);show en ⟨qi.1,0,[rO.1,⟨9,(f:Int),mf⟩]⟩<=200;rw[UJ];omega
 ·rintro⟨f20,o,m,k⟩ g20;have b1:=g20.size;have b2:=g20.lo;have b3:=g20.hi;have b4:=g20.Ck;dsimp only at b1 b2 b3 b4⊢;refine AS rfl ?_;refine Af.bind (I0 C Bb hM (d:=4) (by omega) (vars:=g.params) (by omega) g.result (p:=f20) (by omega) (by omega)) λq hq=>?_;have c1:=hq.size;have c2:=hq.lo;have c3:=hq.hi;rw[XK]at c1;rw[YK]at c3;refine AS rfl (Af.some ⟨by rw[Z4,KQ];omega,Z9 ⟨by omega,by omega⟩ ⟨by omega,by omega⟩ (Fl ⟨by omega,by omega⟩ ⟨by omega,by omega⟩) hq.Ck b4,by show p<=q.2;omega,by show q.2<=_;omega⟩)
end
end RC
namespace RC
open Go
section
variable {D : List AN} {F : List Ad}
theorem U3 (C:CX D F){b:List Int}(Bb:Bk b){M:Nat}(hM:2000000<=M){f:Nat}(hf:f<F.length){g:Ad}(hg:F[f]?=some g)(hg1:0<g.params.length){p:Int}(h0:0<=p)(h1:p<=200000):Af (Iq M b p F D f) (GE 1000 3000 p):=by
 have qM:=C.fl;have ph:=fc hg;have vu:=C.par g ph;unfold Iq;have vi:∀{n:Int},0<=n->n<=100->Aq ⟨12,n,[]⟩:=λa c=>Fl ⟨by omega,by omega⟩ ⟨by omega,by omega⟩;refine AS (BF hg) ?_;rw[AM,BP (n:=(g.params.length:Int)+2) (by omega) (by omega)];refine AS rfl (AS rfl ?_);have key:∀{N i:Nat},i<=g.params.length->g.params.length-i<N->∀(x y:List AG),x.length=i->y.length=i->(∀e∈x,Aq e)->(∀e∈y,Aq e)->CG x<=i->CG y<=i->
   Af (EW g N i x y) λr=>r.1.length<=3/\r.2.length<=3/\(∀e∈r.1,Aq e)/\(∀e∈r.2,Aq e)/\CG r.1<=3/\CG r.2<=3:=by
  intro N i hi hN;refine Bm g.params.length (λN i=>∀(x y:List AG),x.length=i->y.length=i->(∀e∈x,Aq e)->(∀e∈y,Aq e)->CG x<=i->CG y<=i->
   Af (EW g N i x y) λr=>r.1.length<=3/\r.2.length<=3/\(∀e∈r.1,Aq e)/\(∀e∈r.2,Aq e)/\CG r.1<=3/\CG r.2<=3) ?_ ?_ hi hN
  ·intro n x y g1 g2 g3 g4 g5 g6;rw[EW,fr (by simp[AM])];exact Af.some ⟨by show x.length<=3;omega,by show y.length<=3;omega,g3,g4,by show CG x<=3;omega,by show CG y<=3;omega⟩
  ·intro n i hi ih x y g1 g2 g3 g4 g5 g6;rw[EW,fq (by rw[fy,AM];omega),BP (n:=(i:Int)+1) (by omega) (by omega),show ((i:Int)+1)=((i+1:Nat):Int) by omega];have hm:∀(l:List AG),(∀e∈l,Aq e)->∀e∈l++[AG.mk 12 (i:Int) []],Aq e:=λl hl e he=>by
    rcases gS.1 he with h5|h5
    ·exact hl e h5
    ·rw[gB]at h5;rw[h5];exact vi (by omega) (by omega)
   refine AS rfl (Af.app (by simp;omega) (by simp;omega) (AS rfl (Af.app (by simp;omega) (by simp;omega) ?_)));exact ih _ _ (by simp;omega) (by simp;omega) (hm x g3) (hm y g4) (by rw[II,HB,KQ];omega) (by rw[II,HB,KQ];omega)
 have k:=key (i:=1) (by omega) (by omega:g.params.length-1<M) [⟨12,(g.params.length:Int),[]⟩] [⟨12,(g.params.length:Int)+2,[]⟩] rfl rfl
  (λe he=>by rw[gB]at he;rw[he];exact vi (by omega) (by omega)) (λe he=>by rw[gB]at he;rw[he];exact vi (by omega) (by omega)) (by rw[HB,KQ];omega) (by rw[HB,KQ];omega)
 rw[show ((1:Nat):Int)=1 from rfl]at k;refine Af.bind k ?_;rintro⟨mf,rP⟩ ⟨a1,a2,a3,a4,a5,a6⟩;dsimp only at a1 a2 a3 a4 a5 a6⊢;have i18:Aq ⟨9,f,mf⟩:=JG (DU (by omega) (by omega)) (DU (by omega) (by omega)) a3 (by omega);have i20:Aq ⟨9,f,rP⟩:=JG (DU (by omega) (by omega)) (DU (by omega) (by omega)) a4 (by omega);have e18:en ⟨9,(f:Int),mf⟩<=4:=by rw[GZ];omega
 have e20:en ⟨9,(f:Int),rP⟩<=4:=by rw[GZ];omega
 have tW:(g.params++[(3:Int),0,3]).length<=100:=by simp;omega
 refine AS rfl (AS rfl (AS (Iu (by omega) (by simp)) ?_));refine Af.bind (I0 C Bb hM (d:=4) (by omega) tW 0 (p:=p) (by omega) (by omega)) λnB hq=>?_;have c1:=hq.size;have c2:=hq.lo;have c3:=hq.hi;rw[XK]at c1;rw[YK]at c3;refine AS rfl (AS rfl ?_);refine Af.bind (R:=GQ 200 1000 p) ?_ ?_
 ·refine Ay (λ_=>?_) λ_=>Af.some ⟨?_,(Tc ⟨by omega,by omega⟩ ⟨by omega,by omega⟩ i18 (Tc ⟨by omega,by omega⟩ ⟨by omega,by omega⟩ hq.Ck i20):Aq ⟨1,0,[⟨9,(f:Int),mf⟩,⟨1,0,[nB.1,⟨9,(f:Int),rP⟩]⟩]⟩),by show p<=nB.2;omega,by show nB.2<=_;omega⟩
  ·refine AS (Iu (by omega) (by simp)) ?_;refine Af.bind (I0 C Bb hM (d:=4) (by omega) tW 0 (p:=nB.2) (by omega) (by omega)) λqB wV=>?_;have d1:=wV.size;have d2:=wV.lo;have d3:=wV.hi;rw[XK]at d1;rw[YK]at d3;refine AS rfl (AS rfl (Af.some ⟨?_,(Z9 ⟨by omega,by omega⟩ ⟨by omega,by omega⟩ i18 wV.Ck (vi (by omega) (by omega)):Aq ⟨6,3,[⟨9,(f:Int),mf⟩,qB.1,⟨12,(g.params.length:Int)+2,[]⟩]⟩),by show p<=qB.2;omega,by show qB.2<=_;omega⟩));show en ⟨6,3,[⟨9,(f:Int),mf⟩,qB.1,⟨12,(g.params.length:Int)+2,[]⟩]⟩<=200;rw[Z4,KQ];omega
  ·show en ⟨1,0,[⟨9,(f:Int),mf⟩,⟨1,0,[nB.1,⟨9,(f:Int),rP⟩]⟩]⟩<=200;rw[UJ,UJ];omega
 ·rintro⟨f20,o,m,k⟩ g20;have b1:=g20.size;have b2:=g20.lo;have b3:=g20.hi;have b4:=g20.Ck;dsimp only at b1 b2 b3 b4⊢;refine AS rfl ?_;refine Af.bind (I0 C Bb hM (d:=4) (by omega) (vars:=g.params) (by omega) g.result (p:=f20) (by omega) (by omega)) λq hq=>?_;have c1:=hq.size;have c2:=hq.lo;have c3:=hq.hi;rw[XK]at c1;rw[YK]at c3;refine AS rfl (Af.some ⟨by rw[Z4,KQ];omega,Z9 ⟨by omega,by omega⟩ ⟨by omega,by omega⟩ (vi (by omega) (by omega)) hq.Ck b4,by show p<=q.2;omega,by show q.2<=_;omega⟩)
theorem VC (C:CX D F){b:List Int}(Bb:Bk b){M:Nat}(hM:2000000<=M){f:Nat}(hf:f<F.length){g:Ad}(hg:F[f]?=some g)(hg1:0<g.params.length){p:Int}(h0:0<=p)(h1:p<=200000):Af (Im M b p F D f) (GE 1000 3000 p):=by
 have qM:=C.fl;have ph:=fc hg;have vu:=C.par g ph;unfold Im;have vi:∀{n:Int},0<=n->n<=100->Aq ⟨12,n,[]⟩:=λa c=>Fl ⟨by omega,by omega⟩ ⟨by omega,by omega⟩;have li:∀{n:Int},0<=n->n<=100->Aq ⟨0,n,[]⟩:=λa c=>Fl ⟨by omega,by omega⟩ ⟨by omega,by omega⟩;refine AS (BF hg) (AS rfl (AS rfl (AS rfl ?_)));have key:∀{N i:Nat},i<=g.params.length->g.params.length-i<N->∀(q:Int) (acc:List AG),p<=q->q<=p+30*i->acc.length=i->(∀e∈acc,Aq e)->CG acc<=4*i->
   Af (EU M g b F D N i q acc) λr=>p<=r.1/\r.1<=p+90/\r.2.length<=3/\(∀e∈r.2,Aq e)/\CG r.2<=12:=by
  intro N i hi hN;refine Bm g.params.length (λN i=>∀(q:Int) (acc:List AG),p<=q->q<=p+30*i->acc.length=i->(∀e∈acc,Aq e)->CG acc<=4*i->
   Af (EU M g b F D N i q acc) λr=>p<=r.1/\r.1<=p+90/\r.2.length<=3/\(∀e∈r.2,Aq e)/\CG r.2<=12) ?_ ?_ hi hN
  ·intro n q acc g1 g2 g3 g4 g5;rw[EU,fr (by simp[AM])];exact Af.some ⟨g1,by show q<=_;omega,by show acc.length<=3;omega,g4,by show CG acc<=12;omega⟩
  ·intro n i hi ih q acc g1 g2 g3 g4 g5;obtain⟨t,ht,_⟩:=CE hi;rw[EU,fq (by rw[fy,AM];omega),BP (n:=(i:Int)+1) (by omega) (by omega),show ((i:Int)+1)=((i+1:Nat):Int) by omega];refine AS (BF ht) ?_;refine Af.bind (LW C Bb hM (by omega) t (p:=q) (by omega) (by omega)) λs hs=>?_;have s1:=hs.size;have s2:=hs.lo;have s3:=hs.hi;refine Af.app (by simp;omega) (by simp;omega) ?_;refine ih s.2 (acc++[s.1]) (by omega) (by omega) (by simp;omega) (λe he=>?_) (by rw[II,HB];omega);rcases gS.1 he with h5|h5
   ·exact g4 e h5
   ·rw[gB]at h5;rw[h5];exact hs.Ck
 have k:=key (i:=1) (by omega) (by omega:g.params.length-1<M) p [⟨2,0,[⟨12,0,[]⟩,⟨0,1,[]⟩]⟩] (by omega) (by omega) rfl (λe he=>by rw[gB]at he;rw[he];exact Tc ⟨by omega,by omega⟩ ⟨by omega,by omega⟩ (vi (by omega) (by omega)) (li (by omega) (by omega))) (by rw[HB,UJ,KQ,KQ];omega);rw[show ((1:Nat):Int)=1 from rfl]at k;refine Af.bind k ?_;rintro⟨f13,mf⟩ ⟨a1,a2,a3,a4,a5⟩;dsimp only at a1 a2 a3 a4 a5⊢;have again:Aq ⟨9,f,mf⟩:=JG (DU (by omega) (by omega)) (DU (by omega) (by omega)) a4 (by omega);have ea:en ⟨9,(f:Int),mf⟩<=13:=by rw[GZ];omega
 refine AS rfl ?_;refine Af.bind (R:=GQ 200 1000 p) ?_ ?_
 ·refine Ay (λ_=>?_) λ_=>Af.some ⟨by show en ⟨9,(f:Int),mf⟩<=200;omega,again,by show p<=f13;omega,by show f13<=_;omega⟩;refine Af.bind (I0 C Bb hM (d:=3) (by omega) (vars:=g.params) (by omega) 0 (p:=f13) (by omega) (by omega)) λpQ hq=>?_;have c1:=hq.size;have c2:=hq.lo;have c3:=hq.hi;rw[fX]at c1;rw[fN]at c3;refine AS rfl (Af.some ⟨?_,(Tc ⟨by omega,by omega⟩ ⟨by omega,by omega⟩ hq.Ck again:Aq ⟨6,1,[pQ.1,⟨9,(f:Int),mf⟩]⟩),by show p<=pQ.2;omega,by show pQ.2<=_;omega⟩);show en ⟨6,1,[pQ.1,⟨9,(f:Int),mf⟩]⟩<=200;rw[UJ];omega
 ·rintro⟨f20,o,m,k⟩ g20;have b1:=g20.size;have b2:=g20.lo;have b3:=g20.hi;have b4:=g20.Ck;dsimp only at b1 b2 b3 b4⊢;refine AS rfl (AS rfl (AS rfl ?_));refine Af.bind (I0 C Bb hM (d:=4) (by omega) (vars:=g.params) (by omega) g.result (p:=f20) (by omega) (by omega)) λq hq=>?_;have c1:=hq.size;have c2:=hq.lo;have c3:=hq.hi;rw[XK]at c1;rw[YK]at c3;refine AS rfl (Af.some ⟨by rw[Z4,UJ,KQ,KQ];omega,Z9 ⟨by omega,by omega⟩ ⟨by omega,by omega⟩ (Tc ⟨by omega,by omega⟩ ⟨by omega,by omega⟩ (li (by omega) (by omega)) (vi (by omega) (by omega))) b4 hq.Ck,by show p<=q.2;omega,by show q.2<=_;omega⟩)
theorem Q5 (C:CX D F){b:List Int}(Bb:Bk b){M:Nat}(hM:2000000<=M){vars:List Int}(hv:vars.length<=100)(t:Int){B:Nat}(hB:B<=18){p:Int}(h0:0<=p)(h1:p<=200000):Af (IE M b p F D vars t (B:Int)) (GE 200 3000 p):=by
 have vx:∀d,d<=18->GF d<=157:=λd h=>by unfold GF;split<;>omega
 have ym:∀d,d<=18->EO d<=1395:=λd h=>by unfold EO;split<;>omega
 have key:∀(B N:Nat) (f o m:Int) (k:List AG),B<N->B<=18->p<=f->f+80*B<=p+2900->Aq ⟨o,m,k⟩->en ⟨o,m,k⟩<=200->Af (Fz M b F D vars t N B f o m k) (GQ 200 3000 p):=by
  intro B
  induction B using Nat.strongRecOn with
  | _ B ih=>
   intro N f o m k hN hB g1 g2 g3 g4;obtain⟨N,rfl⟩ :∃m,N=m+1:=⟨N-1,by omega⟩
   rw[Fz];refine Af.bind (R:=λc=>c=true->2<B) ?_ λc hc=>Ci (λh=>?_) λ_=>Af.some ⟨g4,g3,g1,by show f<=_;omega⟩
   ·refine AS (Gk (by have:=GZ o m k;show CG k<=_;omega) hM) (Ay (λ_=>Af.some λh=>by rw[fy]at h;omega) λ_=>Af.some λh=>by cases h)
   ·have hB2:=hc h;have ed:Int.tdiv (B:Int) 2=((B / 2:Nat):Int):=rfl;have hd:2*(B / 2)<=B:=by omega
    have hd1:1<=B / 2:=by omega
    have zo:B / 2<B:=by omega
    rw[ed];generalize B / 2=d at hd hd1 zo⊢;have re:EO d<=80*d:=by unfold EO;rw[fr (by omega)];omega
    rw[BP (n:=(d:Int)) (by omega) (by omega)];refine Af.bind (I0 C Bb hM (d:=d) (by omega) hv t (p:=f) (by omega) (by omega)) λq hq=>?_;have q1:=hq.lo;have q2:=hq.hi;have q3:=hq.size;have q4:=vx d (by omega);have q5:=hq.parts;exact ih d zo N q.2 q.1.op q.1.num q.1.kids (by omega) (by omega) (by omega) (by omega) q5.Ck (by have:=q5.size;dsimp only at this;omega)
 unfold IE;refine Af.bind (I0 C Bb hM (d:=B) (by omega) hv t (p:=p) (by omega) (by omega)) λq hq=>?_;have q1:=hq.lo;have q2:=hq.hi;have q3:=hq.size;have q4:=vx B hB;have q6:=ym B hB;have q5:=hq.parts;refine Af.bind (key B M q.2 q.1.op q.1.num q.1.kids (by omega) hB (by omega) (by omega) q5.Ck (by have:=q5.size;dsimp only at this;omega)) ?_;rintro⟨f,o,m,k⟩ g;exact Af.some ⟨g.size,g.Ck,g.lo,g.hi⟩
theorem Wf {l:List Int}(hl:l.length<=3){x:Int}{M:Nat}(hM:2000000<=M):Af (JP M l x) λr=>r=-1∨(0<=r/\r<(l.length:Int)):=by
 have key:∀{N i:Nat},i<=l.length->l.length-i<N->Af (Et l x N i) λv=>match v with|.inl r=>0<=r/\r<(l.length:Int)|.inr _=>True:=by
  intro N i hi hN;refine Bm l.length (λN i=>Af (Et l x N i) λv=>match v with|.inl r=>0<=r/\r<(l.length:Int)|.inr _=>True) ?_ ?_ hi hN
  ·intro n;rw[Et,fr (by simp[AM])];exact Af.some fa
  ·intro n i hi ih;obtain⟨y,hy,_⟩:=CE hi;rw[Et,fq (by rw[fy,AM];omega),BP (n:=(i:Int)+1) (by omega) (by omega),show ((i:Int)+1)=((i+1:Nat):Int) by omega];refine AS (BF hy) (Ay (λ_=>Af.some (show 0<=(i:Int)/\(i:Int)<_ by omega)) λ_=>ih)
 unfold JP;have k:=key (gK _) (by omega:l.length-0<M);rw[lI]at k;refine Af.cont (R:=λr=>0<=r/\r<(l.length:Int)) (S:=λ_=>True) (k.mono λv hv=>by cases v<;>exact hv) (λr hr=>.inr hr) λ_ _=>Af.some (.inl rfl)
theorem W9 (C:CX D F){b:List Int}(Bb:Bk b){M:Nat}(hM:2000000<=M){f:Nat}(hf:f<F.length){p:Int}(h0:0<=p)(h1:p<=150000):Af (Jv M b p F D f) (GE 1000 7000 p):=by
 have qM:=C.fl;obtain⟨g,hg,ph⟩:=CE hf;have vu:=C.par g ph;unfold Jv;refine AS (BF hg) ?_;refine Af.bind (Wf vu hM) λa ha=>?_;refine AS rfl ?_;refine Af.bind (Cb Bb ⟨by omega,by omega⟩) λme hq=>?_;have q1:=hq.pos;have fin:∀{x:Option (AG×Int)},Af x (GE 1000 3000 me.2)->Af (Option.bind x λnd=>some (nd.2,nd.1.op,nd.1.num,nd.1.kids)) (GQ 1000 3500 p):=λhx=>
  Af.bind hx λr hr=>Af.some (by
   have:=hr.parts;exact⟨this.size,this.Ck,by have:=this.lo;dsimp only at this⊢;omega,by have:=this.hi;dsimp only at this⊢;omega⟩)
 refine Af.bind (R:=GQ 1000 3500 p) ?_ ?_
 ·refine Af.bind (R:=λ_=>True) (Ay (λ_=>Af.some fa) λ_=>Af.some fa) λt25 _=>Ci (λ_=>fin (Ut C Bb hM (by omega) (by omega))) λ_=>?_;refine Af.bind (R:=λt=>t=true->0<=a) ?_ λt30 yn=>Ci (λh=>?_) λ_=>?_
  ·refine Ay (λ_=>Ay (λh=>?_) λ_=>Af.some λh=>by cases h) λ_=>Af.some λh=>by cases h
   exact Ay (λ_=>Af.some λ_=>h) λ_=>Af.some λ_=>h
  ·have ha0:=yn h;obtain⟨an,rfl⟩:=gv ha0;exact fin (Uu C Bb hM hf (by omega) (by omega) (by omega))
  have pos:∀(z:Int),Af (if decide (me.1<3)=true then
      if (decide (0<(Sh.len g.params)))=true then
       (Sh.get g.params 0).bind λvU=>
       if (decide (vU=z))=true then
        if (decide (g.result=0))=true then
         some true
        else
         some (decide (g.result=(if z=3 then 3 else 1)))
       else
        some false
      else
       some false
     else
      some false) λt=>t=true->0<g.params.length:=by
   intro z;refine Ay (λ_=>Ay (λh=>?_) λ_=>Af.some λh=>by cases h) λ_=>Af.some λh=>by cases h
   rw[AM]at h;refine Af.get (by omega) (by omega) λc _ _=>?_;refine Ay (λ_=>Ay (λ_=>Af.some λ_=>by omega) λ_=>Af.some λ_=>by omega) λ_=>Af.some λh=>by cases h
  refine Af.bind (pos 3) λt35 yp=>Ci (λh=>fin (U3 C Bb hM hf hg (yp h) (by omega) (by omega))) λ_=>?_;refine Af.bind (pos 0) λt40 yr=>Ci (λh=>fin (VC C Bb hM hf hg (yr h) (by omega) (by omega))) λ_=>?_;have:=Q5 C Bb hM (vars:=g.params) (by omega) g.result (B:=18) (by omega) (p:=me.2) (by omega) (by omega);exact fin (this.mono λr hr=>hr.up (by omega) (by omega))
 ·rintro⟨f12,o,m,k⟩ g12;have b1:=g12.size;have b2:=g12.lo;have b3:=g12.hi;have b4:=g12.Ck;dsimp only at b1 b2 b3 b4⊢;refine AS (Gk (by have:=GZ o m k;show CG k<=_;omega) hM) (Ay (λ_=>?_) λ_=>Af.some ⟨b1,b4,b2,by show f12<=_;omega⟩);have:=Q5 C Bb hM (vars:=g.params) (by omega) g.result (B:=12) (by omega) (p:=f12) (by omega) (by omega);refine Af.bind this λr hr=>Af.some ⟨by have:=hr.size;show en r.1<=_;omega,hr.Ck,by have:=hr.lo;show p<=r.2;omega,by have:=hr.hi;show r.2<=_;omega⟩
end
end RC
namespace RC
open Go
theorem da (n:Int):IB (Sh.w n):=by
 unfold Sh.w IB;rw[IntKind.wrap_i64];omega
def cn (l:List Int):Dd:=⟨l⟩
def gD:List AN:=[⟨0,0,[⟨[]⟩,⟨[0,1]⟩]⟩,⟨0,0,[]⟩,⟨0,0,[⟨[]⟩,⟨[3,0,3]⟩]⟩]
def gL:List AN:=[⟨0,0,[⟨[1,3]⟩]⟩,⟨1,0,[]⟩,⟨0,0,[⟨[1,1,0]⟩,⟨[0]⟩,⟨[3]⟩]⟩,⟨0,1,[]⟩]
def GD (D:List AN):Prop:=D=gD∨∃d∈gL,D=gD++[d]
theorem Ok {b:List Int}(Bb:Bk b){p:Int}(h0:0<=p)(h1:p<=500000):Af (G2 b p) λq=>GD q.1/\q.2=p+1:=by
 unfold G2;refine AS rfl (AS rfl (AS rfl (AS rfl (AS rfl (AS rfl (AS rfl (AS rfl ?_)))))));refine Af.bind (Cb Bb ⟨by omega,by omega⟩) λq hq=>?_;have q1:=hq.pos;have q2:=hq.nn;have q3:=hq.lt (by omega);refine Af.bind (R:=GD) ?_ λl hl=>Af.some ⟨hl,q1⟩;refine Ay (λ_=>?_) λ_=>Af.some (.inl rfl);refine Af.get q2 (by simp;omega) λc _ hc=>?_;refine Af.app (by simp) (by simp) (Af.some (.inr ⟨c,?_,rfl⟩));exact hc
structure ep (F:List Ad):Prop where
 fl:F.length<=4
 aK:1<=F.length
 par :∀f∈F,f.params.length<=3
 cl :∀f∈F,(∀x∈f.params,x=0∨x=1∨x=3)∨(f.params=[2,1]/\f.result=1)
theorem CX.of {D:List AN}{F:List Ad}(hD:GD D)(S:ep F):CX D F:=by
 have all:∀{D:List AN},D.length<=4->nc D<=7->(∀d∈D,d.cons.length<=3)->(∀d∈D,∀c∈d.cons,c.fields.length<=3/\∀x∈c.fields,x=0∨x=1∨x=3)->CN D 1=[0,1]->CN D 3=[2,3]->
   HO D 0 0=some (1,⟨[]⟩)->HO D 0 1=some (1,⟨[0,1]⟩)->HO D 0 2=some (3,⟨[]⟩)->HO D 0 3=some (3,⟨[3,0,3]⟩)->HP 1 1 D 0=-1->CX D F:=λa b c d e f g h i j k=>
  ⟨a,b,c,d,e,f,⟨_,g⟩,⟨_,h⟩,⟨_,i⟩,⟨_,j⟩,k,S.fl,S.aK,S.par,S.cl⟩
 rcases hD with rfl|⟨d,hd,rfl⟩
 ·exact all (by decide) (by decide) (by decide) (by decide) (by decide) (by decide) rfl rfl rfl rfl (by decide)
 ·simp only[gL,fu,gT,iB]at hd;rcases hd with rfl|rfl|rfl|rfl;all_goals exact all (by decide) (by decide) (by decide) (by decide) (by decide) (by decide) rfl rfl rfl rfl (by decide)
structure dT (f:Ad):Prop where
 Ck:UH f
 par:f.params.length<=4
 size:en f.body<=1001
theorem Us {l:List Int}(hl:l.length<=4)(h :∀x∈l,-1000000<=x/\x<=1000000):IP IB l:=⟨λx hx=>DU (h x hx).1 (h x hx).2,by omega⟩
structure Xo (F:List Ad):Prop where
 sg:ep F
 ok :∀f∈F,dT f
 sz :∀f∈F,en f.body<=1000
theorem Kx {α:Type}{l:List α}{i:Int}{x y:α}(h:y∈Sh.put l i x):y∈l∨y=x:=gp h
theorem Xo.put {F:List Ad}(P:Xo F){i:Int}{g:Ad}(hg:g∈F){e:AG}(he:Aq e)(hs:en e<=1000):Xo (Sh.put F i ⟨g.params,g.result,e⟩):=by
 have hl:(Sh.put F i ⟨g.params,g.result,e⟩).length=F.length:=by unfold Sh.put;simp
 have G:=P.ok g hg;refine⟨⟨by rw[hl];exact P.sg.fl,by rw[hl];exact P.sg.aK,λf hf=>?_,λf hf=>?_⟩,λf hf=>?_,λf hf=>?_⟩
 ·rcases Kx hf with h|rfl
  ·exact P.sg.par f h
  ·exact P.sg.par g hg
 ·rcases Kx hf with h|rfl
  ·exact P.sg.cl f h
  ·exact P.sg.cl g hg
 ·rcases Kx hf with h|rfl
  ·exact P.ok f h
  ·exact⟨⟨G.Ck.params,G.Ck.result,he⟩,G.par,by show en e<=_;omega⟩
 ·rcases Kx hf with h|rfl
  ·exact P.sz f h
  ·exact hs
theorem Rl {b:List Int}(Bb:Bk b){M:Nat}(hM:2000000<=M){p:Int}(h0:0<=p)(h1:p<=1000):Af (G6 M b p) λq=>GD q.1.decls/\Xo q.1.funcs/\0<=q.2/\q.2<=100000:=by
 unfold G6;refine Af.bind (Ok Bb h0 (by omega)) λq3 ⟨hD,vy⟩=>?_;iterate 17 refine AS rfl ?_
 have sigs:∀(l:List Ad),(∀f∈l,f.body=⟨0,0,[]⟩/\f.params.length<=3/\(∀x∈f.params,0<=x/\x<=3)/\(0<=f.result/\f.result<=3)/\((∀x∈f.params,x=0∨x=1∨x=3)∨(f.params=[2,1]/\f.result=1)))->l.length<=4->1<=l.length->Xo l:=λl h h4 h5=>
  ⟨⟨h4,h5,λf hf=>(h f hf).2.1,λf hf=>(h f hf).2.2.2.2⟩,λf hf=>by
   obtain⟨b1,b2,b3,b4,_⟩:=h f hf;exact⟨⟨Us (by omega) λx hx=>by have:=b3 x hx;omega,DU (by omega) (by omega),by rw[b1];exact Fl ⟨by omega,by omega⟩ ⟨by omega,by omega⟩⟩,by omega,by rw[b1,KQ];omega⟩,λf hf=>by rw[(h f hf).1,KQ];omega⟩
 have pg:∀{l:List Ad} {f:Int×Int->Ad->Option (AP×Int)} {s:Int} {Q:AP×Int->Prop},1<=l.length->0<=s->s<=900000->(∀(q:Int×Int) c,q.2=s+1->c∈l->Af (f q c) Q)->Af ((Ax b s (Sh.len l)).bind λpD=>(Sh.get l pD.1).bind λtO=>f pD tO) Q:=λhl te zk k=>by
  rw[AM];refine Af.bind (Cb Bb ⟨te,by omega⟩) λq hq=>?_;exact Af.get hq.nn (hq.lt (by omega)) λc _ hc=>k q c hq.pos hc
 refine pg (by simp) (by omega) (by omega) λpD tO hq25 vz=>?_;refine pg (by simp) (by omega) (by omega) λoR sE hq27 wA=>?_;refine pg (by simp) (by omega) (by omega) λpW sY hq29 wC=>?_;refine Af.bind (GM Bb ⟨by omega,by omega⟩ (by simp) (by simp)) λpB wD=>?_;have o1:=wD.pos;have o2:=wD.mem;simp only[fu,gT,iB]at o2;obtain⟨n,hn⟩:=gv (by omega:0<=pB.1);rw[hn];refine AS (av (by simp;omega)) ?_;generalize hl:([Ad.mk [] 0 (AG.mk 0 0 []),tO,sE,sY].take n)=uC;have hlen:uC.length=n:=by rw[<- hl];simp;omega
 have mY:∀f∈uC,f.body=⟨0,0,[]⟩/\f.params.length<=3/\(∀x∈f.params,0<=x/\x<=3)/\(0<=f.result/\f.result<=3)/\((∀x∈f.params,x=0∨x=1∨x=3)∨(f.params=[2,1]/\f.result=1)):=by
  intro f hf;rw[<- hl]at hf;have:=hX hf;simp only[fu,gT,iB]at this vz wA wC;rcases this with rfl|rfl|rfl|rfl
  ·simp
  ·rcases vz with rfl|rfl|rfl|rfl|rfl|rfl<;>simp
  ·rcases wA with rfl|rfl|rfl|rfl|rfl|rfl<;>simp
  ·rcases wC with rfl|rfl|rfl|rfl<;>simp
 have P0:=sigs uC mY (by omega) (by omega);have key:∀(k N:Nat) (z p':Int) (l:List Ad),z=(k:Int)-1->k<N->k<=4->k<=l.length->Xo l->0<=p'->p'+7000*k<=50000->Af (D0 M b q3 N z p' l) λr=>Xo r.2/\0<=r.1/\r.1<=60000:=by
  intro k
  induction k with
  | zero=>
   intro N z p' l hz hN _ _ hP g0 g1;obtain⟨N,rfl⟩ :∃m,N=m+1:=⟨N-1,by omega⟩
   rw[D0,fr (by rw[fy];omega)];exact Af.some ⟨hP,g0,by show p'<=_;omega⟩
  | succ k ih=>
   intro N z p' l hz hN h4 ot hP g0 g1;obtain⟨N,rfl⟩ :∃m,N=m+1:=⟨N-1,by omega⟩
   have hzk:z=(k:Int):=by omega
   subst hzk;rw[D0,fq (by rw[fy];omega)];have C:=CX.of hD hP.sg;refine Af.bind (W9 C Bb hM (f:=k) (by omega) (p:=p') g0 (by omega)) λr hr=>?_;have r1:=hr.lo;have r2:=hr.hi;obtain⟨g,hg,ph⟩:=CE (l:=l) (i:=k) (by omega);refine AS (BF hg) ?_;refine ih N (Sh.w ((k:Int)-1)) r.2 _ (BP (by omega) (by omega)) (by omega) (by omega) (by unfold Sh.put;simp;omega) (hP.put ph hr.Ck hr.size) (by omega) (by omega)
 have k:=key n M (Sh.w ((n:Int)-1)) pB.2 uC (BP (by omega) (by omega)) (by omega) (by omega) (by omega) P0 (by omega) (by omega);refine Af.bind k ?_;rintro⟨f40,uB⟩ ⟨a1,a2,a3⟩;exact Af.some ⟨hD,a1,a2,by show f40<=_;dsimp only at a3;omega⟩
theorem P1 {M:Nat}(hM:2000000<=M):∀(n:Nat) (l:List AG),CG l<n->CG l<=100000->C9 M n l=some l:=by
 intro n
 induction n with
 | zero=>intro l h;omega
 | succ n ih=>
  intro l hn hs;rw[C9];unfold HF;have hl:=Hl l;have key:∀{N i:Nat},i<=l.length->l.length-i<N->CQ l (C9 M n) N i (l.take i)=some l:=by
   intro N i hi hN;refine Bm l.length (λN i=>CQ l (C9 M n) N i (l.take i)=some l) ?_ ?_ hi hN
   ·intro m;rw[CQ,fr (by simp[AM]),iR]
   ·intro m i hi qI;obtain⟨e,he,hem⟩:=CE hi;have h1:=Ju hem;have h2:=Ex e;rw[CQ,fq (by rw[fy,AM];omega),BF he];unfold Ix;simp only[fZ];rw[ih e.kids (by omega) (by omega)];simp only[fZ];rw[EC _ _ 40 (by simp;omega) (by simp;omega),BP (by omega) (by omega),show ((i:Int)+1)=((i+1:Nat):Int) by omega];simp only[fZ];have:(⟨e.op,e.num,e.kids⟩:AG)=e:=by cases e;rfl
    rw[this,<- EP he];exact qI
  have:=key (gK _) (by omega:l.length-0<M);rw[ij,lI]at this;rw[this];rfl
theorem W4:∀(l:List AG) (i:Nat) (e x:AG),l[i]?=some e->CG (l.set i x)+en e=CG l+en x
 | [],i,e,x,h=>by simp at h
 | a::l,0,e,x,h=>by
  simp only[gQ,ff]at h;subst h;simp only[jc,CG];omega
 | a::l,i+1,e,x,h=>by
  have:=W4 l i e x (by simpa using h);simp only[List.set_cons_succ,CG];omega
theorem cm {b:List Int}(Bb:Bk b){M:Nat}(hM:2000000<=M):∀(n:Nat) (e:AG) (p:Int),en e<n->en e<=1001->Aq e->0<=p->p+5*en e<=300000->Af (JC M n b p e) λq=>en q.1<=en e+1/\Aq q.1/\p<=q.2/\q.2<=p+5*en e:=by
 intro n
 induction n with
 | zero=>intro e p h;have:=Kf e;omega
 | succ n ih=>
  intro e p hn hs mX h0 h1;have hee:=Ex e;have ot:=Hl e.kids;rw[JC];unfold LN;refine Af.bind (R:=λq:Bool×Int=>(q.1=true->0<e.kids.length)/\p<=q.2/\q.2<=p+1) ?_ ?_
  ·refine Ay (λh=>?_) λ_=>Af.some ⟨(λh=>by cases h),by show p<=p;omega,by show p<=_;omega⟩;rw[AM]at h;exact Af.bind (Cb Bb ⟨by omega,by omega⟩) λq hq=>Af.some ⟨λ_=>by omega,by have:=hq.pos;show p<=q.2;omega,by have:=hq.pos;show q.2<=_;omega⟩
  ·rintro⟨t4,f5⟩ ⟨g1,g2,g3⟩;dsimp only at g1 g2 g3⊢;refine Ci (λh=>?_) λ_=>?_
   ·have hk:=g1 h;refine AS (P1 hM M e.kids (by omega) (by omega)) ?_;rw[AM];refine Af.bind (Cb Bb ⟨by omega,by omega⟩) λq hq=>?_;have q1:=hq.pos;have q2:=hq.nn;have q3:=hq.lt (by omega);refine Af.get q2 q3 λc hc mq=>?_;have qY:=Ju mq;refine Af.bind (ih c q.2 (by omega) (by omega) (mX.kids c mq) (by omega) (by omega)) λr ⟨r1,r2,r3,r4⟩=>?_;have oU:=W4 e.kids q.1.toNat c r.1 hc;refine AS rfl (Af.some ⟨?_,?_,by show p<=r.2;omega,by show r.2<=_;omega⟩)
    ·show en ⟨e.op,e.num,Sh.put e.kids q.1 r.1⟩<=_;unfold Sh.put;rw[GZ];omega
    ·show Aq ⟨e.op,e.num,Sh.put e.kids q.1 r.1⟩;refine JG mX.op mX.num (λx hx=>?_) (by unfold Sh.put;simp;omega);rcases Kx hx with h3|rfl
     ·exact mX.kids x h3
     ·exact r2
   ·refine Af.bind (Cb Bb ⟨by omega,by omega⟩) λnS tc=>?_;have a1:=tc.pos;have a2:=tc.nn;have a3:=tc.lt (by omega);have hp:=Kf e;have same:∀{o m:Int},IB o->IB m->Aq ⟨o,m,e.kids⟩:=λho hm=>JG ho hm mX.kids (by omega);refine Ay (λ_=>?_) λ_=>?_
    ·refine Af.bind (Cb Bb ⟨by omega,by omega⟩) λq hq=>?_;have c1:=hq.pos;have c2:=hq.nn;have c3:=hq.lt (by omega);refine AS rfl (Af.some ⟨?_,same (DU (by omega) (by omega)) mX.num,by show p<=q.2;omega,by show q.2<=_;omega⟩);show en ⟨q.1,e.num,e.kids⟩<=_;rw[GZ];omega
    refine Ay (λ_=>?_) λ_=>?_
    ·refine Af.bind (GM Bb ⟨by omega,by omega⟩ (by simp) (by simp)) λq hq=>?_;have c1:=hq.pos;refine AS rfl (Af.some ⟨?_,same mX.op (da _),by show p<=q.2;omega,by show q.2<=_;omega⟩);show en ⟨e.op,Sh.w (e.num+q.1),e.kids⟩<=_;rw[GZ];omega
    refine Ay (λ_=>?_) λ_=>?_
    ·refine AS (P1 hM M e.kids (by omega) (by omega)) (AS rfl ?_);refine Af.app (by simp;omega) (by simp;omega) (AS rfl (Af.some ⟨?_,?_,by show p<=nS.2;omega,by show nS.2<=_;omega⟩))
     ·show en ⟨e.op,e.num,e.kids++[⟨0,1,[]⟩]⟩<=_;rw[GZ,II,HB,KQ];omega
     ·show Aq ⟨e.op,e.num,e.kids++[⟨0,1,[]⟩]⟩;refine .mk mX.op mX.num (by show (e.kids++_).length<=_;simp;omega) λx hx=>?_;rcases gS.1 (show x∈e.kids++[⟨0,1,[]⟩] from hx) with h3|h3
      ·exact mX.kids x h3
      ·rw[gB]at h3;rw[h3];exact Fl ⟨by omega,by omega⟩ ⟨by omega,by omega⟩
    refine Ay (λ_=>?_) λ_=>?_
    ·refine Af.bind (GM Bb ⟨by omega,by omega⟩ (by simp) (by simp)) λq hq=>?_;have c1:=hq.pos;have c2:=hq.mem;simp only[fu,gT,iB]at c2;refine AS rfl (Af.some ⟨?_,Fl ⟨by omega,by omega⟩ ⟨by omega,by omega⟩,by show p<=q.2;omega,by show q.2<=_;omega⟩);show en ⟨12,q.1,[]⟩<=_;rw[KQ];omega
    ·refine Af.bind (GM Bb ⟨by omega,by omega⟩ (by simp) (by simp)) λq hq=>?_;have c1:=hq.pos;have c2:=hq.mem;simp only[fu,gT,iB]at c2;refine AS rfl (Af.some ⟨?_,Fl ⟨by omega,by omega⟩ ⟨by omega,by omega⟩,by show p<=q.2;omega,by show q.2<=_;omega⟩);show en ⟨0,q.1,[]⟩<=_;rw[KQ];omega
structure VN (D:List AN):Prop where
 len:D.length<=6
 Ck :∀d∈D,Lr d
 size :∀d∈D,dz d<=20
theorem cM {f t:Int}{cs:List Dd}(hf:-1000000<=f/\f<=1000000)(ht:-1000000<=t/\t<=1000000)(hl:cs.length<=4)(h :∀c∈cs,c.fields.length<=4/\∀x∈c.fields,-1000000<=x/\x<=1000000):Lr ⟨f,t,cs⟩:=
 ⟨DU hf.1 hf.2,DU ht.1 ht.2,λc hc=>⟨Us (h c hc).1 (h c hc).2⟩,by show cs.length<=_;omega⟩
theorem eC {f t:Int}{cs:List Dd}(hl:cs.length<=4)(h :∀c∈cs,c.fields.length<=4):dz ⟨f,t,cs⟩<=20:=by
 have :∀l:List Dd,(∀c∈l,c.fields.length<=4)->(l.map cz).sum<=4*l.length:=λl=>by
  induction l with
  | nil=>simp
  | cons c l ih=>
   intro h;have h1:=h c (by simp);have h2:=ih λc hc=>h c (by simp[hc]);simp only[gP,jY,gn];have:cz c=c.fields.length:=rfl;omega
 have h2:=this cs h;show cs.length+(cs.map cz).sum<=20;omega
theorem Up {f t:Int}{cs:List Dd}(hf:-1000000<=f/\f<=1000000)(ht:-1000000<=t/\t<=1000000)(hl:cs.length<=4)(h :∀c∈cs,c.fields.length<=4/\∀x∈c.fields,-1000000<=x/\x<=1000000):Lr ⟨f,t,cs⟩/\dz ⟨f,t,cs⟩<=20:=
 ⟨cM hf ht hl h,eC hl λc hc=>(h c hc).1⟩
theorem SL {D:List AN}(h:GD D):VN D/\3<=D.length/\D.length<=4:=by
 have mY:∀d∈gD++gL,Lr d/\dz d<=20:=by
  intro d hd;simp only[gD,gL,kJ,iN,fu,gT,iB]at hd;rcases hd with rfl|rfl|rfl|rfl|rfl|rfl|rfl<;>exact Up (by decide) (by decide) (by decide) (by decide)
 rcases h with rfl|⟨d,hd,rfl⟩
 ·exact⟨⟨by decide,λd hd=>(mY d (gz _ hd)).1,λd hd=>(mY d (gz _ hd)).2⟩,by decide,by decide⟩
 ·have hm:∀x∈gD++[d],x∈gD++gL:=λx hx=>by
   rcases gS.1 hx with h|h
   ·exact gz _ h
   ·rw[gB]at h;rw[h];exact jB _ hd
  exact⟨⟨by simp[gD],λx hx=>(mY x (hm x hx)).1,λx hx=>(mY x (hm x hx)).2⟩,by simp[gD],by simp[gD]⟩
theorem VN.put {D:List AN}(h:VN D){i:Int}{d:AN}(hd:Lr d/\dz d<=20):VN (Sh.put D i d):=
 ⟨by unfold Sh.put;simp;exact h.len,λx hx=>(Kx hx).elim (λh3=>h.Ck x h3) (λe=>by rw[e];exact hd.1),λx hx=>(Kx hx).elim (λh3=>h.size x h3) (λe=>by rw[e];exact hd.2)⟩
theorem VN.app {D E:List AN}(h:VN D)(hl:D.length+E.length<=6)(hE :∀d∈E,Lr d/\dz d<=20):VN (D++E):=
 ⟨by simp;omega,λx hx=>(gS.1 hx).elim (λh3=>h.Ck x h3) (λh3=>(hE x h3).1),λx hx=>(gS.1 hx).elim (λh3=>h.size x h3) (λh3=>(hE x h3).2)⟩
theorem fQ {α:Type}{l:List α}{i:Nat}(h:i<=l.length):Sh.sl l (i:Int) (Sh.len l)=some (l.drop i):=by
 unfold Sh.sl;rw[AM,fq (by omega)];simp
theorem VP {b:List Int}(Bb:Bk b){p:Int}(h0:0<=p)(h1:p<=300000):Af (Is b p) λq=>VN q.1/\p<=q.2/\q.2<=p+10:=by
 unfold Is;refine Af.bind (Ok Bb h0 (by omega)) λq3 ⟨hD,vy⟩=>?_;obtain⟨O,l3,l4⟩:=SL hD;rw[AM];refine Af.bind (Cb Bb ⟨by omega,by omega⟩) λq5 yu=>?_;have a1:=yu.pos;have a2:=yu.nn;have a3:=yu.lt (by omega);refine Af.bind (R:=λr:Int×List AN=>VN r.2/\p<=r.1/\r.1<=p+10) ?_ λr hr=>Af.some ⟨hr.1,hr.2⟩;refine Af.bind (Cb Bb ⟨by omega,by omega⟩) λmz yv=>?_;have b1:=yv.pos;refine Ay (λ_=>?_) λ_=>?_
 ·refine Af.bind (GM Bb ⟨by omega,by omega⟩ (by simp) (by simp)) λx hx=>?_;have x1:=hx.pos;have x2:=hx.mem;refine Af.bind (GM Bb ⟨by omega,by omega⟩ (by simp) (by simp)) λy hy=>?_;have y1:=hy.pos;have y2:=hy.mem;simp only[fu,gT,iB]at x2 y2;exact Af.get a2 a3 λc _ _=>Af.some ⟨O.put (Up (by omega) (by omega) (by decide) (by simp)),by show p<=y.2;omega,by show y.2<=_;omega⟩
 refine Ay (λ_=>?_) λ_=>?_
 ·refine Af.bind (GM Bb ⟨by omega,by omega⟩ (by simp) (by simp)) λx hx=>?_;have x1:=hx.pos;have x2:=hx.mem;simp only[fu,gT,iB]at x2;refine AS rfl (AS rfl (AS rfl ?_));refine Af.get a2 a3 λc _ _=>Af.some ⟨O.put (Up (by omega) (by omega) (by simp) ?_),by show p<=x.2;omega,by show x.2<=_;omega⟩;intro c hc;simp only[fu,gT,iB]at hc;rcases hc with rfl|rfl|rfl
  ·exact⟨by simp,λz hz=>by rw[gB]at hz;omega⟩
  ·exact⟨by simp,by simp⟩
  ·exact⟨by simp,by simp⟩
 refine Ay (λ_=>?_) λ_=>?_
 ·refine AS rfl ?_;rw[BP (n:=q5.1+1) (by omega) (by omega)];refine Af.get a2 a3 λc _ _=>Af.some ⟨O.put (Up (by omega) (by omega) (by simp) ?_),by show p<=mz.2;omega,by show mz.2<=_;omega⟩;intro c hc;rw[gB]at hc;rw[hc];exact⟨by simp,λz hz=>by rw[gB]at hz;omega⟩
 refine Ay (λ_=>?_) λ_=>?_
 ·refine Af.bind (GM Bb ⟨by omega,by omega⟩ (by simp) (by simp)) λx hx=>?_;have x1:=hx.pos;have x2:=hx.mem;simp only[fu,gT,iB]at x2;refine Af.app (by simp;omega) (by simp;omega) (Af.some ⟨O.app (by simp;omega) λd hd=>?_,by show p<=x.2;omega,by show x.2<=_;omega⟩);rw[gB]at hd;rw[hd];exact Up (by omega) (by omega) (by simp) (by simp)
 refine Ay (λ_=>?_) λ_=>?_
 ·refine Af.bind (Cb Bb ⟨by omega,by omega⟩) λx hx=>?_;have x1:=hx.pos;have x2:=hx.nn;have x3:=hx.lt (by omega);refine AS rfl (AS rfl (AS rfl (AS rfl ?_)));refine Af.bind (Cb Bb ⟨by omega,by omega⟩) λy hy=>?_;have y1:=hy.pos;have y2:=hy.nn;have y3:=hy.lt (by omega);obtain⟨k,hk⟩:=gv y2;rw[hk];refine AS (fQ (by simp;omega)) ?_;refine Af.get a2 a3 λc _ _=>Af.some ⟨O.put (Up (by omega) (by omega) (by simp) ?_),by show p<=y.2;omega,by show y.2<=_;omega⟩;intro c hc;have:=iL hc;simp only[fu,gT,iB]at this;rcases this with rfl|rfl|rfl|rfl<;>exact⟨by simp,by simp⟩
 refine Ay (λ_=>?_) λ_=>?_
 ·refine Af.app (by simp;omega) (by simp;omega) (Af.some ⟨O.app (by simp;omega) λd hd=>?_,by show p<=mz.2;omega,by show mz.2<=_;omega⟩);simp only[fu,gT,iB]at hd;rcases hd with rfl|rfl<;>exact Up (by omega) (by omega) (by simp) (by simp)
 ·exact Af.some ⟨O,by show p<=mz.2;omega,by show mz.2<=_;omega⟩
structure PD (p:AP):Prop where
 decls:VN p.decls
 Ih:p.funcs.length<=5
 eF :∀f∈p.funcs,dT f
theorem O9 {α:Type}{f:α->Nat}{a:Nat}:∀(l:List α),(∀x∈l,f x<=a)->(l.map f).sum<=a*l.length
 | [],_=>by simp
 | x::l,h=>by
  have h1:=h x (by simp);have h2:=O9 l λy hy=>h y (by simp[hy]);simp only[gP,jY,gn];rw[Nat.mul_add];omega
theorem PD.small {p:AP}(P:PD p):Ed p:=by
 refine⟨⟨⟨P.decls.Ck,by have:=P.decls.len;omega⟩,λf hf=>(P.eF f hf).Ck,by have:=P.Ih;omega⟩,?_⟩;have h1:=O9 p.decls P.decls.size;have h2:=O9 (f:=WX) (a:=1010) p.funcs λf hf=>by
  have:=(P.eF f hf).par;have:=(P.eF f hf).size;have h3:=Ex f.body;show f.params.length+CG f.body.kids<=_;omega
 have h3:=P.decls.len;have h4:=P.Ih;unfold Rf;omega
theorem RV {b:List Int}(Bb:Bk b){M:Nat}(hM:2000000<=M){D:List AN}{F:List Ad}(hD:GD D)(P:Xo F){p:Int}(h0:0<=p)(h1:p<=100000):Af (Gs M b p F D) λq=>PD q.1/\0<=q.2/\q.2<=200000:=by
 obtain⟨O,l3,l4⟩:=SL hD;have hF:=P.sg.fl;have rr:=P.sg.aK;unfold Gs;rw[AM];refine Af.bind (Cb Bb ⟨by omega,by omega⟩) λq3 vy=>?_;have a1:=vy.pos;have a2:=vy.nn;have a3:=vy.lt (by omega);refine Af.get a2 a3 λc5 _ yy=>?_;have G:=P.ok c5 yy;have P0:PD ⟨D,F⟩:=⟨O,by show F.length<=5;omega,P.ok⟩
 have td:∀{g:Ad},dT g->PD ⟨D,Sh.put F q3.1 g⟩:=λhg=>⟨O,by show (Sh.put F _ _).length<=5;unfold Sh.put;simp;omega,λf hf=>(Kx hf).elim (λh=>P.ok f h) (λe=>by rw[e];exact hg)⟩;refine Af.bind (R:=λr:Int×List Ad×List AN=>PD ⟨r.2.2,r.2.1⟩/\0<=r.1/\r.1<=200000) ?_ λr hr=>Af.some ⟨hr.1,hr.2⟩;refine Af.bind (Cb Bb ⟨by omega,by omega⟩) λmR zA=>?_;have b1:=zA.pos;refine Ay (λ_=>?_) λ_=>?_
 ·unfold QN;have hs:=P.sz c5 yy;exact Af.bind (cm Bb hM M c5.body mR.2 (by omega) (by omega) G.Ck.body (by omega) (by omega)) λr ⟨r1,r2,r3,r4⟩=>Af.some ⟨td ⟨⟨G.Ck.params,G.Ck.result,r2⟩,G.par,by show en r.1<=_;omega⟩,by show 0<=r.2;omega,by show r.2<=_;omega⟩
 refine Ay (λ_=>?_) λ_=>?_
 ·refine Af.bind (GM Bb ⟨by omega,by omega⟩ (by simp) (by simp)) λx hx=>?_;have x1:=hx.pos;have x2:=hx.mem;simp only[fu,gT,iB]at x2;have hp:=P.sg.par c5 yy;refine AS (Iu (by omega) (by simp)) (Af.some ⟨td ⟨⟨⟨λy hy=>?_,by show (c5.params++[x.1]).length<=_;simp;omega⟩,G.Ck.result,G.Ck.body⟩,by show (c5.params++[x.1]).length<=4;simp;omega,G.size⟩,by show 0<=x.2;omega,by show x.2<=_;omega⟩);rcases gS.1 (show y∈c5.params++[x.1] from hy) with h|h
  ·exact G.Ck.params.1 y h
  ·rw[gB]at h;rw[h];exact DU (by omega) (by omega)
 refine Ay (λ_=>?_) λ_=>?_
 ·refine Af.bind (GM Bb ⟨by omega,by omega⟩ (by simp) (by simp)) λx hx=>?_;have x1:=hx.pos;have x2:=hx.mem;simp only[fu,gT,iB]at x2;exact Af.some ⟨td ⟨⟨G.Ck.params,(DU (by omega) (by omega):IB x.1),G.Ck.body⟩,G.par,G.size⟩,by show 0<=x.2;omega,by show x.2<=_;omega⟩
 refine Ay (λ_=>?_) λ_=>?_
 ·refine Af.bind (VP Bb (p:=mR.2) (by omega) (by omega)) λr ⟨r1,r2,r3⟩=>Af.some ⟨⟨r1,by show F.length<=5;omega,P.ok⟩,by show 0<=r.2;omega,by show r.2<=_;omega⟩
 refine Ay (λ_=>?_) λ_=>Af.some ⟨P0,by show 0<=mR.2;omega,by show mR.2<=_;omega⟩;refine Af.app (by simp;omega) (by simp;omega) (Af.some ⟨⟨O,by show (F++[c5]).length<=5;simp;omega,λf hf=>?_⟩,by show 0<=mR.2;omega,by show mR.2<=_;omega⟩);rcases gS.1 (show f∈F++[c5] from hf) with h|h
 ·exact P.ok f h
 ·rw[gB]at h;rw[h];exact G
theorem Ss {b:List Int}(Bb:Bk b){M:Nat}(hM:2000000<=M){p:Int}(h0:0<=p)(h1:p<=1000):Af (HU M b p) λq=>PD q.1/\0<=q.2/\q.2<=200000:=by
 unfold HU;refine Af.bind (Rl Bb hM h0 h1) λq ⟨q1,q2,q3,q4⟩=>?_;refine Af.bind (RV Bb hM q1 q2 q3 q4) λr hr=>Af.some hr
end RC
