import Derived.Test.YtgiajkaabnbieaaGreatGXNJToXPD
set_option linter.all false
namespace RC
open Go
theorem Ts {α:Type}{f:Nat->α->Bool}:∀(l:List α) (k:Nat),EH f k l=true->∀(i:Nat) x,l[i]?=some x->f (k+i) x=true
 | [],_,_,_,_,h=>by simp at h
 | a::r,k,h,i,x,hx=>by
  rw[EH,mQ]at h;cases i with
  | zero=>simp only[me,mE]at hx;subst hx;exact h.1
  | succ i=>
   have:=Ts r (k+1) h.2 i x (by simpa using hx);rwa [show k+1+i=k+(i+1) by omega]at this
theorem gZ {ps ls:List Int}(h:EH (HM ps ls) 0 ls=true):ls.length<=ps.length:=by
 have key:∀(i:Nat) v,ls[i]?=some v->(i:Int)<=v/\v<(ps.length:Int):=by
  intro i
  induction i with
  | zero=>
   intro v hv;have:=Ts ls 0 h 0 v hv;unfold HM at this;simp only[mQ,mX]at this;exact⟨this.1.1,this.1.2⟩
  | succ i ih=>
   intro v hv;have hi:=(mC.1 hv).1;obtain⟨u,hu,_⟩:=Bi (l:=ls) (i:=i) (by omega);have h1:=(ih u hu).1;have:=Ts ls 0 h (i+1) v hv;unfold HM at this;rw[show 0+(i+1)-1=i by omega,hu]at this;simp only[mQ,oo,nG,mX,mR,oK]at this;obtain⟨⟨_,h2⟩,_,h3⟩:=this;exact⟨by omega,h2⟩
 refine nd λhc=>?_;obtain⟨v,hv,_⟩:=Bi (l:=ls) (i:=ps.length) (by omega);have:=key _ v hv;omega
theorem Nk {α:Type}{f:α->Nat}{c:Nat}:∀{l:List α},(∀x∈l,f x<=c)->(l.map f).sum<=c*l.length
 | [],_=>by simp
 | a::l,h=>by
  have h1:=h a (by simp);have h2:=Nk (l:=l) λx hx=>h x (by simp[hx]);simp only[mg,oR,mf,Nat.mul_add,qF];omega
section
variable {n : AT} {N : Nat}
structure jS (n:AT) (N:Nat) (T:List Int->Block->Int):Prop where
 sig:JI n
 lz:Q3 n (Bl N) (BT N) T 601
 DM :∀(v:List Int) (b:Block),Ff b<601->BK n b v->Dw N (Bl N) n v b=some (T v b)
 lj :∀r∈n.AH,Ff r.body<=600/\BK n r.body r.params/\0<=T r.params r.body/\r.params.length<=3/\r.Ar.length<=3
theorem aZ (S:JG n)(hN:2000000<=N)(h:FF N n=some true):(∃T,jS n N T)/\GB N n=some (CX n,true):=by
 have hl:=S.RM;obtain⟨q,i1,i2⟩:=UY S hN;unfold FF at h;rw[Ub S hN]at h;simp only[mA]at h;cases hs:Y5 n with
 | false=>rw[hs]at h;simp at h
 | true=>
  rw[hs]at h i1;have uj:=hs;unfold Y5 at uj;simp only[mQ,mX,mL]at uj;have SO:JI n:=OD.of (p:=⟨n.decls,n.AH.map Q5⟩) (by
    rw[show List.map (λf:IK=>(f.params,f.result)) (n.AH.map Q5)=n.AH.map λr=>(r.params,r.result) by rw[ny];rfl];exact uj.2.1)
  obtain⟨T,hT⟩:=Sv SO hN 601;have hBK:∀r∈n.AH,Ff r.body<=600->BK n r.body r.params:=λr hr he=>by
   obtain⟨q1,q2,q3⟩:=SO.cO (Q5 r) (pF hr);have q1':r.params.length<=3:=q1;exact⟨(S.XM.AH.1 r hr).body,(S.rz hr).2.2,by omega,q2⟩
  have L1:=DE (l:=n.AH) (Ca N n) (λ_ r=>Ma T r) (λq=>by rw[Ca,mJ (by simp[AM])]) (λq i r hi=>by
   have tM:=(mC.1 hi).1;have hr:=mB hi;rw[Ca,mI (by simp[AM];omega),As hi];simp only[mA];rw[Lm (S.rz hr).2.2 hN,BI (by omega) (by omega),show ((i:Int)+1)=((i+1:Nat):Int) by omega];simp only[mA];unfold Ma;by_cases he:Ff r.body<=600
   ·rw[mI he,mJ (by simp),(show Bl N n r.params r.body=some (T r.params r.body) from (hT r.params r.body (by omega) (hBK r hr he) N N (by omega) (by omega)).1)];by_cases hq:T r.params r.body=r.result<;>simp[he,hq]
   ·rw[mJ he];simp[he]) (by omega:n.AH.length<N)
  rw[D6]at L1;rw[L1]at h;simp only[nB,mF,mW]at h;rw[Du]at h;have sR:n.AH.all (Ma T)=true:=by
   cases hb:n.AH.all (Ma T) with
   | true=>rfl
   | false=>rw[hb]at h;simp at h
  rw[mL]at sR;refine⟨⟨T,SO,λv b a1 a2 a3 a4 a5=>hT v b a3 ⟨a1,a2,a4,a5⟩ N N (by omega) (by omega),λv b hb B=>?_,λr hr=>?_⟩,by rw[i1,i2 hs]⟩
  ·have:=(hT v b hb B (N+1) N (by omega) (by omega)).1;rwa [Db]at this
  ·have hb:=sR r hr;unfold Ma at hb;simp only[mQ,mX]at hb;obtain⟨q1,q2,q3⟩:=SO.cO (Q5 r) (pF hr);have q3':DN n.decls r.result=true:=q3;have q1':r.params.length<=3:=q1;have xF:EH (HM r.params r.Ar) 0 r.Ar=true:=uj.2.2 r hr;have:=gZ xF;exact⟨hb.1,hBK r hr hb.1,by rw[hb.2];exact (Ny q3').1,q1',by omega⟩
theorem ak (S:JG n)(hN:2000000<=N){T:List Int->Block->Int}(V:jS n N T)(uq :∀r∈n.AH,MT r.body=true):∃o:AT,NP N n=some o/\FI N n.decls (CX n).funcs n=some o/\L8 o<=1048576:=by
 have hl:=V.sig.RM;have hz:=S.size;have hdz:∀d∈n.decls,dz d<=1048576:=λd hd=>by have:=GQ dz hd;unfold L8 at hz;omega
 have hlr:∀r∈n.AH,r.Ar.length<=1048576:=λr hr=>by have:=(V.lj r hr).2.2.2.2;omega
 have key:∀{M i:Nat},i<=n.AH.length->n.AH.length-i<M->∀acc:List Ad,acc.length=i->∃out,GI N n M i acc=some (acc++out)/\CG N n.decls (CX n).funcs n M i acc=some (acc++out)/\out.length=n.AH.length-i/\∀r∈out,J5 r<=102100:=by
  intro M i hi hM;refine BZ n.AH.length (λM i=>∀acc:List Ad,acc.length=i->∃out,GI N n M i acc=some (acc++out)/\CG N n.decls (CX n).funcs n M i acc=some (acc++out)/\out.length=n.AH.length-i/\∀r∈out,J5 r<=102100) ?_ ?_ hi hM
  ·intro q acc _;refine⟨[],?_,?_,by simp,by simp⟩
   ·rw[GI,mJ (by simp[AM]),nK]
   ·rw[CG,mJ (by simp[AM]),nK]
  ·intro q i hi ih acc xD;obtain⟨r,hr,yK⟩:=Bi hi;obtain⟨v1,v2,v3,v4,v5⟩:=V.lj r yK;have ol:=TD r.Ar 0 r.params;obtain⟨B,b1,b2,b3,b4⟩:=jN V.lz V.DM V.sig hlr hN 601 (mS _) r.params r.body (MR r.Ar 0 r.params) (by omega) v2 (uq r yK) v3 (by omega) (λx hx=>by have:=(WX _ _ _ _ hx).2;omega) N N (by omega) (by omega);obtain⟨out,g1,g2,g3,g4⟩:=ih (acc++[⟨r.params,r.Ar,r.result,B⟩]) (by simp[xD]);refine⟨⟨r.params,r.Ar,r.result,B⟩::out,?_,?_,by simp[g3];omega,λx hx=>?_⟩
   ·rw[GI,mI (by simp[AM];omega),As hr];simp only[mA];rw[W6 (by omega) (by omega) hN];simp only[mA];unfold MQ;rw[b1];simp only[mA];unfold LC;rw[Y7 (by omega)];simp only[mA];rw[Y7 (by omega)];simp only[mA];rw[CS _ _ 88 (by simp;omega) (by simp;omega)];simp only[mA];rw[Gk (by omega),g1];simp
   ·rw[CG,mI (by simp[AM];omega),As hr];simp only[mA];rw[ep (by omega)];simp only[mA];rw[ep (by omega)];simp only[mA];unfold JJ;rw[Ud (by omega) (by omega) hN];simp only[mA];unfold HC;rw[show Ag.mk n.decls (CX n).funcs=CX n from rfl,b2];simp only[mA];rw[CS _ _ 88 (by simp;omega) (by simp;omega)];simp only[mA];rw[Gk (by omega),g2];simp
   ·rcases mc.1 hx with rfl|hx
    ·unfold J5;dsimp only;omega
    ·exact g4 x hx
 obtain⟨out,g1,g2,g3,g4⟩:=key (mV _) (by omega:n.AH.length-0<N) [] rfl;simp only[nV,pM]at g1 g2 g3;rw[qg]at g1 g2;have hD:=V.sig.PX;refine⟨⟨n.decls,out⟩,?_,?_,?_⟩
 ·unfold NP;rw[XN (by omega) hdz hN];simp only[mA];rw[g1];rfl
 ·unfold FI;rw[Vb (by omega) hdz hN];simp only[mA];rw[g2];rfl
 ·have d1:(n.decls.map dz).sum<=12*n.decls.length:=Nk λd hd=>by
   unfold dz;have c1:=V.sig.Vr d hd;have c2:(d.cons.map cz).sum<=3*d.cons.length:=Nk λc hc=>(V.sig.Od d hd c hc).1;omega
  have d2:(out.map J5).sum<=102100*out.length:=Nk g4;unfold L8;dsimp only;omega
def ZM (o:AT):Bool:=o.AH.all λr=>decide (Ff r.body<=600)
theorem XG {o:AT}(ho:L8 o<=1048576)(hN:2000000<=N):NI N o=some (if ZM o then (o,true) else (AT.mk [] [],false)):=by
 have hz:∀r∈o.AH,Bs r.body:=λr hr=>by
  have:=GQ J5 hr;have h3:J5 r=r.params.length+r.Ar.length+Ib r.body:=rfl;unfold L8 at ho;unfold Bs;omega
 have hl:o.AH.length<=1048576:=by unfold L8 at ho;omega
 have key:∀{M i:Nat},i<=o.AH.length->o.AH.length-i<M->GH N o M i=some (if (o.AH.drop i).all (λr=>decide (Ff r.body<=600)) then .inr () else .inl (AT.mk [] [],false)):=by
  intro M i hi hM;refine BZ o.AH.length (λM i=>GH N o M i=some (if (o.AH.drop i).all (λr=>decide (Ff r.body<=600)) then .inr () else .inl (AT.mk [] [],false))) ?_ ?_ hi hM
  ·intro q;rw[GH,mJ (by simp[AM]),oa];rfl
  ·intro q i hi ih;obtain⟨r,hr,yK⟩:=Bi hi;rw[GH,mI (by simp[AM];omega),As hr];simp only[mA];rw[Lm (hz r yK) hN,Gk (by omega),ih,drop_cons hr];simp only[mA,oh];by_cases he:Ff r.body<=600
   ·rw[mI he,mJ (by simp)];simp[he]
   ·rw[mJ he];simp[he]
 have:=key (mV _) (by omega:o.AH.length-0<N);rw[nO,qg]at this;unfold NI;rw[this];unfold ZM;cases o.AH.all (λr=>decide (Ff r.body<=600))<;>rfl
theorem W7 {o:AT}(ho:L8 o<=1048576)(hN:2000000<=N):He N o=some (ZM o):=by
 have hz:∀r∈o.AH,Bs r.body:=λr hr=>by
  have:=GQ J5 hr;have h3:J5 r=r.params.length+r.Ar.length+Ib r.body:=rfl;unfold L8 at ho;unfold Bs;omega
 have hl:o.AH.length<=1048576:=by unfold L8 at ho;omega
 have L:=DE (l:=o.AH) (D4 N o) (λ_ r=>decide (Ff r.body<=600)) (λq=>by rw[D4,mJ (by simp[AM])]) (λq i r hi=>by
  have tM:=(mC.1 hi).1;rw[D4,mI (by simp[AM];omega),As hi];simp only[mA];rw[Oo (hz r (mB hi)) hN,Gk (by omega)];simp only[mA];by_cases he:Ff r.body<=600
  ·rw[mI he,mJ (by simp)];simp[he]
  ·rw[mJ he];simp[he]) (by omega:o.AH.length<N)
 rw[D6]at L;unfold He;rw[L,Du];unfold ZM;cases o.AH.all (λr=>decide (Ff r.body<=600))<;>rfl
theorem Uu (S:JG n)(hN:2000000<=N):∃g:AT×Bool,L8 g.1<=1048576/\I1 N n=some g/\HQ N n=some g:=by
 obtain⟨v,b,h0,hp,h1,h2⟩:=XJ S hN;have h1:Hk N n=some b:=by
  unfold OE at h1;revert h1;cases Hk N n<;>simp
 unfold I1 HQ;rw[h1,h2];cases b with
 | false=>exact⟨(AT.mk [] [],false),by simp[L8],rfl,rfl⟩
 | true=>
  obtain⟨rfl,uq⟩:=hp rfl;obtain⟨⟨T,V⟩,hs⟩:=aZ S hN h0;obtain⟨o,o1,o2,o3⟩:=ak S hN V uq;simp only[mA,nB,mF,mW];rw[o1,hs];simp only[mA];rw[XG o3 hN,show (CX n).decls=n.decls from rfl,o2];simp only[mA];rw[W7 o3 hN];simp only[mA];cases ZM o with
  | false=>exact⟨(AT.mk [] [],false),by simp[L8],rfl,rfl⟩
  | true=>exact⟨(o,true),o3,rfl,rfl⟩
end
theorem On {n:AT}(H:PK n):Gn 2000000 n=some true:=by
 have hN:(2000000:Nat)<=2000000:=mS _;unfold Gn;rw[YI H (by omega) (by omega) hN];simp only[mA];by_cases h:(1048576:Int)-(L8 n:Int)<0
 ·rw[Fc h];rfl
 ·rw[Hc h];have hz:L8 n<=1048576:=by omega
  have S:JG n:=⟨H,hz⟩
  obtain⟨g,gz,w1,w2⟩:=Uu S hN;obtain⟨k,d,r,m1,_⟩:=Xz hz hN;obtain⟨k2,d2,r2,m2,m3⟩:=Xz gz hN;rw[mJ (by simpa using h),YY hz hN];simp only[mA];rw[w1];simp only[mA];rw[w2];simp only[mA];rw[S7 gz hN,S7 hz hN,m1,m2];have hk:¬ (k:Int)<0:=by omega
  have hh:¬ (k2:Int)<0:=by omega
  simp only[hk,hh,mY,mZ,nB,mF,mW,mA,bne_self_eq_false,m3]
end RC
