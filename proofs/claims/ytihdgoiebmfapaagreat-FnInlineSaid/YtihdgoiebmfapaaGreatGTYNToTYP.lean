import Derived.Test.YtihdgoiebmfapaaGreatKTA
set_option linter.all false
namespace RC
open Go
theorem eh:Du (.mk [] []):=⟨⟨⟨(by intro d h;cases h),(by simp[AJ.decls])⟩,(by intro d h;cases h),(by simp[AJ.funcs])⟩,(by simp[Un,AJ.decls,AJ.funcs])⟩
theorem VG {p:AJ}(S:Du p):p.decls.length<=1048576/\∀d∈p.decls,dz d<=1048576:=by
 have hz:=S.size;unfold Un at hz;exact⟨by omega,λd hd=>by have:=MG dz hd;omega⟩
end RC
namespace RC
open Go
theorem Wh {p:AJ}(S:Du p){f:Int}{N:Nat}(hN:2000000<=N):∃n,Pr N p f=some n/\JF N p f=some n/\(1<=n->BM N p=some true/\Bz N p=some true/\0<=f/\f<(p.funcs.length:Int)/\n=(LM f p.funcs:Nat))/\(BM N p=some true->0<=f/\f<(p.funcs.length:Int)->n=(LM f p.funcs:Nat)):=by
 obtain⟨b,h1,h2,h3⟩:=Gq S hN;unfold Pr JF;rw[h1,h2];simp only[ov];cases b with
 |false=>exact⟨-1,by simp,by simp,λh=>absurd h (by omega),λh=>(by cases h)⟩
 |true=>
  obtain⟨SO,zI⟩:=h3 rfl;have hF:=SO.JL;have hle:LM f p.funcs<=120:=by have:=lr (f:=f) zI;omega
  rw[Dn,AI,BE (by omega) (by omega)];by_cases hr:0<=f/\f<(p.funcs.length:Int)
  .have r1:¬ f<0:=by omega
   have r2:¬ (p.funcs.length:Int)<=f:=by omega
   have r3:f<=(p.funcs.length:Int)-1:=by omega
   have K1:∀{M i:Nat},i<=p.funcs.length->p.funcs.length-i<M->∀c:Nat,c+LM f (p.funcs.drop i)<=200->Gj N p f M c i=some ((c+LM f (p.funcs.drop i):Nat):Int):=by
    intro M i hi hM;refine BQ p.funcs.length (λM i=>∀c:Nat,c+LM f (p.funcs.drop i)<=200->Gj N p f M c i=some ((c+LM f (p.funcs.drop i):Nat):Int)) ?_ ?_ hi hM
    .intro m c _;rw[Gj,pK (by simp[AI]),qq];simp[LM]
    .intro m i hi ih c hc;obtain⟨x,hx,vx⟩:=Bh hi;rw[Zh hx]at hc⊢;have hx30:=zI x vx;rw[Gj,pJ (by simp[AI];omega),Ax hx];simp only[ov];unfold SN;rw[eF hN N x.body (by omega) (by omega)];simp only[ov];rw[BE (n:=(i:Int)+1) (by omega) (by omega),BE (by omega) (by omega),show ((i:Int)+1)=((i+1:Nat):Int) by omega,show ((c:Int)+(cse f x.body:Int))=((c+cse f x.body:Nat):Int) by omega,ih (c+cse f x.body) (by omega),qe]
   have K2:∀{M i:Nat},i<=p.funcs.length->p.funcs.length-i<M->∀c:Nat,c+LM f (p.funcs.drop i)<=200->EW N p M i f c=some ((c+LM f (p.funcs.drop i):Nat):Int):=by
    intro M i hi hM;refine BQ p.funcs.length (λM i=>∀c:Nat,c+LM f (p.funcs.drop i)<=200->EW N p M i f c=some ((c+LM f (p.funcs.drop i):Nat):Int)) ?_ ?_ hi hM
    .intro m c _;rw[EW,pK (by simp[AI]),qq];simp[LM]
    .intro m i hi ih c hc;obtain⟨x,hx,vx⟩:=Bh hi;rw[Zh hx]at hc⊢;have hx30:=zI x vx;rw[EW,pJ (by simp[AI];omega),Ax hx];simp only[ov];unfold S4;rw[ly hN N x.body c (by omega) (by omega) (by omega)];simp only[ov];rw[BE (n:=(i:Int)+1) (by omega) (by omega),show ((i:Int)+1)=((i+1:Nat):Int) by omega,ih (c+cse f x.body) (by omega),qe]
   have k1:=K1 (pT _) (by omega:p.funcs.length-0<N) 0 (by rw[qK];omega);have k2:=K2 (pT _) (by omega:p.funcs.length-0<N) 0 (by rw[qK];omega);rw[tl]at k1 k2;refine⟨((0+LM f (p.funcs.drop 0):Nat):Int),?_,?_,λ_=>⟨rfl,rfl,hr.1,hr.2,by simp⟩,λ_ _=>by simp⟩
   .simp only[hr.1,r3,pX,sI,qD,pF,pV,ov];rw[k1];rfl
   .simp only[r1,r2,pa,qD,pF,pV,ov];rw[k2];rfl
  .refine⟨-1,?_,?_,λh=>absurd h (by omega),λ_ h=>absurd h hr⟩
   .have:(decide (0<=f)&&decide (f<=(p.funcs.length:Int)-1))=false:=by
     rw[rV,qZ,qZ];omega
    rw[this];simp
   .by_cases r1:f<0
    .simp[r1]
    .have r2:(p.funcs.length:Int)<=f:=by omega
     simp[r1,r2]
mutual
theorem ZQ {f:Int}:∀e:AD,1<=cse f e->f∈HZ e
 |.mk o n k=>λh=>by
  simp only[cse]at h;simp only[HZ];by_cases hc:o=9/\n=f
  .rw[pJ (.inl hc.1),hc.2];simp
  .rw[pK hc]at h;exact qa _ (ZW k (by omega))
theorem ZW {f:Int}:∀l:List AD,1<=LF f l->f∈Fk l
 | []=>λh=>by simp[LF]at h
 |e::l=>λh=>by
  simp only[LF]at h;simp only[Fk];by_cases he:1<=cse f e
  .exact qO _ (ZQ e he)
  .exact qa _ (ZW l (by omega))
end
open Classical in
theorem Xy {p:AJ}{F:Nat}(P:PO p F){f:Int}{N:Nat}(hN:2000000<=N)(hs:BM N p=some true)(hv:Bz N p=some true):∃b,GA N p f=some b/\DI N p f=some b/\(∀k:Nat,f=(k:Int)->k<F->b=(decide (0<k)&&FC (λ_ c=>decide (¬ Re p F c.toNat k)) 0 (cl p F k))):=by
 have hF:=P.le;unfold GA DI Dk;rw[hs,hv];simp only[ov,pt,qD,pF,pV,AI,P.len];rw[Dn,BE (n:=(F:Int)-1) (by omega) (by omega)];simp only[ov];by_cases h1:f<1
 .have:¬ (1<=f):=by omega
  exact⟨false,by simp[this],by simp[h1],λk hk _=>(by rw[show decide (0<k)=false from rI (by omega)];rfl)⟩
 .by_cases h2:(F:Int)<=f
  .have:¬ (f<=(F:Int)-1):=by omega
   exact⟨false,by simp[this],by simp[h2],λk hk hk2=>absurd hk (by omega)⟩
  .obtain⟨k,rfl⟩:=pc (by omega:0<=f);have hk:k<F:=by omega
   obtain⟨g,hg,_⟩:=Bh (l:=p.funcs) (i:=k) (by rw[P.len];omega);have c1:(1:Int)<=(k:Int):=by omega
   have c2:(k:Int)<=(F:Int)-1:=by omega
   have hl:=Wx (p:=p) (F:=F) (k:=k);have L1:=EH (l:=cl p F k) (DO N p (k:Int) (cl p F k)) (λ_ c=>decide (¬ Re p F c.toNat k)) (λn=>by rw[DO,pK (by simp[AI])]) (λn i c hc=>by
    have vh:=(pB.1 hc).1;have hcF:=Sz P c (oz hc);obtain⟨j,rfl⟩:=pc hcF.1;obtain⟨m,a1,a2⟩:=P7 P (c:=j) (by omega) hN;rw[DO,pJ (by simp[AI];omega),Ax hc];simp only[ov];rw[a1];simp only[ov];rw[YC (by omega) hk hN,BE (n:=(i:Int)+1) (by omega) (by omega),show ((i:Int)+1)=((i+1:Nat):Int) by omega];simp only[ov,qQ];have:=a2 k hk;by_cases hr:Re p F j k
    .simp[this.2 hr,hr]
    .have:m k=false:=by
      cases hm:m k with
      |false=>rfl
      |true=>exact absurd (this.1 hm) hr
     simp[this,hr]) (by omega:(cl p F k).length<N)
   have L2:=EH (l:=cl p F k) (DN N p (k:Int) (cl p F k)) (λ_ c=>decide (¬ Re p F c.toNat k)) (λn=>by rw[DN,pK (by simp[AI])]) (λn i c hc=>by
    have vh:=(pB.1 hc).1;have hcF:=Sz P c (oz hc);obtain⟨j,rfl⟩:=pc hcF.1;obtain⟨m,a1,a2⟩:=Pw P (c:=j) (by omega) hN hv;rw[DN,pJ (by simp[AI];omega),Ax hc];simp only[ov];rw[a1];simp only[ov];rw[UP (by rw[Ls];have:=T4 m F 0;omega) hN,BE (n:=(i:Int)+1) (by omega) (by omega),show ((i:Int)+1)=((i+1:Nat):Int) by omega];simp only[ov,qQ,mem_mk hk];have:=a2 k hk;by_cases hr:Re p F j k
    .simp[this.2 hr,hr]
    .have:m k=false:=by
      cases hm:m k with
      |false=>rfl
      |true=>exact absurd (this.1 hm) hr
     simp[this,hr]) (by omega:(cl p F k).length<N)
   have hco:G9 N p (k:Int)=some (cl p F k):=by
    unfold G9;rw[hv];have b1:decide ((k:Int)<0)=false:=rI (by omega);have b2:decide ((F:Int)<=(k:Int))=false:=rI (by omega);simp only[ov,qD,pF,pV,b1,AI,P.len,b2];rw[OU P hg hN];simp only[ov];rw[Qe P hN];rfl
   refine⟨FC (λ_ c=>decide (¬ Re p F c.toNat k)) 0 (cl p F k),?_,?_,λj hj _=>(by have e:j=k:=(by omega);subst e;rw[show decide (0<j)=true from sU (by omega)];rfl)⟩
   .simp only[c1,c2,pX,tA,qD,pF,pV];rw[Ax hg];simp only[ov];rw[OT P hg hN];simp only[ov];rw[L1,EM];cases FC (λ(_:Nat) (c:Int)=>decide (¬ Re p F c.toNat k)) 0 (cl p F k)<;>rfl
   .simp only[h1,h2,pa,pF,pV,ov];rw[hco];simp only[ov];rw[L2,EM];cases FC (λ(_:Nat) (c:Int)=>decide (¬ Re p F c.toNat k)) 0 (cl p F k)<;>rfl
end RC
namespace RC
open Go
theorem Uc {f o n:Int}{k:List AD}:cse f (.mk o n k)=(if o=9/\n=f then 1 else 0)+LF f k:=by rw[cse]
theorem VY {f:Int}:∀{l:List AD},(∀e∈l,cse f e=0)->LF f l=0
 | [],_=>by simp[LF]
 |e::l,h=>by simp only[LF];rw[h e (by simp),VY λx hx=>h x (by simp[hx])]
theorem ck {f:Int}:∀{l:List AD},LF f l=0->∀e∈l,cse f e=0
 | [],_,e,h=>by cases h
 |a::l,h,e,he=>by
  simp only[LF]at h;rcases pL.1 he with rfl|he
  .omega
  .exact ck (by omega) e he
theorem cM {f:Int}{e k:AD}(h:cse f e=0)(hk:k∈e.kids):cse f k=0:=by
 obtain⟨o,n,l⟩:=e;rw[Uc]at h;have h2:LF f l=0:=by omega
 exact ck h2 k hk
theorem fY {f a k:Int}:∀(c:Nat) (e:AD),en e<=c->cse f e=0->cse f (sh a k e)=0:=by
 intro c
 induction c with
 |zero=>intro e h;have:=Fc e;omega
 |succ c ih=>
  intro e hc h;rw[Us,Uc,VY (λx hx=>by
   obtain⟨y,hy,rfl⟩:=pS.1 hx;have:=Ca hy;exact ih y (by omega) (cM h hy))]
  obtain⟨o,n,l⟩:=e;rw[Uc]at h;by_cases h9:o=9
  .subst h9;have hn:¬ n=f:=λq=>by rw[pJ ⟨rfl,q⟩]at h;omega
   simp[AD.op,AD.num,hn]
  .simp[AD.op,h9]
theorem gB {f:Int}{n:Nat}:∀(xs:List AD) (c:Nat) (b:AD),(∀x∈xs,cse f x=0)->cse f b=0->cse f (lt n c xs b)=0
 | [],c,b,_,h=>by simpa [lt] using h
 |x::r,c,b,hx,h=>by
  simp only[lt,cse,LF];rw[fY (en x) x (pM _) (hx x (by simp)),gB r (c+1) b (λy hy=>hx y (by simp[hy])) h];simp
section
variable {D : List AL} {fi : Int} {body : AD}
theorem RT {n:Nat}{o nu:Int}{l:List AD}{j:Nat}{x:AD}(h:x∈Gt D fi body n o nu j l):∃i k,l[i]?=some k/\x=inl D fi body (n+HN D o nu (j+i)) k:=by
 obtain⟨i,hi⟩:=pZ.1 h;rw[Kz,pI]at hi;obtain⟨k,hk,rfl⟩:=hi;exact⟨i,k,hk,rfl⟩
theorem jl (hb:cse fi body=0):∀(c:Nat) (e:AD) (n:Nat),en e<=c->cse fi (inl D fi body n e)=0:=by
 intro c
 induction c with
 |zero=>intro e _ h;have:=Fc e;omega
 |succ c ih=>
  intro e n hc;have hk:∀x∈Gt D fi body n e.op e.num 0 e.kids,cse fi x=0:=λx hx=>by
   obtain⟨i,k,hk,rfl⟩:=RT hx;have:=Ca (oz hk);exact ih k _ (by omega)
  rw[Mu];unfold QW;split
  .exact gB _ _ _ hk (fY _ _ (pM _) hb)
  .rename_i h9;rw[Uc,pK h9,VY hk]
theorem Wm:∀(c:Nat) (e:AD) (n:Nat),en e<=c->cse fi e=0->inl D fi body n e=e:=by
 intro c
 induction c with
 |zero=>intro e _ h;have:=Fc e;omega
 |succ c ih=>
  intro e n hc h;have h9:¬ (e.op=9/\e.num=fi):=λq=>by
   obtain⟨o,m,l⟩:=e;rw[Uc,pJ (show o=9/\m=fi from q)]at h;omega
  have hk:Gt D fi body n e.op e.num 0 e.kids=e.kids:=by
   refine qk λi=>?_;rw[Kz];cases hki:e.kids[i]? with
   |none=>rfl
   |some k=>
    have hm:=oz hki;have:=Ca hm;simp only[qG];rw[ih k _ (by omega) (cM h hm)]
  rw[Mu];unfold QW;rw[pK h9,hk];cases e;rfl
theorem kC {n:Nat}{e:AD}:CL (Gt D fi body n e.op e.num 0 e.kids)<en (inl D fi body n e):=by
 rw[Mu];unfold QW;split
 .rw[Z0];have:=Fc (sh 0 (n:Int) body);omega
 .rw[en];omega
theorem iC {n:Nat}{x:Int}{l:List AD}{b:AD}(h:x∈HZ (lt n 0 l (sh 0 n b))):x∈Fk l∨x∈HZ b:=by
 rcases bh _ _ _ h with h|h
 .exact .inl h
 .rw[cH _ _ (pM _)]at h;exact .inr h
theorem Xs {x:Int}:∀{l:List AD},x∈Fk l->∃k∈l,x∈HZ k
 | [],h=>by simp[Fk]at h
 |a::l,h=>by
  simp only[Fk]at h;rcases pY.1 h with h|h
  .exact⟨a,by simp,h⟩
  .obtain⟨k,h1,h2⟩:=Xs h;exact⟨k,by simp[h1],h2⟩
theorem iQ {x:Int}:∀(c:Nat) (e:AD) (n:Nat),en e<=c->x∈HZ (inl D fi body n e)->x∈HZ e∨(fi∈HZ e/\x∈HZ body):=by
 intro c
 induction c with
 |zero=>intro e _ h;have:=Fc e;omega
 |succ c ih=>
  intro e n hc h;have KF:x∈Fk (Gt D fi body n e.op e.num 0 e.kids)->x∈HZ e∨(fi∈HZ e/\x∈HZ body):=λh=>by
   obtain⟨k',h1,h2⟩:=Xs h;obtain⟨i,k,hk,rfl⟩:=RT h1;have hm:=oz hk;have:=Ca hm;rw[H0 e];rcases ih k _ (by omega) h2 with h|⟨h,h'⟩
   .exact .inl (qa _ (Qj hm h))
   .exact .inr ⟨qa _ (Qj hm h),h'⟩
  rw[Mu]at h;unfold QW at h;split at h
  .rename_i h9;rcases iC h with h|h
   .exact KF h
   .exact .inr ⟨by rw[H0];unfold Mm;rw[pJ (.inl h9.1),h9.2];simp,h⟩
  .rw[H0]at h;rcases pY.1 h with h|h
   .exact .inl (by rw[H0 e];exact qO _ h)
   .exact KF h
end
section
variable {p : AJ} {N : Nat} {T : List Int -> AD -> Int}
theorem mC (S:FA p.decls p.funcs)(hN:2000000<=N)(hT:TX p N T){fi:Int}{fb:AU}(hfb:Sh.get p.funcs fi=some fb)(Vb:VX p fb.body fb.params)(Ip:en fb.body<=30)(hbp:fb.params.length<=3)(tb:T fb.params fb.body=fb.result)(hr:fb.result≠-1):
  ∀(c:Nat) (e:AD) (v:List Int),en e<=c->en e<=30->VX p e v->v.length+3*en e<=200->en (inl p.decls fi fb.body v.length e)<=30->T v e≠-1->T v (inl p.decls fi fb.body v.length e)=T v e/\Ak (inl p.decls fi fb.body v.length e):=by
 intro c
 induction c with
 |zero=>intro e _ h;have:=Fc e;omega
 |succ c ih=>
  intro e v hc yH V hlv hs ht;have he:=Fs e;have hs2:=kC (D:=p.decls) (fi:=fi) (body:=fb.body) (n:=v.length) (e:=e);have zM:=RK (D:=p.decls) (fi:=fi) (body:=fb.body) (n:=v.length) (o:=e.op) (nu:=e.num) e.kids 0;have sub:∀(i:Nat) k,e.kids[i]?=some k->∀m:List Int,m.length=HN p.decls e.op e.num i->m.length<=3->(∀x∈m,Dc p.decls x=true)->T (v++m) k≠-1->
    T (v++m) (inl p.decls fi fb.body (v.length+HN p.decls e.op e.num i) k)=T (v++m) k/\Ak (inl p.decls fi fb.body (v.length+HN p.decls e.op e.num i) k):=λi k hk m m1 m2 m3 m4=>by
   have hke:=Ca (oz hk);have vR:(Gt p.decls fi fb.body v.length e.op e.num 0 e.kids)[i]?=some (inl p.decls fi fb.body (v.length+HN p.decls e.op e.num i) k):=by rw[Kz,qP,hk];rfl
   have zI:=I9 (oz vR);have:=ih k (v++m) (by omega) (by omega) (V.KF (oz hk) m2 m3) (by rw[pW];omega) (by rw[pW,m1];omega) m4;rwa [pW,m1]at this
  have K:∀(i:Nat) k,e.kids[i]?=some k->Ak (inl p.decls fi fb.body (v.length+HN p.decls e.op e.num i) k):=λi k hk=>by
   obtain⟨m,m1,m2,m3,m4⟩:=Q5 S hN hT V ht hk;exact (sub i k hk m m1 m2 m3 m4).2
  have hkk:∀k∈Gt p.decls fi fb.body v.length e.op e.num 0 e.kids,Ak k:=λk hk=>by
   obtain⟨i,k0,hk0,rfl⟩:=RT hk;rw[qP];exact K i k0 hk0
  by_cases h9:e.op=9/\e.num=fi
  .obtain⟨f,f1,f2,f3,f4,f5⟩:=Sx S hN hT V h9.1 ht;have hfe:f=fb:=by
    have:=(Sh.get_some hfb).2.1;rw[h9.2,this]at f1;exact (qg f1).symm
   subst hfe;have ex0:∀i,HN p.decls e.op e.num i=0:=λi=>by unfold HN;rw[h9.1];simp
   have kt:∀(i:Nat) k,e.kids[i]?=some k->T v k≠-1:=λi k hk=>by
    obtain⟨m,m1,_,_,m4⟩:=Q5 S hN hT V ht hk;rw[ex0,List.length_eq_zero_iff]at m1;rw[m1,qS]at m4;exact m4
   have kt2:∀(i:Nat) k,e.kids[i]?=some k->T v (inl p.decls fi f.body v.length k)=T v k:=λi k hk=>by
    have:=(sub i k hk [] (by rw[ex0];rfl) (by simp) (by simp) (by rw[qS];exact kt i k hk)).1;rwa [qS,ex0,qp]at this
   have mapT:(Gt p.decls fi f.body v.length e.op e.num 0 e.kids).map (T v)=f.params:=by
    rw[<- f4];refine qk λi=>?_;rw[pC,pC,Kz,qP];cases hki:e.kids[i]? with
    |none=>rfl
    |some k=>
     simp only[qG];rw[ex0,qp,kt2 i k hki]
   have hlen:e.kids.length<=3:=by rw[<- f4,pR]at hbp;exact hbp
   have s:=jT S hN hT [] v V.Jm (en f.body) f.body f.params (pM _) (by rw[qT];exact Vb) (by simp;omega) (by rw[qT,tb];exact hr);rw[qT,qT,tb]at s;have s:T (v++f.params) (sh 0 (v.length:Int) f.body)=f.result/\Ak (sh 0 (v.length:Int) f.body):=s;have L:=ig S hN hT v V.Jm (Gt p.decls fi f.body v.length e.op e.num 0 e.kids) [] (sh 0 (v.length:Int) f.body) (by simp) (by rw[zM,W9];simp only[qj];omega) (λx hx=>⟨hkk x hx,by
    obtain⟨i,k0,hk0,rfl⟩:=RT hx;rw[ex0,qp,kt2 i k0 hk0];exact kt i k0 hk0⟩) s.2
   simp only[qS,qj]at L;rw[mapT]at L;rw[Mu];unfold QW;rw[pJ h9];exact⟨by rw[L.1,s.1,f5],L.2⟩
  .have e1:inl p.decls fi fb.body v.length e=.mk e.op e.num (Gt p.decls fi fb.body v.length e.op e.num 0 e.kids):=by rw[Mu];unfold QW;rw[pK h9]
   have CT:Ak (.mk e.op e.num (Gt p.decls fi fb.body v.length e.op e.num 0 e.kids)):=lj V.CT zM hkk;have V1:VX p (.mk e.op e.num (Gt p.decls fi fb.body v.length e.op e.num 0 e.kids)) v:=⟨by rw[<- e1];omega,V.Jm,CT⟩
   rw[e1];refine⟨?_,CT⟩;by_cases vr:e.op=12
   .have q:=hT.var V vr;have q':=hT.var V1 vr;by_cases hr:e.kids=[]/\0<=e.num/\e.num<(v.length:Int)
    .have hf:Gt p.decls fi fb.body v.length e.op e.num 0 e.kids=[]:=by rw[hr.1];rfl
     rw[q,q',pJ hr];exact pJ ⟨hf,hr.2⟩
    .rw[pK hr]at q;exact absurd q ht
   .have hB:=Tm (e':=.mk e.op e.num (Gt p.decls fi fb.body v.length e.op e.num 0 e.kids)) (v':=v) (hT.H V) (hT.H V1) V.VD V1.VD S hN (hT.bi V) ht rfl rfl vr zM (λi k k' hk wY m hm1 hm3 hmt hkt=>by
     have wY:(Gt p.decls fi fb.body v.length e.op e.num 0 e.kids)[i]?=some k':=wY;rw[Kz,qP,hk]at wY;obtain rfl:inl p.decls fi fb.body (v.length+HN p.decls e.op e.num i) k=k':=by simpa using wY
     exact (sub i k hk m hm1 hm3 hmt hkt).1)
    have:=hT.bi V1;rw[hB]at this;exact (qg this).symm
end
end RC
