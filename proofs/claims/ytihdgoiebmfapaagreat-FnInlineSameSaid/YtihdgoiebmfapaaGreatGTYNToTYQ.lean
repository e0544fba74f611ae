import Derived.Test.YtihdgoiebmfapaaGreatKTA
set_option linter.all false
namespace RC
open Go
theorem eH:Ds (.mk [] []):=⟨⟨⟨(by intro d h;cases h),(by simp[AJ.decls])⟩,(by intro d h;cases h),(by simp[AJ.funcs])⟩,(by simp[U3,AJ.decls,AJ.funcs])⟩
theorem Uf {p:AJ}(S:Ds p):p.decls.length<=1048576/\∀d∈p.decls,dz d<=1048576:=by
 have hz:=S.size;unfold U3 at hz;exact⟨by omega,λd hd=>by have:=MR dz hd;omega⟩
end RC
namespace RC
open Go
theorem WO {p:AJ}(S:Ds p){f:Int}{N:Nat}(hN:2000000<=N):∃n,Pu N p f=some n/\JI N p f=some n/\(1<=n->BM N p=some true/\CI N p=some true/\0<=f/\f<(p.funcs.length:Int)/\n=(Lb f p.funcs:Nat))/\(BM N p=some true->0<=f/\f<(p.funcs.length:Int)->n=(Lb f p.funcs:Nat)):=by
 obtain⟨b,h1,h2,h3⟩:=Gj S hN;unfold Pu JI;rw[h1,h2];simp only[ou];cases b with
 |false=>exact⟨-1,by simp,by simp,λh=>absurd h (by omega),λh=>(by cases h)⟩
 |true=>
  obtain⟨SO,zH⟩:=h3 rfl;have hF:=SO.J2;have hle:Lb f p.funcs<=120:=by have:=lO (f:=f) zH;omega
  rw[Dx,AI,BE (by omega) (by omega)];by_cases hr:0<=f/\f<(p.funcs.length:Int)
  .have r1:¬ f<0:=by omega
   have r2:¬ (p.funcs.length:Int)<=f:=by omega
   have r3:f<=(p.funcs.length:Int)-1:=by omega
   have K1:∀{M i:Nat},i<=p.funcs.length->p.funcs.length-i<M->∀c:Nat,c+Lb f (p.funcs.drop i)<=200->Gl N p f M c i=some ((c+Lb f (p.funcs.drop i):Nat):Int):=by
    intro M i hi hM;refine BS p.funcs.length (λM i=>∀c:Nat,c+Lb f (p.funcs.drop i)<=200->Gl N p f M c i=some ((c+Lb f (p.funcs.drop i):Nat):Int)) ?_ ?_ hi hM
    .intro m c _;rw[Gl,pJ (by simp[AI]),qp];simp[Lb]
    .intro m i hi ih c hc;obtain⟨x,hx,vy⟩:=Bi hi;rw[ZM hx]at hc⊢;have hx30:=zH x vy;rw[Gl,pI (by simp[AI];omega),Aw hx];simp only[ou];unfold R5;rw[ek hN N x.body (by omega) (by omega)];simp only[ou];rw[BE (n:=(i:Int)+1) (by omega) (by omega),BE (by omega) (by omega),show ((i:Int)+1)=((i+1:Nat):Int) by omega,show ((c:Int)+(cse f x.body:Int))=((c+cse f x.body:Nat):Int) by omega,ih (c+cse f x.body) (by omega),qd]
   have K2:∀{M i:Nat},i<=p.funcs.length->p.funcs.length-i<M->∀c:Nat,c+Lb f (p.funcs.drop i)<=200->EV N p M i f c=some ((c+Lb f (p.funcs.drop i):Nat):Int):=by
    intro M i hi hM;refine BS p.funcs.length (λM i=>∀c:Nat,c+Lb f (p.funcs.drop i)<=200->EV N p M i f c=some ((c+Lb f (p.funcs.drop i):Nat):Int)) ?_ ?_ hi hM
    .intro m c _;rw[EV,pJ (by simp[AI]),qp];simp[Lb]
    .intro m i hi ih c hc;obtain⟨x,hx,vy⟩:=Bi hi;rw[ZM hx]at hc⊢;have hx30:=zH x vy;rw[EV,pI (by simp[AI];omega),Aw hx];simp only[ou];unfold Sp;rw[kf hN N x.body c (by omega) (by omega) (by omega)];simp only[ou];rw[BE (n:=(i:Int)+1) (by omega) (by omega),show ((i:Int)+1)=((i+1:Nat):Int) by omega,ih (c+cse f x.body) (by omega),qd]
   have k1:=K1 (pT _) (by omega:p.funcs.length-0<N) 0 (by rw[qJ];omega);have k2:=K2 (pT _) (by omega:p.funcs.length-0<N) 0 (by rw[qJ];omega);rw[tk]at k1 k2;refine⟨((0+Lb f (p.funcs.drop 0):Nat):Int),?_,?_,λ_=>⟨rfl,rfl,hr.1,hr.2,by simp⟩,λ_ _=>by simp⟩
   .simp only[hr.1,r3,pW,sH,qC,pD,pV,ou];rw[k1];rfl
   .simp only[r1,r2,pa,qC,pD,pV,ou];rw[k2];rfl
  .refine⟨-1,?_,?_,λh=>absurd h (by omega),λ_ h=>absurd h hr⟩
   .have:(decide (0<=f)&&decide (f<=(p.funcs.length:Int)-1))=false:=by
     rw[rU,qY,qY];omega
    rw[this];simp
   .by_cases r1:f<0
    .simp[r1]
    .have r2:(p.funcs.length:Int)<=f:=by omega
     simp[r1,r2]
mutual
theorem Zv {f:Int}:∀e:AD,1<=cse f e->f∈HY e
 |.mk o n k=>λh=>by
  simp only[cse]at h;simp only[HY];by_cases hc:o=9/\n=f
  .rw[pI (.inl hc.1),hc.2];simp
  .rw[pJ hc]at h;exact qZ _ (ZL k (by omega))
theorem ZL {f:Int}:∀l:List AD,1<=LI f l->f∈Fl l
 | []=>λh=>by simp[LI]at h
 |e::l=>λh=>by
  simp only[LI]at h;simp only[Fl];by_cases he:1<=cse f e
  .exact qN _ (Zv e he)
  .exact qZ _ (ZL l (by omega))
end
open Classical in
theorem YQ {p:AJ}{F:Nat}(P:PO p F){f:Int}{N:Nat}(hN:2000000<=N)(hs:BM N p=some true)(hv:CI N p=some true):∃b,Fx N p f=some b/\Dk N p f=some b/\(∀k:Nat,f=(k:Int)->k<F->b=(decide (0<k)&&E7 (λ_ c=>decide (¬ Re p F c.toNat k)) 0 (cl p F k))):=by
 have hF:=P.le;unfold Fx Dk Di;rw[hs,hv];simp only[ou,pq,qC,pD,pV,AI,P.len];rw[Dx,BE (n:=(F:Int)-1) (by omega) (by omega)];simp only[ou];by_cases h1:f<1
 .have:¬ (1<=f):=by omega
  exact⟨false,by simp[this],by simp[h1],λk hk _=>(by rw[show decide (0<k)=false from rH (by omega)];rfl)⟩
 .by_cases h2:(F:Int)<=f
  .have:¬ (f<=(F:Int)-1):=by omega
   exact⟨false,by simp[this],by simp[h2],λk hk hk2=>absurd hk (by omega)⟩
  .obtain⟨k,rfl⟩:=pb (by omega:0<=f);have hk:k<F:=by omega
   obtain⟨g,hg,_⟩:=Bi (l:=p.funcs) (i:=k) (by rw[P.len];omega);have c1:(1:Int)<=(k:Int):=by omega
   have c2:(k:Int)<=(F:Int)-1:=by omega
   have hl:=W6 (p:=p) (F:=F) (k:=k);have L1:=EH (l:=cl p F k) (DN N p (k:Int) (cl p F k)) (λ_ c=>decide (¬ Re p F c.toNat k)) (λn=>by rw[DN,pJ (by simp[AI])]) (λn i c hc=>by
    have vk:=(pA.1 hc).1;have hcF:=S6 P c (ov hc);obtain⟨j,rfl⟩:=pb hcF.1;obtain⟨m,a1,a2⟩:=Ps P (c:=j) (by omega) hN;rw[DN,pI (by simp[AI];omega),Aw hc];simp only[ou];rw[a1];simp only[ou];rw[YS (by omega) hk hN,BE (n:=(i:Int)+1) (by omega) (by omega),show ((i:Int)+1)=((i+1:Nat):Int) by omega];simp only[ou,qP];have:=a2 k hk;by_cases hr:Re p F j k
    .simp[this.2 hr,hr]
    .have:m k=false:=by
      cases hm:m k with
      |false=>rfl
      |true=>exact absurd (this.1 hm) hr
     simp[this,hr]) (by omega:(cl p F k).length<N)
   have L2:=EH (l:=cl p F k) (DM N p (k:Int) (cl p F k)) (λ_ c=>decide (¬ Re p F c.toNat k)) (λn=>by rw[DM,pJ (by simp[AI])]) (λn i c hc=>by
    have vk:=(pA.1 hc).1;have hcF:=S6 P c (ov hc);obtain⟨j,rfl⟩:=pb hcF.1;obtain⟨m,a1,a2⟩:=P4 P (c:=j) (by omega) hN hv;rw[DM,pI (by simp[AI];omega),Aw hc];simp only[ou];rw[a1];simp only[ou];rw[Ti (by rw[Lq];have:=Tc m F 0;omega) hN,BE (n:=(i:Int)+1) (by omega) (by omega),show ((i:Int)+1)=((i+1:Nat):Int) by omega];simp only[ou,qP,mem_mk hk];have:=a2 k hk;by_cases hr:Re p F j k
    .simp[this.2 hr,hr]
    .have:m k=false:=by
      cases hm:m k with
      |false=>rfl
      |true=>exact absurd (this.1 hm) hr
     simp[this,hr]) (by omega:(cl p F k).length<N)
   have hco:G9 N p (k:Int)=some (cl p F k):=by
    unfold G9;rw[hv];have b1:decide ((k:Int)<0)=false:=rH (by omega);have b2:decide ((F:Int)<=(k:Int))=false:=rH (by omega);simp only[ou,qC,pD,pV,b1,AI,P.len,b2];rw[OF P hg hN];simp only[ou];rw[Q1 P hN];rfl
   refine⟨E7 (λ_ c=>decide (¬ Re p F c.toNat k)) 0 (cl p F k),?_,?_,λj hj _=>(by have e:j=k:=(by omega);subst e;rw[show decide (0<j)=true from sT (by omega)];rfl)⟩
   .simp only[c1,c2,pW,sy,qC,pD,pV];rw[Aw hg];simp only[ou];rw[OJ P hg hN];simp only[ou];rw[L1,EN];cases E7 (λ(_:Nat) (c:Int)=>decide (¬ Re p F c.toNat k)) 0 (cl p F k)<;>rfl
   .simp only[h1,h2,pa,pD,pV,ou];rw[hco];simp only[ou];rw[L2,EN];cases E7 (λ(_:Nat) (c:Int)=>decide (¬ Re p F c.toNat k)) 0 (cl p F k)<;>rfl
end RC
namespace RC
open Go
theorem Tu {f o n:Int}{k:List AD}:cse f (.mk o n k)=(if o=9/\n=f then 1 else 0)+LI f k:=by rw[cse]
theorem Uk {f:Int}:∀{l:List AD},(∀e∈l,cse f e=0)->LI f l=0
 | [],_=>by simp[LI]
 |e::l,h=>by simp only[LI];rw[h e (by simp),Uk λx hx=>h x (by simp[hx])]
theorem bR {f:Int}:∀{l:List AD},LI f l=0->∀e∈l,cse f e=0
 | [],_,e,h=>by cases h
 |a::l,h,e,he=>by
  simp only[LI]at h;rcases pK.1 he with rfl|he
  .omega
  .exact bR (by omega) e he
theorem cI {f:Int}{e k:AD}(h:cse f e=0)(hk:k∈e.kids):cse f k=0:=by
 obtain⟨o,n,l⟩:=e;rw[Tu]at h;have h2:LI f l=0:=by omega
 exact bR h2 k hk
theorem fM {f a k:Int}:∀(c:Nat) (e:AD),en e<=c->cse f e=0->cse f (sh a k e)=0:=by
 intro c
 induction c with
 |zero=>intro e h;have:=Fi e;omega
 |succ c ih=>
  intro e hc h;rw[Uu,Tu,Uk (λx hx=>by
   obtain⟨y,hy,rfl⟩:=pQ.1 hx;have:=Ca hy;exact ih y (by omega) (cI h hy))]
  obtain⟨o,n,l⟩:=e;rw[Tu]at h;by_cases h9:o=9
  .subst h9;have hn:¬ n=f:=λq=>by rw[pI ⟨rfl,q⟩]at h;omega
   simp[AD.op,AD.num,hn]
  .simp[AD.op,h9]
theorem gF {f:Int}{n:Nat}:∀(xs:List AD) (c:Nat) (b:AD),(∀x∈xs,cse f x=0)->cse f b=0->cse f (lt n c xs b)=0
 | [],c,b,_,h=>by simpa [lt] using h
 |x::r,c,b,hx,h=>by
  simp only[lt,cse,LI];rw[fM (en x) x (pL _) (hx x (by simp)),gF r (c+1) b (λy hy=>hx y (by simp[hy])) h];simp
section
variable {D : List AK} {fi : Int} {body : AD}
theorem RV {n:Nat}{o nu:Int}{l:List AD}{j:Nat}{x:AD}(h:x∈Gq D fi body n o nu j l):∃i k,l[i]?=some k/\x=inl D fi body (n+HM D o nu (j+i)) k:=by
 obtain⟨i,hi⟩:=pY.1 h;rw[LD,pH]at hi;obtain⟨k,hk,rfl⟩:=hi;exact⟨i,k,hk,rfl⟩
theorem jw (hb:cse fi body=0):∀(c:Nat) (e:AD) (n:Nat),en e<=c->cse fi (inl D fi body n e)=0:=by
 intro c
 induction c with
 |zero=>intro e _ h;have:=Fi e;omega
 |succ c ih=>
  intro e n hc;have hk:∀x∈Gq D fi body n e.op e.num 0 e.kids,cse fi x=0:=λx hx=>by
   obtain⟨i,k,hk,rfl⟩:=RV hx;have:=Ca (ov hk);exact ih k _ (by omega)
  rw[Mp];unfold Qp;split
  .exact gF _ _ _ hk (fM _ _ (pL _) hb)
  .rename_i h9;rw[Tu,pJ h9,Uk hk]
theorem W0:∀(c:Nat) (e:AD) (n:Nat),en e<=c->cse fi e=0->inl D fi body n e=e:=by
 intro c
 induction c with
 |zero=>intro e _ h;have:=Fi e;omega
 |succ c ih=>
  intro e n hc h;have h9:¬ (e.op=9/\e.num=fi):=λq=>by
   obtain⟨o,m,l⟩:=e;rw[Tu,pI (show o=9/\m=fi from q)]at h;omega
  have hk:Gq D fi body n e.op e.num 0 e.kids=e.kids:=by
   refine qj λi=>?_;rw[LD];cases hki:e.kids[i]? with
   |none=>rfl
   |some k=>
    have hm:=ov hki;have:=Ca hm;simp only[qF];rw[ih k _ (by omega) (cI h hm)]
  rw[Mp];unfold Qp;rw[pJ h9,hk];cases e;rfl
theorem jT {n:Nat}{e:AD}:CJ (Gq D fi body n e.op e.num 0 e.kids)<en (inl D fi body n e):=by
 rw[Mp];unfold Qp;split
 .rw[bH];have:=Fi (sh 0 (n:Int) body);omega
 .rw[en];omega
theorem iU {n:Nat}{x:Int}{l:List AD}{b:AD}(h:x∈HY (lt n 0 l (sh 0 n b))):x∈Fl l∨x∈HY b:=by
 rcases bk _ _ _ h with h|h
 .exact .inl h
 .rw[cY _ _ (pL _)]at h;exact .inr h
theorem YW {x:Int}:∀{l:List AD},x∈Fl l->∃k∈l,x∈HY k
 | [],h=>by simp[Fl]at h
 |a::l,h=>by
  simp only[Fl]at h;rcases pX.1 h with h|h
  .exact⟨a,by simp,h⟩
  .obtain⟨k,h1,h2⟩:=YW h;exact⟨k,by simp[h1],h2⟩
theorem iB {x:Int}:∀(c:Nat) (e:AD) (n:Nat),en e<=c->x∈HY (inl D fi body n e)->x∈HY e∨(fi∈HY e/\x∈HY body):=by
 intro c
 induction c with
 |zero=>intro e _ h;have:=Fi e;omega
 |succ c ih=>
  intro e n hc h;have KH:x∈Fl (Gq D fi body n e.op e.num 0 e.kids)->x∈HY e∨(fi∈HY e/\x∈HY body):=λh=>by
   obtain⟨k',h1,h2⟩:=YW h;obtain⟨i,k,hk,rfl⟩:=RV h1;have hm:=ov hk;have:=Ca hm;rw[IA e];rcases ih k _ (by omega) h2 with h|⟨h,h'⟩
   .exact .inl (qZ _ (Qe hm h))
   .exact .inr ⟨qZ _ (Qe hm h),h'⟩
  rw[Mp]at h;unfold Qp at h;split at h
  .rename_i h9;rcases iU h with h|h
   .exact KH h
   .exact .inr ⟨by rw[IA];unfold Mi;rw[pI (.inl h9.1),h9.2];simp,h⟩
  .rw[IA]at h;rcases pX.1 h with h|h
   .exact .inl (by rw[IA e];exact qN _ h)
   .exact KH h
end
section
variable {p : AJ} {N : Nat} {T : List Int -> AD -> Int}
theorem kz (S:FB p.decls p.funcs)(hN:2000000<=N)(hT:TX p N T){fi:Int}{fb:AU}(hfb:Sh.get p.funcs fi=some fb)(Vb:VX p fb.body fb.params)(Ip:en fb.body<=30)(hbp:fb.params.length<=3)(tb:T fb.params fb.body=fb.result)(hr:fb.result≠-1):
  ∀(c:Nat) (e:AD) (v:List Int),en e<=c->en e<=30->VX p e v->v.length+3*en e<=200->en (inl p.decls fi fb.body v.length e)<=30->T v e≠-1->T v (inl p.decls fi fb.body v.length e)=T v e/\Aj (inl p.decls fi fb.body v.length e):=by
 intro c
 induction c with
 |zero=>intro e _ h;have:=Fi e;omega
 |succ c ih=>
  intro e v hc yI V hlv hs ht;have he:=Ft e;have hs2:=jT (D:=p.decls) (fi:=fi) (body:=fb.body) (n:=v.length) (e:=e);have zL:=RU (D:=p.decls) (fi:=fi) (body:=fb.body) (n:=v.length) (o:=e.op) (nu:=e.num) e.kids 0;have sub:∀(i:Nat) k,e.kids[i]?=some k->∀m:List Int,m.length=HM p.decls e.op e.num i->m.length<=3->(∀x∈m,DZ p.decls x=true)->T (v++m) k≠-1->
    T (v++m) (inl p.decls fi fb.body (v.length+HM p.decls e.op e.num i) k)=T (v++m) k/\Aj (inl p.decls fi fb.body (v.length+HM p.decls e.op e.num i) k):=λi k hk m m1 m2 m3 m4=>by
   have hke:=Ca (ov hk);have vQ:(Gq p.decls fi fb.body v.length e.op e.num 0 e.kids)[i]?=some (inl p.decls fi fb.body (v.length+HM p.decls e.op e.num i) k):=by rw[LD,qO,hk];rfl
   have zH:=I3 (ov vQ);have:=ih k (v++m) (by omega) (by omega) (V.KH (ov hk) m2 m3) (by rw[pU];omega) (by rw[pU,m1];omega) m4;rwa [pU,m1]at this
  have K:∀(i:Nat) k,e.kids[i]?=some k->Aj (inl p.decls fi fb.body (v.length+HM p.decls e.op e.num i) k):=λi k hk=>by
   obtain⟨m,m1,m2,m3,m4⟩:=QN S hN hT V ht hk;exact (sub i k hk m m1 m2 m3 m4).2
  have hkk:∀k∈Gq p.decls fi fb.body v.length e.op e.num 0 e.kids,Aj k:=λk hk=>by
   obtain⟨i,k0,hk0,rfl⟩:=RV hk;rw[qO];exact K i k0 hk0
  by_cases h9:e.op=9/\e.num=fi
  .obtain⟨f,f1,f2,f3,f4,f5⟩:=S8 S hN hT V h9.1 ht;have hfe:f=fb:=by
    have:=(Sh.get_some hfb).2.1;rw[h9.2,this]at f1;exact (qf f1).symm
   subst hfe;have ex0:∀i,HM p.decls e.op e.num i=0:=λi=>by unfold HM;rw[h9.1];simp
   have kt:∀(i:Nat) k,e.kids[i]?=some k->T v k≠-1:=λi k hk=>by
    obtain⟨m,m1,_,_,m4⟩:=QN S hN hT V ht hk;rw[ex0,List.length_eq_zero_iff]at m1;rw[m1,qR]at m4;exact m4
   have kt2:∀(i:Nat) k,e.kids[i]?=some k->T v (inl p.decls fi f.body v.length k)=T v k:=λi k hk=>by
    have:=(sub i k hk [] (by rw[ex0];rfl) (by simp) (by simp) (by rw[qR];exact kt i k hk)).1;rwa [qR,ex0,qo]at this
   have mapT:(Gq p.decls fi f.body v.length e.op e.num 0 e.kids).map (T v)=f.params:=by
    rw[<- f4];refine qj λi=>?_;rw[pB,pB,LD,qO];cases hki:e.kids[i]? with
    |none=>rfl
    |some k=>
     simp only[qF];rw[ex0,qo,kt2 i k hki]
   have hlen:e.kids.length<=3:=by rw[<- f4,pR]at hbp;exact hbp
   have s:=kE S hN hT [] v V.Jk (en f.body) f.body f.params (pL _) (by rw[qS];exact Vb) (by simp;omega) (by rw[qS,tb];exact hr);rw[qS,qS,tb]at s;have s:T (v++f.params) (sh 0 (v.length:Int) f.body)=f.result/\Aj (sh 0 (v.length:Int) f.body):=s;have L:=ib S hN hT v V.Jk (Gq p.decls fi f.body v.length e.op e.num 0 e.kids) [] (sh 0 (v.length:Int) f.body) (by simp) (by rw[zL,YI];simp only[qi];omega) (λx hx=>⟨hkk x hx,by
    obtain⟨i,k0,hk0,rfl⟩:=RV hx;rw[ex0,qo,kt2 i k0 hk0];exact kt i k0 hk0⟩) s.2
   simp only[qR,qi]at L;rw[mapT]at L;rw[Mp];unfold Qp;rw[pI h9];exact⟨by rw[L.1,s.1,f5],L.2⟩
  .have e1:inl p.decls fi fb.body v.length e=.mk e.op e.num (Gq p.decls fi fb.body v.length e.op e.num 0 e.kids):=by rw[Mp];unfold Qp;rw[pJ h9]
   have CS:Aj (.mk e.op e.num (Gq p.decls fi fb.body v.length e.op e.num 0 e.kids)):=lA V.CS zL hkk;have V1:VX p (.mk e.op e.num (Gq p.decls fi fb.body v.length e.op e.num 0 e.kids)) v:=⟨by rw[<- e1];omega,V.Jk,CS⟩
   rw[e1];refine⟨?_,CS⟩;by_cases vt:e.op=12
   .have q:=hT.var V vt;have q':=hT.var V1 vt;by_cases hr:e.kids=[]/\0<=e.num/\e.num<(v.length:Int)
    .have hf:Gq p.decls fi fb.body v.length e.op e.num 0 e.kids=[]:=by rw[hr.1];rfl
     rw[q,q',pI hr];exact pI ⟨hf,hr.2⟩
    .rw[pJ hr]at q;exact absurd q ht
   .have hB:=Th (e':=.mk e.op e.num (Gq p.decls fi fb.body v.length e.op e.num 0 e.kids)) (v':=v) (hT.H V) (hT.H V1) V.VM V1.VM S hN (hT.bi V) ht rfl rfl vt zL (λi k k' hk wY m hm1 hm3 hmt hkt=>by
     have wY:(Gq p.decls fi fb.body v.length e.op e.num 0 e.kids)[i]?=some k':=wY;rw[LD,qO,hk]at wY;obtain rfl:inl p.decls fi fb.body (v.length+HM p.decls e.op e.num i) k=k':=by simpa using wY
     exact (sub i k hk m hm1 hm3 hmt hkt).1)
    have:=hT.bi V1;rw[hB]at this;exact (qf this).symm
end
end RC
namespace RC
open Go
theorem ZT {f:Int}:∀{l:List AU},(∀g∈l,cse f g.body=0)->Lb f l=0
 | [],_=>by simp[Lb]
 |g::l,h=>by
  have h2:=ZT (f:=f) λx hx=>h x (qT _ hx);simp only[Lb,pc,rT]at h2⊢;rw[h g (by simp)];omega
theorem ca {f:Int}:∀{l:List AU},Lb f l=0->∀g∈l,cse f g.body=0
 | [],_,g,h=>by cases h
 |a::l,h,g,hg=>by
  simp only[Lb,pc,rT]at h;rcases pK.1 hg with rfl|hg
  .omega
  .exact ca (show Lb f l=0 by unfold Lb;omega) g hg
theorem VB {p:AJ}{g:AU->AD}{k:Nat}:(GY p g).funcs[k]?=(p.funcs[k]?).map λf=>AU.mk f.params f.result (g f):=by
 show (p.funcs.map _)[k]?=_;rw[pB]
theorem dJ {p:AJ}{g:AU->AD}(h :∀f∈p.funcs,g f=f.body):GY p g=p:=by
 obtain⟨D,F⟩:=p;show AJ.mk D (F.map _)=_;congr 1;refine (pf λf hf=>?_).trans (qn _);rw[h f hf];rfl
open Classical in
theorem cu {p:AJ}{F:Nat}(P:PO p F){N k:Nat}(hN:2000000<=N)(hs:BM N p=some true)(hv:CI N p=some true)(h0:0<k)(hk:k<F):
  ∃b,Fx N p (k:Int)=some b/\Dk N p (k:Int)=some b/\(b=true↔∀c∈MI p k,¬ Re p F c.toNat k):=by
 obtain⟨b,e1,e2,e3⟩:=YQ P (f:=(k:Int)) hN hs hv;refine⟨b,e1,e2,?_⟩;rw[e3 k rfl hk,GC];simp only[h0,pW,sI,pG,pP];exact⟨λh c hc=>h c ((PE P c).2 hc),λh c hc=>h c ((PE P c).1 hc)⟩
theorem ke {p:AJ}{F k:Nat}{fb:AU}(hfb:p.funcs[k]?=some fb){c x:Nat}(h:Re (GY p (inf p (k:Int) fb)) F c x)(hc :∃d∈MI p k,Re p F d.toNat c):∃d∈MI p k,Re p F d.toNat x:=by
 induction h with
 |refl=>exact hc
 |step h1 h2 ih=>
  rename_i j y;obtain⟨d,hd,hr⟩:=ih;unfold MI at h2;rw[VB]at h2;cases hj:p.funcs[j]? with
  |none=>rw[hj]at h2;cases h2
  |some f=>
   rw[hj]at h2;rcases iB _ f.body f.params.length (pL _) h2 with h|⟨_,h⟩
   .exact⟨d,hd,.step hr (by unfold MI;rw[hj];exact h)⟩
   .exact⟨y,by unfold MI;rw[hfb];exact h,.refl⟩
theorem Y8 {p:AJ}(S:Ds p){N:Nat}(hN:2000000<=N)(fi:Int):
  (GZ N p fi=some (.mk [] [],false)/\FV N p fi=some (.mk [] [],false))∨
  ∃g:AU->AD,GZ N p fi=some (GY p g,true)/\FV N p fi=some (GY p g,true)/\Ds (GY p g)/\BM N p=some true/\BM N (GY p g)=some true/\CI N (GY p g)=some true/\
   Dk N p fi=some true/\0<=fi/\fi<(p.funcs.length:Int)/\Lb fi (GY p g).funcs=0/\FV N (GY p g) fi=some (GY p g,true)/\(Lb fi p.funcs=0->GY p g=p):=by
 obtain⟨hd,hz⟩:=Uf S;rcases aL S hN hd hz fi with h|⟨fb,h1,h2,h3,e1,e2,m2,w1,w2⟩
 .exact .inl h
 by_cases yI:(p.funcs.all λf=>decide (en (inf p fi fb f)<=30))=true
 case neg=>
  unfold wB at w1 w2;rw[pJ yI]at w1 w2;exact .inl ⟨w1,w2⟩
 have yI:∀f∈p.funcs,en (inf p fi fb f)<=30:=λf hf=>by simpa using pG.1 yI f hf
 rw[ez yI]at w1 w2;obtain⟨SO,T,hT,hfs⟩:=T5 S hN e1;have AAA:fb∈p.funcs:=ov (Sh.get_some h1).2.1;have hV:∀f∈p.funcs,VX p f.body f.params:=λf hf=>by
  obtain⟨h1,h2,h3,h4,h5,h6⟩:=hfs f hf;exact⟨by omega,h3,h4⟩
 have uq:∀f∈p.funcs,f.result≠-1:=λf hf=>by
  have:=(Lc (hfs f hf).2.2.2.2.1).1;omega
 obtain⟨a1,a2,c,_⟩:=eD S hN e1 hT (g:=inf p fi fb) λf hf=>by
  obtain⟨q1,q2,q3,q4,q5,q6⟩:=hfs f hf;obtain⟨r1,r2,r3,r4,r5,r6⟩:=hfs fb AAA;have:=kz SO hN hT h1 (hV fb AAA) r1 r2 r6 (uq fb AAA) (en f.body) f.body f.params (pL _) q1 (hV f hf) (by omega) (yI f hf) (by rw[q6];exact uq f hf);exact⟨yI f hf,this.2,by unfold inf;rw[this.1,q6]⟩
 obtain⟨k,rfl⟩:=pb (by omega:0<=fi);have hfk:p.funcs[k]?=some fb:=by have:=(Sh.get_some h1).2.1;rwa [qP]at this
 have P:=VT S hN e1;obtain⟨b,b1,b2,b3⟩:=cu P (k:=k) hN e1 e2 (by omega) (by omega);rw[m2]at b2;cases b2;have nore:=b3.1 rfl;have hself:cse (k:Int) fb.body=0:=by
  rcases rJ (cse (k:Int) fb.body) with h|h
  .exact h
  .have hm:(k:Int)∈MI p k:=by unfold MI;rw[hfk];exact Zv _ h
   have:=nore _ hm;rw[qP]at this;exact absurd .refl this
 have hout:∀f∈(GY p (inf p (k:Int) fb)).funcs,cse (k:Int) f.body=0:=λf hf=>by
  obtain⟨f0,h0,rfl⟩:=pQ.1 (show f∈p.funcs.map _ from hf);exact jw hself _ f0.body f0.params.length (pL _)
 have hlen:(GY p (inf p (k:Int) fb)).funcs.length=p.funcs.length:=by show (p.funcs.map _).length=_;rw[pR]
 have uD:Sh.get (GY p (inf p (k:Int) fb)).funcs (k:Int)=some (.mk fb.params fb.result fb.body):=Aw (by rw[VB,hfk];show some (AU.mk fb.params fb.result (inf p (k:Int) fb fb))=_;rw[show inf p (k:Int) fb fb=fb.body from W0 _ fb.body _ (pL _) hself]);have P2:=VT c hN a1;rw[hlen]at P2;obtain⟨b',d1,d2,d3⟩:=cu P2 (k:=k) hN a1 a2 (by omega) (by omega);have vF:b'=true:=d3.2 λx hx hr=>by
  have hx2:x∈MI p k:=by
   unfold MI at hx⊢;rw[VB,hfk]at hx;rw[hfk];have hx:x∈HY (inf p (k:Int) fb fb):=hx;rwa [show inf p (k:Int) fb fb=fb.body from W0 _ fb.body _ (pL _) hself]at hx
  obtain⟨d,g1,g2⟩:=ke hfk hr ⟨x,hx2,.refl⟩;exact nore d g1 g2
 subst vF;have m3:Di N (GY p (inf p (k:Int) fb)) (k:Int)=some true:=by
  unfold Fx at d1;rw[a1]at d1;simp only[ou,pq]at d1;cases h:Di N (GY p (inf p (k:Int) fb)) (k:Int) with
  |none=>rw[h]at d1;simp at d1
  |some x=>rw[h]at d1;simpa using d1
 obtain⟨_,w3,_⟩:=SA c hN (Uf c).1 (Uf c).2 uD a1 m3 d2;have xA:∀f∈(GY p (inf p (k:Int) fb)).funcs,inf (GY p (inf p (k:Int) fb)) (k:Int) (.mk fb.params fb.result fb.body) f=f.body:=λf hf=>W0 _ f.body _ (pL _) (hout f hf);rw[ez (λf hf=>by
  rw[xA f hf];obtain⟨f0,h0,rfl⟩:=pQ.1 (show f∈p.funcs.map _ from hf);exact yI f0 h0),dJ xA]at w3
 exact .inr ⟨_,w1,w2,c,e1,a1,a2,m2,by omega,h3,ZT hout,w3,λh0=>dJ λf hf=>W0 _ f.body _ (pL _) (ca h0 f hf)⟩
theorem Wf {code:List Int}(h8:I2 U8 code)(hl:code.length<=1048576):∃q,Im 2000000 code=some q/\Ds q.1:=by
 obtain⟨q,hd,P,_,_⟩:=Sm h8.1 (by omega) (pL 2000000);unfold Im;rw[hd];exact⟨_,rfl,P.small⟩
end RC
