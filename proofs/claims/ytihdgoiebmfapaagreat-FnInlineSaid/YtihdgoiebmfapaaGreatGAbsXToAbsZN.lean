import Derived.Test.YtihdgoiebmfapaaGreatAbsW
import Derived.Lib.AppendZerosOnto
import Derived.OrdersHeld
set_option linter.all false
namespace Go.Abs
open Go
def QZ:AV->Bool
 |.int ..|.bool _|.str _|.zc|.SK|.R9|.dv ..=>true
 |_=>false
def VK (xs:List (List AV)):Prop:=∀x∈xs,∀c∈x,QZ c=true
theorem aq {F S:Nat->Prop}{w:World}{os:List Own}{c:AV}{u:Value}(hc:QZ c=true)(hd :∀e s ys,c≠.dv e s ys)(h:Ab F w os c u):En S w c u:=by
 cases c<;>simp only[QZ,pF]at hc<;>simp only[Ab]at h<;>simp only[En]<;>first|exact h|exact absurd rfl (hd _ _ _)
theorem PM {F S:Nat->Prop}{w:World}{os:List Own}{c:AV}{u:Value}(h:En S w c u):Ab F w os c u/\c.kept=true/\QZ c=true:=by
 cases c<;>simp only[En]at h
 case dv=>
  refine⟨?_,rfl,rfl⟩;simp only[Ab];rcases h.2 with ⟨_,a,rfl⟩|⟨b,cap,cur,rfl,_⟩<;>exact⟨_,_,_,rfl⟩
 all_goals first|exact h.elim|exact⟨by simp only[Ab];exact h,rfl,rfl⟩
theorem ZN {w:World}{cur:Array Value}{D:Nat->Nat->Prop}(ve :∀j j' b,D j b->D j' b->j=j'):∀(x:List AV) (o j0:Nat),(∀(j:Nat) c,x[j]?=some c->∃u,cur[o+j]?=some u/\En (D (j0+j)) w c u)->
  Lx (λb=>∃j,j0<=j/\D j b) w x cur o
 | [],_,_,_=>by simp[Lx]
 |c::r,o,j0,h=>by
  simp only[Lx];obtain⟨u,h1,h2⟩:=h 0 c rfl;refine⟨D j0,λb=>∃j,j0+1<=j/\D j b,λb hb=>⟨j0,pM _,hb⟩,λb ⟨j,hj,hb⟩=>⟨j,by omega,hb⟩,λb hb ⟨j,hj,vG⟩=>by have:=ve _ _ _ hb vG;omega,⟨u,h1,h2⟩,?_⟩;exact ZN ve r (o+1) (j0+1) λj c hc=>by
   obtain⟨u,h1,h2⟩:=h (j+1) c (by simpa using hc);exact⟨u,by rw[<- h1];congr 1;omega,by rw[show j0+1+j=j0+(j+1) by omega];exact h2⟩
theorem Zl {w:World}{cur:Array Value}{size:Nat}{D:Nat->Nat->Nat->Prop}(ve :∀i j i' j' b,D i j b->D i' j' b->i=i'/\j=j'):∀(xs:List (List AV)) (o i0:Nat),(∀x∈xs,x.length=size)->
  (∀(i:Nat) x,xs[i]?=some x->∀(j:Nat) c,x[j]?=some c->∃u,cur[o+i*size+j]?=some u/\En (D (i0+i) j) w c u)->L4 (λb=>∃i j,i0<=i/\D i j b) w xs cur o
 | [],_,_,_,_=>by simp[L4]
 |x::r,o,i0,hs,h=>by
  simp only[L4];refine⟨λb=>∃j,0<=j/\D i0 j b,λb=>∃i j,i0+1<=i/\D i j b,λb ⟨j,_,hb⟩=>⟨i0,j,pM _,hb⟩,λb ⟨i,j,hi,hb⟩=>⟨i,j,by omega,hb⟩,λb ⟨j,_,hb⟩ ⟨i,j',hi,vG⟩=>by have:=(ve _ _ _ _ _ hb vG).1;omega,?_,?_⟩
  .exact ZN (D:=D i0) (λj j' b h1 h2=>(ve _ _ _ _ _ h1 h2).2) x o 0 λj c hc=>by
    obtain⟨u,h1,h2⟩:=h 0 x rfl j c hc;exact⟨u,by rw[<- h1];congr 1;omega,by simpa using h2⟩
  .rw[hs x (by simp)];exact Zl ve r (o+size) (i0+1) (λx hx=>hs x (by simp[hx])) λi y hy j c hc=>by
    obtain⟨u,h1,h2⟩:=h (i+1) y (by simpa using hy) j c hc;exact⟨u,by rw[<- h1];congr 1;rw[px];omega,by rw[show i0+1+i=i0+(i+1) by omega];exact h2⟩
theorem YL {w:World}{cur:Array Value}:∀{x:List AV} {S:Nat->Prop} {o:Nat},Lx S w x cur o->∃D:Nat->Nat->Prop,(∀j b,D j b->S b)/\(∀j j' b,D j b->D j' b->j=j')/\
  ∀(j:Nat) c,x[j]?=some c->∃u,cur[o+j]?=some u/\En (D j) w c u
 | [],_,_,_=>⟨λ_ _=>False,λ_ _ h=>h.elim,λ_ _ _ h=>h.elim,λj c h=>by simp at h⟩
 |c::r,S,o,h=>by
  simp only[Lx]at h;obtain⟨S1,S2,h1,h2,h3,⟨u,h4,h5⟩,h6⟩:=h;obtain⟨D,d1,d2,d3⟩:=YL h6;refine⟨λj=>match j with|0=>S1|j+1=>D j,λj b hb=>?_,λj j' b hb vG=>?_,λj c' hc=>?_⟩
  .cases j with
   |zero=>exact h1 b hb
   |succ j=>exact h2 b (d1 j b hb)
  .cases j with
   |zero=>
    cases j' with
    |zero=>rfl
    |succ j'=>exact absurd (d1 j' b vG) (h3 b hb)
   |succ j=>
    cases j' with
    |zero=>exact absurd (d1 j b hb) (h3 b vG)
    |succ j'=>rw[d2 j j' b hb vG]
  .cases j with
   |zero=>simp only[pj,pD]at hc;subst hc;exact⟨u,h4,h5⟩
   |succ j=>
    obtain⟨u',g1,g2⟩:=d3 j c' (by simpa using hc);exact⟨u',by rw[<- g1];congr 1;omega,g2⟩
theorem YX {w:World}{cur:Array Value}{size:Nat}:∀{xs:List (List AV)} {S:Nat->Prop} {o:Nat},(∀x∈xs,x.length=size)->L4 S w xs cur o->∃D:Nat->Nat->Nat->Prop,(∀i j b,D i j b->S b)/\
  (∀i j i' j' b,D i j b->D i' j' b->i=i'/\j=j')/\∀(i:Nat) x,xs[i]?=some x->∀(j:Nat) c,x[j]?=some c->∃u,cur[o+i*size+j]?=some u/\En (D i j) w c u
 | [],_,_,_,_=>⟨λ_ _ _=>False,λ_ _ _ h=>h.elim,λ_ _ _ _ _ h=>h.elim,λi x h=>by simp at h⟩
 |x::r,S,o,hs,h=>by
  simp only[L4]at h;obtain⟨S1,S2,h1,h2,h3,h4,h5⟩:=h;obtain⟨E,e1,e2,e3⟩:=YL h4;obtain⟨D,d1,d2,d3⟩:=YX (λx hx=>hs x (by simp[hx])) h5;refine⟨λi=>match i with|0=>E|i+1=>D i,λi j b hb=>?_,λi j i' j' b hb vG=>?_,λi y hy j c hc=>?_⟩
  .cases i with
   |zero=>exact h1 b (e1 j b hb)
   |succ i=>exact h2 b (d1 i j b hb)
  .cases i with
   |zero=>
    cases i' with
    |zero=>exact⟨rfl,e2 j j' b hb vG⟩
    |succ i'=>exact absurd (d1 i' j' b vG) (h3 b (e1 j b hb))
   |succ i=>
    cases i' with
    |zero=>exact absurd (d1 i j b hb) (h3 b (e1 j' b vG))
    |succ i'=>
     obtain⟨q1,q2⟩:=d2 i j i' j' b hb vG;exact⟨by rw[q1],q2⟩
  .cases i with
   |zero=>
    simp only[pj,pD]at hy;subst hy;obtain⟨u,g1,g2⟩:=e3 j c hc;exact⟨u,by rw[<- g1];congr 1;omega,g2⟩
   |succ i=>
    obtain⟨u,g1,g2⟩:=d3 i y (by simpa using hy) j c hc;rw[hs x (by simp)]at g1;exact⟨u,by rw[<- g1];congr 1;rw[px];omega,g2⟩
variable {P : Program} {F : Nat -> Prop} {os : List Own} {s : St} {a : Act} {w : World} {k : Nat}
theorem Vr {p:Own}(h:Md F w os p)(hd:VK p.row.xs){v:Value}(hv:(p.GC=none/\∃a,v=.slice a p.row.xs.length 0)∨∃b,p.GC=some b/\v=.slice (some ⟨b,0,none⟩) p.row.xs.length p.cap):
  En p.owns w (.dv p.row.elem p.row.size p.row.xs) v:=by
 simp only[En];refine⟨h.pos,?_⟩;rcases hv with ⟨hb,a,rfl⟩|⟨b,hb,rfl⟩
 .have:=(h.none hb).1;exact .inl ⟨this,a,by rw[this];rfl⟩
 .obtain⟨_,cur,uP,uf,hle,vo,uL⟩:=h.some b hb;obtain⟨D,d1,d2,d3⟩:=h.deep;refine .inr ⟨b,p.cap,cur,rfl,hle,vo,.inl hb,uP,uf,λx hx=>(h.lens x hx).1,?_⟩;have:=Zl (w:=w) (cur:=cur) (size:=p.row.size) d2 p.row.xs 0 0 (λx hx=>(h.lens x hx).1) (λi x hx j c hc=>by
   simp only[qP];by_cases hdv :∃e s ys,c=.dv e s ys
   .obtain⟨e,s,ys,rfl⟩:=hdv;exact d3 b hb cur _ _ uP i x j e s ys hx hc
   .obtain⟨u,g1,g2⟩:=uL i x hx j c hc;exact⟨u,g1,aq (hd x (oz hx) c (oz hc)) (λe s ys e'=>hdv ⟨e,s,ys,e'⟩) g2⟩)
  exact Qd (λc ⟨i,j,_,hc⟩=>⟨.inr (d1 i j c hc),λe=>(h.mo c (d1 i j c hc)).2.2 (by rw[hb,e])⟩) (λ_ _=>rfl) _ _ _ this
theorem LW {id m g gm size sz n i j nn:Nat}{el xU:TypeId}{xs ys:List (List AV)}{x:List AV}{e:Nat->AV}{st st':List Row}(tw:st[id]?=some ⟨g,el,size,xs⟩)(hx:xs[i]?=some x)(hc:x[j]?=some (.own m gm n))
  (hm:st[m]?=some ⟨gm,xU,sz,ys⟩) (hn:n=ys.length) (uu:id≠m) (xV:k<=m) (hd:VK ys) (uW:(st.set id ⟨g,el,size,xs.set i (x.set j (.dv xU sz ys))⟩).set m ⟨gm+1,xU,sz,[]⟩=st') :
  Wk k ⟨nn,e,st⟩ ⟨nn,e,st'⟩:=λF os a w hr=>by
 subst uW;subst hn;obtain⟨o,ho,hor⟩:=hr.row tw;obtain⟨p,hp,hpr⟩:=hr.row hm;have uA:=hr.rows id o ho;have hpk:=hr.rows m p hp;have uW:os.map Own.row=st:=hr.st;have wR:o.row.xs=xs:=by rw[hor]
 have hpx:p.row.xs=ys:=by rw[hpr]
 let o':Own:={ o with row:={ o.row with xs:=xs.set i (x.set j (.dv xU sz ys)) },more:=λb=>o.more b∨p.owns b }
 let p':Own:=⟨{ p.row with gen:=p.row.gen+1,xs:=[] },none,0,GG⟩
 have vh:i<xs.length:=(pB.1 hx).1;have yN:j<x.length:=(pB.1 hc).1;have hidl:=(pB.1 ho).1;have hml:=(pB.1 hp).1;have ve:∀b,o.owns b->¬ p.owns b:=λb h1 h2=>uu (hr.inj id m o p b ho hp h1 h2);have uF:∀(q:Nat) (oq:Own),((os.set id o').set m p')[q]?=some oq->(q≠id/\q≠m/\os[q]?=some oq)∨(q=id/\oq=o')∨(q=m/\oq=p'):=λq oq hq=>by
  by_cases e:q=m
  .subst e;rw[pP (by simpa using hml),pD]at hq;exact .inr (.inr ⟨rfl,hq.symm⟩)
  .rw[pf (qw e)]at hq;by_cases e2:q=id
   .subst e2;rw[pP hidl,pD]at hq;exact .inr (.inl ⟨rfl,hq.symm⟩)
   .rw[pf (qw e2)]at hq;exact .inl ⟨e2,e,hq⟩
 have vQ:Fv os ((os.set id o').set m p'):=λq oq hq=>by
  by_cases e:q=m
  .subst e;rw[hp]at hq;cases hq;exact⟨p',pP (by simpa using hml),Nat.le_succ _,rfl,λe=>by simp[p']at e⟩
  .rw[pf (qw e)];by_cases e2:q=id
   .subst e2;rw[ho]at hq;cases hq;exact⟨o',pP hidl,pM _,rfl,λ_=>⟨rfl,rfl,by simp[o',wR]⟩⟩
   .rw[pf (qw e2)];exact⟨oq,hq,pM _,rfl,λ_=>⟨rfl,rfl,rfl⟩⟩
 have uH:∀y v,Ab F w os y v->Ab F w ((os.set id o').set m p') y v:=λy v h=>DW (λ_ h=>h) (λ_ _=>rfl) os _ vQ y v h;have howns:∀b,o'.owns b->o.owns b∨p.owns b:=λb hb=>by
  rcases hb with hb|hb|hb
  .exact .inl (.inl hb)
  .exact .inl (.inr hb)
  .exact .inr hb
 have hpn:∀b,¬ p'.owns b:=λb hb=>by
  rcases hb with hb|hb
  .simp[p']at hb
  .exact hb
 obtain⟨bo,hbo⟩ :∃b,o.GC=some b:=by
  cases hb:o.GC with
  |none=>have:=(uA.none hb).1;rw[wR]at this;rw[this]at vh;simp at vh
  |some b=>exact⟨b,rfl⟩
 obtain⟨zQ,cur,uP,uf,hle,vo,uL⟩:=uA.some bo hbo;obtain⟨uv,hu1,xC⟩:=uL i x (by rw[wR];exact hx) j _ hc;have huv:(p.GC=none/\∃a,uv=.slice a p.row.xs.length 0)∨∃b,p.GC=some b/\uv=.slice (some ⟨b,0,none⟩) p.row.xs.length p.cap:=by
  simp only[Ab]at xC;obtain⟨q,hq,_,_,hv⟩:=xC;rw[hp]at hq;cases hq;have:=(hv (by rw[hpr])).2;rw[hpx]at this⊢;simpa only[qy,sD,sf] using this
 have hRD:En p.owns w (.dv xU sz ys) uv:=by
  have:=Vr hpk (by rw[hpx];exact hd) huv;rw[hpr]at this;exact this
 refine⟨F,(os.set id o').set m p',⟨?_,λt=>uH _ _ (hr.env t),hr.size,λq oq hq=>?_,λq q' oq oq' b hq zU hb vG=>?_,hr.Fp,hr.defers⟩,⟨rfl,rfl,rfl,pM _,λ_ h=>h,λ_ _=>rfl,λb _ h1 h2=>⟨rfl,h1,λoq hoq hb=>?_⟩,λq oq _ hq=>vQ q oq hq⟩⟩
 .rw[rO,rO,uW];simp only[o',p',hor,hpr]
 .rcases uF q oq hq with ⟨_,_,h⟩|⟨_,rfl⟩|⟨_,rfl⟩
  .have h0:=hr.rows q oq h;refine⟨h0.pos,h0.lens,h0.none,λb hb=>?_,h0.mo,h0.deep⟩;obtain⟨e1,cur,e2,e3,e4,e5,e6⟩:=h0.some b hb;exact⟨e1,cur,e2,e3,e4,e5,λi' y hy j' c hc=>by obtain⟨u,f1,f2⟩:=e6 i' y hy j' c hc;exact⟨u,f1,uH _ _ f2⟩⟩
  .refine⟨uA.pos,λy hy=>?_,(λhn=>by simp only[o']at hn;rw[hbo]at hn;cases hn),λb hb=>?_,λb hb=>?_,?_⟩
   .rcases qV hy with hy|rfl
    .exact uA.lens y (by rw[wR];exact hy)
    .have h0:=uA.lens x (by rw[wR];exact oz hx);refine⟨by rw[tJ];exact h0.1,λc wI=>?_⟩;rcases qV wI with h|rfl
     .exact h0.2 c h
     .rfl
   .simp only[o']at hb;rw[hbo]at hb;cases hb;refine⟨zQ,cur,uP,uf,by simpa [o',wR] using hle,vo,λi' y hy j' c xj=>?_⟩;simp only[o']at hy⊢;by_cases hi:i'=i
    .subst hi;rw[pP vh,pD]at hy;subst hy;by_cases hj:j'=j
     .subst hj;rw[pP yN,pD]at xj;subst xj;exact⟨uv,hu1,(PM hRD).1⟩
     .rw[pf (qw hj)]at xj;obtain⟨u,f1,f2⟩:=uL i' x (by rw[wR];exact hx) j' c xj;exact⟨u,f1,uH _ _ f2⟩
    .rw[pf (qw hi)]at hy;obtain⟨u,f1,f2⟩:=uL i' y (by rw[wR];exact hy) j' c xj;exact⟨u,f1,uH _ _ f2⟩
   .rcases hb with hb|hb
    .exact uA.mo b hb
    .exact⟨hpk.nF hb,hpk.lt hb,λe=>ve b (.inl e) hb⟩
   .obtain⟨D,d1,d2,d3⟩:=uA.deep;refine⟨λi' j' b=>if i'=i/\j'=j then p.owns b else D i' j' b,λi' j' b hb=>?_,λi1 j1 i2 j2 b h1 h2=>?_,λb hb wa el2 l vH i' y j' e2 s2 zs hy xj=>?_⟩
    .simp only at hb;split at hb
     .exact .inr hb
     .exact .inl (d1 i' j' b hb)
    .simp only at h1 h2;split at h1<;>split at h2
     .rename_i q1 q2;exact⟨q1.1.trans q2.1.symm,q1.2.trans q2.2.symm⟩
     .exact absurd h1 (ve b (.inr (d1 _ _ _ h2)))
     .exact absurd h2 (ve b (.inr (d1 _ _ _ h1)))
     .exact d2 _ _ _ _ _ h1 h2
    .simp only[o']at hb hy⊢;rw[hbo]at hb;cases hb;rw[uP]at vH;cases vH;by_cases zX:i'=i/\j'=j
     .obtain⟨rfl,rfl⟩:=zX;rw[pP vh,pD]at hy;subst hy;rw[pP yN,pD]at xj;cases xj;exact⟨uv,hu1,by simpa using hRD⟩
     .have hold:∃y0,o.row.xs[i']?=some y0/\y0[j']?=some (.dv e2 s2 zs):=by
       rw[wR];by_cases hi:i'=i
       .subst hi;rw[pP vh,pD]at hy;subst hy;have hj:j'≠j:=λe=>zX ⟨rfl,e⟩;rw[pf (qw hj)]at xj;exact⟨x,hx,xj⟩
       .rw[pf (qw hi)]at hy;exact⟨y,hy,xj⟩
      obtain⟨y0,hy0,wT⟩:=hold;obtain⟨u,f1,f2⟩:=d3 bo hbo cur _ _ uP i' y0 j' e2 s2 zs hy0 wT;exact⟨u,f1,by simpa only[zX,pV] using f2⟩
  .exact⟨hpk.pos,by simp[p'],by simp[p'],by simp[p'],λb hb=>hb.elim,EK (by simp[p'])⟩
 .rcases uF q oq hq with ⟨q1,q2,h⟩|⟨rfl,rfl⟩|⟨_,rfl⟩<;>rcases uF q' oq' zU with ⟨q1',q2',h'⟩|⟨rfl,rfl⟩|⟨_,rfl⟩
  .exact hr.inj q q' oq oq' b h h' hb vG
  .rcases howns b vG with e|e
   .exact hr.inj q _ oq o b h ho hb e
   .exact absurd (hr.inj q m oq p b h hp hb e) q2
  .exact absurd vG (hpn b)
  .rcases howns b hb with e|e
   .exact hr.inj _ q' o oq' b ho h' e vG
   .exact absurd (hr.inj m q' p oq' b hp h' e vG).symm q2'
  .rfl
  .exact absurd vG (hpn b)
  .exact absurd hb (hpn b)
  .exact absurd hb (hpn b)
  .exact absurd hb (hpn b)
 .obtain⟨q,hq⟩:=pZ.1 hoq;rcases uF q oq hq with ⟨_,_,h⟩|⟨_,rfl⟩|⟨_,rfl⟩
  .exact h2 oq (oz h) hb
  .rcases howns b hb with e|e
   .exact h2 o (oz ho) e
   .exact h2 p (oz hp) e
  .exact hpn b hb
end Go.Abs
namespace Go.Abs
open Go
variable {P : Program} {F : Nat -> Prop} {os : List Own} {s : St} {a : Act} {w : World} {k : Nat}
theorem aX {S:Nat->Prop}{el sz:Nat}{ys:List (List AV)}{u:Value}(hS :∀b,S b->¬ F b/\b<w.heap.size)(h:En S w (.dv el sz ys) u):
  ∃p:Own,p.row=⟨0,el,sz,ys⟩/\(∀b,p.owns b->S b)/\(∀os,Md F w os p)/\((p.GC=none/\∃a,u=.slice a ys.length 0)∨∃b,p.GC=some b/\u=.slice (some ⟨b,0,none⟩) ys.length p.cap):=by
 simp only[En]at h;obtain⟨hp,h⟩:=h;rcases h with ⟨rfl,a,rfl⟩|⟨b,cap,cur,rfl,h2,h3,h4,h5,h6,h7,h8⟩
 .refine⟨⟨⟨0,el,sz,[]⟩,none,0,GG⟩,rfl,λb hb=>?_,λos=>⟨hp,by simp,by simp,by simp,λb hb=>hb.elim,EK (by simp)⟩,.inl ⟨rfl,a,rfl⟩⟩;rcases hb with hb|hb
  .cases hb
  .exact hb.elim
 .obtain⟨D,d1,d2,d3⟩:=YX h7 h8;refine⟨⟨⟨0,el,sz,ys⟩,some b,cap,λc=>S c/\c≠b⟩,rfl,λc hc=>?_,λos=>⟨hp,λx hx=>⟨h7 x hx,λc hc=>?_⟩,by simp,λb' vG=>?_,λc hc=>⟨(hS c hc.1).1,(hS c hc.1).2,λe=>hc.2 (by simpa using e.symm)⟩,⟨D,d1,d2,λb' vG wa el2 l vH i x j e s zs hx hc=>?_⟩⟩,.inr ⟨b,rfl,rfl⟩⟩
  .rcases hc with hc|hc
   .cases hc;exact h4
   .exact hc.1
  .obtain⟨i,hi⟩:=pZ.1 hx;obtain⟨j,hj⟩:=pZ.1 hc;obtain⟨u,_,g2⟩:=d3 i x hi j c hj;exact (PM (F:=F) (os:=os) g2).2.1
  .simp only[pD]at vG;subst vG;refine⟨(hS _ h4).1,cur,h5,h6,h2,h3,λi x hx j c hc=>?_⟩;obtain⟨u,g1,g2⟩:=d3 i x hx j c hc;exact⟨u,by simpa using g1,(PM g2).1⟩
  .simp only[pD]at vG;subst vG;rw[h5]at vH;cases vH;obtain⟨u,g1,g2⟩:=d3 i x hx j _ hc;exact⟨u,by simpa using g1,g2⟩
theorem TK {id m g size sz n i j nn:Nat}{el xU:TypeId}{xs ys:List (List AV)}{x:List AV}{e:Nat->AV}{st st':List Row}(tw:st[id]?=some ⟨g,el,size,xs⟩)(hx:xs[i]?=some x)(hc:x[j]?=some (.dv xU sz ys))
  (hm:st.length=m) (hn:n=ys.length) (uW:st.set id ⟨g,el,size,xs.set i (x.set j (.own m 0 n))⟩++[⟨0,xU,sz,ys⟩]=st'):Wk k ⟨nn,e,st⟩ ⟨nn,e,st'⟩:=λF os a w hr=>by
 subst uW;subst hn;subst hm;obtain⟨o,ho,hor⟩:=hr.row tw;have uA:=hr.rows id o ho;have uW:os.map Own.row=st:=hr.st;have hol:os.length=st.length:=by rw[<- uW];simp
 have wR:o.row.xs=xs:=by rw[hor]
 have vh:i<xs.length:=(pB.1 hx).1;have yN:j<x.length:=(pB.1 hc).1;have hidl:=(pB.1 ho).1;obtain⟨bo,hbo⟩ :∃b,o.GC=some b:=by
  cases hb:o.GC with
  |none=>have:=(uA.none hb).1;rw[wR]at this;rw[this]at vh;simp at vh
  |some b=>exact⟨b,rfl⟩
 obtain⟨zQ,cur,uP,uf,hle,vo,uL⟩:=uA.some bo hbo;obtain⟨D,d1,d2,d3⟩:=uA.deep;obtain⟨uv,hu1,xC⟩:=d3 bo hbo cur _ _ uP i x j xU sz ys (by rw[wR];exact hx) hc;obtain⟨p,hpr,hpo,hpk,hpv⟩:=aX (F:=F) (λb hb=>⟨(uA.mo b (d1 _ _ _ hb)).1,(uA.mo b (d1 _ _ _ hb)).2.1⟩) xC
 let o':Own:={ o with row:={ o.row with xs:=xs.set i (x.set j (.own st.length 0 ys.length)) },more:=λb=>o.more b/\¬ D i j b }
 have uF:∀(q:Nat) (oq:Own),(os.set id o'++[p])[q]?=some oq->(q≠id/\q<os.length/\os[q]?=some oq)∨(q=id/\oq=o')∨(q=os.length/\oq=p):=λq oq hq=>by
  rcases ql q os.length with h|h|h
  .rw[pN (by simpa using h)]at hq;by_cases e2:q=id
   .subst e2;rw[pP hidl,pD]at hq;exact .inr (.inl ⟨rfl,hq.symm⟩)
   .rw[pf (qw e2)]at hq;exact .inl ⟨e2,h,hq⟩
  .subst h;rw[pO (by simp)]at hq;simp at hq;exact .inr (.inr ⟨rfl,hq.symm⟩)
  .rw[qB (by simp;omega)]at hq;cases hq
 have hpget:(os.set id o'++[p])[st.length]?=some p:=by
  rw[pO (by simp;omega)];simp[hol]
 have vQ:Fv os (os.set id o'++[p]):=λq oq hq=>by
  have hql:=(pB.1 hq).1;rw[pN (by simpa using hql)];by_cases e2:q=id
  .subst e2;rw[ho]at hq;cases hq;exact⟨o',pP hidl,pM _,rfl,λ_=>⟨rfl,rfl,by simp[o',wR]⟩⟩
  .rw[pf (qw e2)];exact⟨oq,hq,pM _,rfl,λ_=>⟨rfl,rfl,rfl⟩⟩
 have uH:∀y v,Ab F w os y v->Ab F w (os.set id o'++[p]) y v:=λy v h=>DW (λ_ h=>h) (λ_ _=>rfl) os _ vQ y v h;have ho'o :∀b,o'.owns b->o.owns b:=λb hb=>by
  rcases hb with hb|hb
  .exact .inl hb
  .exact .inr hb.1
 have hpoo:∀b,p.owns b->o.owns b:=λb hb=>.inr (d1 _ _ _ (hpo b hb));have ve:∀b,o'.owns b->¬ p.owns b:=λb h1 h2=>by
  have h3:=hpo b h2;rcases h1 with h1|h1
  .exact (uA.mo b (d1 _ _ _ h3)).2.2 h1
  .exact h1.2 h3
 have hnew:Ab F w (os.set id o'++[p]) (.own st.length 0 ys.length) uv:=by
  simp only[Ab];refine⟨p,hpget,pT _,?_,λ_=>⟨by rw[hpr];exact pM _,by rw[hpr];simpa only[qy,sD,sf] using hpv⟩⟩;rcases hpv with ⟨_,a,rfl⟩|⟨b,_,rfl⟩<;>exact⟨_,_,_,rfl⟩
 refine⟨F,os.set id o'++[p],⟨?_,λt=>uH _ _ (hr.env t),hr.size,λq oq hq=>?_,λq q' oq oq' b hq zU hb vG=>?_,hr.Fp,hr.defers⟩,⟨rfl,rfl,rfl,pM _,λ_ h=>h,λ_ _=>rfl,λb _ h1 h2=>⟨rfl,h1,λoq hoq hb=>?_⟩,λq oq _ hq=>vQ q oq hq⟩⟩
 .rw[qv,rO,uW];simp only[o',hor,pd,qu,hpr]
 .rcases uF q oq hq with ⟨_,_,h⟩|⟨_,rfl⟩|⟨_,rfl⟩
  .have h0:=hr.rows q oq h;refine⟨h0.pos,h0.lens,h0.none,λb hb=>?_,h0.mo,h0.deep⟩;obtain⟨e1,cur,e2,e3,e4,e5,e6⟩:=h0.some b hb;exact⟨e1,cur,e2,e3,e4,e5,λi' y hy j' c hc=>by obtain⟨u,f1,f2⟩:=e6 i' y hy j' c hc;exact⟨u,f1,uH _ _ f2⟩⟩
  .refine⟨uA.pos,λy hy=>?_,(λhn=>by simp only[o']at hn;rw[hbo]at hn;cases hn),λb hb=>?_,λb hb=>uA.mo b hb.1,?_⟩
   .rcases qV hy with hy|rfl
    .exact uA.lens y (by rw[wR];exact hy)
    .have h0:=uA.lens x (by rw[wR];exact oz hx);refine⟨by rw[tJ];exact h0.1,λc wI=>?_⟩;rcases qV wI with h|rfl
     .exact h0.2 c h
     .rfl
   .simp only[o']at hb;rw[hbo]at hb;cases hb;refine⟨zQ,cur,uP,uf,by simpa [o',wR] using hle,vo,λi' y hy j' c xj=>?_⟩;simp only[o']at hy⊢;by_cases hi:i'=i
    .subst hi;rw[pP vh,pD]at hy;subst hy;by_cases hj:j'=j
     .subst hj;rw[pP yN,pD]at xj;subst xj;exact⟨uv,hu1,hnew⟩
     .rw[pf (qw hj)]at xj;obtain⟨u,f1,f2⟩:=uL i' x (by rw[wR];exact hx) j' c xj;exact⟨u,f1,uH _ _ f2⟩
    .rw[pf (qw hi)]at hy;obtain⟨u,f1,f2⟩:=uL i' y (by rw[wR];exact hy) j' c xj;exact⟨u,f1,uH _ _ f2⟩
   .refine⟨λi' j' b=>if i'=i/\j'=j then False else D i' j' b,λi' j' b hb=>?_,λi1 j1 i2 j2 b h1 h2=>?_,λb hb wa el2 l vH i' y j' e2 s2 zs hy xj=>?_⟩
    .simp only at hb;split at hb
     .exact hb.elim
     .rename_i zX;exact⟨d1 i' j' b hb,λh=>zX (d2 _ _ _ _ _ hb h)⟩
    .simp only at h1 h2;split at h1<;>split at h2<;>first|exact h1.elim|exact h2.elim|exact d2 _ _ _ _ _ h1 h2
    .simp only[o']at hb hy⊢;rw[hbo]at hb;cases hb;rw[uP]at vH;cases vH;have hold:(¬ (i'=i/\j'=j))/\∃y0,o.row.xs[i']?=some y0/\y0[j']?=some (.dv e2 s2 zs):=by
      rw[wR];by_cases hi:i'=i
      .subst hi;rw[pP vh,pD]at hy;subst hy;by_cases hj:j'=j
       .subst hj;rw[pP yN,pD]at xj;cases xj
       .rw[pf (qw hj)]at xj;exact⟨λh=>hj h.2,x,hx,xj⟩
      .rw[pf (qw hi)]at hy;exact⟨λh=>hi h.1,y,hy,xj⟩
     obtain⟨zX,y0,hy0,wT⟩:=hold;obtain⟨u,f1,f2⟩:=d3 bo hbo cur _ _ uP i' y0 j' e2 s2 zs hy0 wT;exact⟨u,f1,by simpa only[zX,pV] using f2⟩
  .exact hpk _
 .rcases uF q oq hq with ⟨q1,q2,h⟩|⟨rfl,rfl⟩|⟨rfl,rfl⟩<;>rcases uF q' oq' zU with ⟨q1',q2',h'⟩|⟨rfl,rfl⟩|⟨rfl,rfl⟩
  .exact hr.inj q q' oq oq' b h h' hb vG
  .exact hr.inj q _ oq o b h ho hb (ho'o b vG)
  .exact absurd (hr.inj q id oq o b h ho hb (hpoo b vG)) q1
  .exact hr.inj _ q' o oq' b ho h' (ho'o b hb) vG
  .rfl
  .exact absurd vG (ve b hb)
  .exact absurd (hr.inj id q' o oq' b ho h' (hpoo b hb) vG).symm q1'
  .exact absurd hb (ve b vG)
  .rfl
 .obtain⟨q,hq⟩:=pZ.1 hoq;rcases uF q oq hq with ⟨_,_,h⟩|⟨_,rfl⟩|⟨_,rfl⟩
  .exact h2 oq (oz h) hb
  .exact h2 o (oz ho) (ho'o b hb)
  .exact h2 o (oz ho) (hpoo b hb)
variable {α β : Type} {l : List α} {enc : α -> List AV}
def hole (l:List α)(enc:α->List AV)(i:Int)(x:List AV):List (List AV):=(l.map enc).set i.toNat x
theorem dY {i:Int}{u:α}{x:List AV}(h:x=enc u):hole l enc i x=(Sh.put l i u).map enc:=by subst h;exact cS
theorem Ln {i:Int}{u:α}{x:List AV}(h:Sh.get l i=some u):(hole l enc i x)[i.toNat]?=some x:=by
 have:=(Sh.get_some h).2.2;have h0:=(Sh.get_some h).1;exact pP (by simp;omega)
theorem Uw {i:Int}{x y:List AV}:(hole l enc i x).set i.toNat y=hole l enc i y:=by unfold hole;rw[List.set_set]
theorem QN {id m g size sz nn j:Nat}{el xU:TypeId}{i:Int}{c:α}{ys:List β}{encY:β->List AV}{x x':List AV}{e:Nat->AV}{st st':List Row}(tw:st[id]?=some ⟨g,el,size,l.map enc⟩)(hi:Sh.get l i=some c)(hx:enc c=x)(hc:x[j]?=some (.dv xU sz (ys.map encY)))
  (hm:st.length=m) (xT:x.set j (.own m 0 ys.length)=x') (uW:st.set id ⟨g,el,size,hole l enc i x'⟩++[⟨0,xU,sz,ys.map encY⟩]=st'):Wk k ⟨nn,e,st⟩ ⟨nn,e,st'⟩:=by
 subst uW;subst xT;subst hx;exact TK tw (CS hi) hc hm (n:=ys.length) (by simp) rfl
theorem Wk.take {id m g gm size sz nn j n:Nat}{el xU:TypeId}{i:Int}{c:α}{ys:List β}{encY:β->List AV}{x x':List AV}{e:Nat->AV}{st st':List Row}(tw:st[id]?=some ⟨g,el,size,hole l enc i x⟩)(hi:Sh.get l i=some c)(hc:x[j]?=some (.own m gm n))
  (hm:st[m]?=some ⟨gm,xU,sz,ys.map encY⟩) (hn:n=ys.length) (uu:id≠m) (xV:k<=m) (hd :∀y,(encY y).all QZ=true) (xT:x.set j (.dv xU sz (ys.map encY))=x') (uW:(st.set id ⟨g,el,size,hole l enc i x'⟩).set m ⟨gm+1,xU,sz,[]⟩=st') :
  Wk k ⟨nn,e,st⟩ ⟨nn,e,st'⟩:=by
 subst uW;subst xT;refine LW tw (Ln hi) hc hm (by simpa using hn) uu xV (λy hy c hc=>?_) (by rw[Uw]);obtain⟨z,_,rfl⟩:=pS.1 hy;exact pH.1 (hd z) c hc
theorem US {id g size nn:Nat}{el:TypeId}{i:Int}{u:α}{x:List AV}{e:Nat->AV}{st st':List Row}(tw:st[id]?=some ⟨g,el,size,hole l enc i x⟩)(hx:x=enc u)(uW:st.set id ⟨g,el,size,(Sh.put l i u).map enc⟩=st'):Wk k ⟨nn,e,st⟩ ⟨nn,e,st'⟩:=by
 rw[dY hx]at tw;have:st.set id ⟨g,el,size,(Sh.put l i u).map enc⟩=st:=by
  obtain⟨h1,h2⟩:=pB.1 tw;rw[<- h2];exact sW h1
 rw[this]at uW;exact GF uW
section
variable {ops : Array Oper} {Q : Exit -> St -> Prop} {ds : List (Option Tmp)} {r : List Oper} {n : Nat} {e : Nat -> AV} {st st' : List Row} {ty : TypeId} {ps : String} {ed : Array Edge} {t : Tmp} {v : AV} {gd : Option (Nat × Bool)} {T : TypeId} {x y : Operand} {ag : Bool} {sz id g size : Nat} {el : TypeId} {cs : List AV} {c : α} {i : Int}
end
end Go.Abs
namespace Go.Abs
open Go
variable {P : Program} {F : Nat -> Prop} {os : List Own} {s : St} {a : Act} {w : World} {k : Nat}
section
variable {α : Type} {l : List α} {enc : α -> List AV}
variable {ops : Array Oper} {Q : Exit -> St -> Prop} {ds : List (Option Tmp)} {r : List Oper} {n : Nat} {e : Nat -> AV} {st st' : List Row} {ty : TypeId} {ps : String} {ed : Array Edge} {t : Tmp} {T : TypeId} {x y : Operand} {m bytes size : Nat} {el : TypeId} {zz : List AV} {u : α} {j : Int} {kk yh : IntKind}
end
end Go.Abs
namespace Go.Abs
open Go
variable {P : Program} {F : Nat -> Prop} {os : List Own} {s : St} {a : Act} {w : World} {k : Nat}
variable {α β : Type} {l : List α} {enc : α -> List AV}
theorem NN {id g size nn:Nat}{el:TypeId}{i:Int}{c:α}{x:List AV}{e:Nat->AV}{st st':List Row}(tw:st[id]?=some ⟨g,el,size,hole l enc i x⟩)(hi:Sh.get l i=some c)(hx:x=enc c)(uW:st.set id ⟨g,el,size,l.map enc⟩=st'):Wk k ⟨nn,e,st⟩ ⟨nn,e,st'⟩:=by
 have h2:hole l enc i x=l.map enc:=by
  subst hx;unfold hole;have:=CS (enc:=enc) hi;obtain⟨h1,h2⟩:=pB.1 this;rw[<- h2];exact sW h1
 rw[h2]at tw;have:st.set id ⟨g,el,size,l.map enc⟩=st:=by
  obtain⟨h1,h2⟩:=pB.1 tw;rw[<- h2];exact sW h1
 rw[this]at uW;exact GF uW
end Go.Abs
namespace Go.Abs
open Go
theorem cD {α:Type}{l l':List α}{c:α}{b:Nat}(h:Sh.app l [c] b=some l'):Sh.get l' (Sh.len l)=some c:=by
 unfold Sh.app at h;split at h
 .simp only[pD]at h;subst h;unfold Sh.get Sh.len;rw[pJ (sN _)];simp
 .cases h
section
variable {P : Program} {k : Nat} {α : Type} {l l' : List α} {enc : α -> List AV} {c : α}
variable {ops : Array Oper} {Q : Exit -> St -> Prop} {ds : List (Option Tmp)} {r : List Oper} {n : Nat} {e : Nat -> AV} {st st' : List Row} {ty : TypeId} {ps : String} {ed : Array Edge} {t : Tmp} {gd : Option (Nat × Bool)} {T : TypeId} {x y : Operand} {bytes size id g m q gq size' : Nat} {el xU : TypeId} {zz cs : List AV}
theorem gC (hg:GO ds gd e)(he:DB P T=some ⟨el,size,bytes,zz⟩)(hx:St.ev ⟨n,e,st⟩ x=.own id g m)(hr:st[id]?=some ⟨g,el,size,l.map enc⟩)(hm:m=l.length)(hy:St.ev ⟨n,e,st⟩ y=.own q gq 1)(hq:st[q]?=some ⟨gq,xU,size',[cs]⟩)
  (vT:cs.all AV.leaf=true) (vp:cs.length=size) (ha:Sh.app l [c] bytes=some l') (uW:st.set id ⟨g+1,el,size,hole l' enc (Sh.len l) cs⟩=st') (hk:AO P k ops Q (ds++[some t]) r ⟨n,DQ e t (.own id (g+1) l'.length),st'⟩) :
  AO P k ops Q ds (⟨some t,.call ⟨.builtin .append,#[x,y],#[T,T]⟩,ty,ps,ed,gd⟩::r) ⟨n,e,st⟩:=by
 subst uW;subst hm;refine NX hg ?_;rw[Xf];refine⟨rfl,?_⟩;rw[hx,hy];unfold Sh.app at ha;split at ha
 .rename_i h;simp only[pD]at ha;subst ha;refine Aj _ he (Aj _ hq ⟨rfl,λz hz c hc=>?_,rfl,λz hz=>?_,Aj _ hr ⟨rfl,(pR _).symm,rfl,rfl,by simpa using h.1,by simpa using h.2,?_⟩⟩)
  .simp only[pU]at hz;subst hz;exact pH.1 vT c hc
  .simp only[List.take_one,List.head?_cons,Option.toList_some,pU]at hz;subst hz;exact vp
  .have e1:(l.map enc).take l.length=l.map enc:=by rw[<- pR (f:=enc) (as:=l),qs]
   have e3:List.map enc l++[cs]=hole (l++[c]) enc (Sh.len l) cs:=by simp[hole,Sh.len]
   simp only[e1,List.take_one,List.head?_cons,Option.toList_some,e3,ru];rw[show l.length+1=(l++[c]).length by simp];exact hk
 .cases ha
end
end Go.Abs
namespace Go.Abs
open Go
variable {P : Program} {F : Nat -> Prop} {os : List Own} {s : St} {a : Act} {w : World} {k : Nat}
def Ps (id g:Nat)(xs:List (List AV)):AV->AV
 |.own vI g' n=>if vI=id/\g'=g then (if n=xs.length then .sl (LN xs) else .FY) else .own vI g' n
 |v=>v
def eN (id g:Nat)(xs:List (List AV)):AV->AV
 |.agg cs=>.agg (cs.map (Ps id g xs))
 |.DF cs=>.DF (cs.map (Ps id g xs))
 |v=>Ps id g xs v
theorem Wk.jt {id:Nat}{row:Row}(xB:k<=id)(tw:s.st[id]?=some row)(hp:VK row.xs):
  Wk k s ⟨s.n,λt=>eN id row.gen row.xs (s.env t),s.st.set id { row with gen:=row.gen+1,xs:=[] }⟩:=λF os a w hr=>by
 obtain⟨o,ho,rfl⟩:=hr.row tw;have uA:=hr.rows id o ho;refine⟨λb=>F b∨o.owns b,os.set id ⟨{ o.row with gen:=o.row.gen+1,xs:=[] },none,0,GG⟩,?_,?_⟩
 case refine_2=>
  refine⟨rfl,rfl,rfl,pM _,λ_ h=>.inl h,λ_ _=>rfl,λb _ h1 h2=>⟨rfl,λh=>h.elim h1 (λe=>h2 o (oz ho) e),λo' uz=>?_⟩,λi oi hi xM=>⟨oi,?_,pM _,rfl,λ_=>⟨rfl,rfl,rfl⟩⟩⟩
  .rcases qV uz with h|rfl
   .exact h2 o' h
   .intro hh;rcases hh with hh|hh
    .simp at hh
    .exact hh
  .rw[pf (by omega)];exact xM
 have hF:∀b,F b->(λb=>F b∨o.owns b) b:=λ_ h=>.inl h;have vQ:Fv os (os.set id ⟨{ o.row with gen:=o.row.gen+1,xs:=[] },none,0,GG⟩):=Fv.set ho (by simp) rfl (λe=>by simp at e);have uH:∀x v,Ab F w os x v->Ab (λb=>F b∨o.owns b) w (os.set id ⟨{ o.row with gen:=o.row.gen+1,xs:=[] },none,0,GG⟩) x v:=λx v h=>
  DW hF (λ_ _=>rfl) os _ vQ x v h
 have h1:∀x v,Ab F w os x v->Ab (λb=>F b∨o.owns b) w (os.set id ⟨{ o.row with gen:=o.row.gen+1,xs:=[] },none,0,GG⟩) (Ps id o.row.gen o.row.xs x) v:=λx v h=>by
  cases x with
  |own vI g' n=>
   simp only[Ps];split
   .rename_i hif;obtain⟨rfl,rfl⟩:=hif;split
    .rename_i zT;subst zT;simp only[Ab]at h;obtain⟨o',uz,_,_,h⟩:=h;rw[ho]at uz;cases uz;obtain⟨_,hv⟩:=h rfl;have hD:=Vr uA hp (v:=v) (by simpa only[qy,sD,sf] using hv);have:=(VM (F:=λb=>F b∨o.owns b) (λb hb=>.inr hb) _ _ hD).1;simp only[QG,Ab]at this⊢;exact this
    .simp[Ab]
   .exact uH _ _ h
  |_=>exact uH _ _ h
 have hL:∀xs us,Br F w os xs us->Br (λb=>F b∨o.owns b) w (os.set id ⟨{ o.row with gen:=o.row.gen+1,xs:=[] },none,0,GG⟩) (xs.map (Ps id o.row.gen o.row.xs)) us:=λxs us h=>
  DZ (by simp[BV h]) λi x u hx hu=>by
   simp only[pC,pI]at hx;obtain⟨y,hy,rfl⟩:=hx;obtain⟨u',e1,e2⟩:=CH h i y hy;rw[hu]at e1;cases e1;exact h1 _ _ e2
 have uF:∀(i:Nat) (oi:Own),(os.set id ⟨{ o.row with gen:=o.row.gen+1,xs:=[] },none,0,GG⟩)[i]?=some oi->(i≠id/\os[i]?=some oi)∨(i=id/\oi=⟨{ o.row with gen:=o.row.gen+1,xs:=[] },none,0,GG⟩):=λi oi hi=>by
  by_cases e:i=id
  .subst e;rw[pP (pB.1 ho).1,pD]at hi;exact .inr ⟨rfl,hi.symm⟩
  .rw[pf (qw e)]at hi;exact .inl ⟨e,hi⟩
 refine⟨by rw[rO,hr.st],λt=>?_,hr.size,λi oi hi=>?_,λi j oi oj b hi hj wK wL=>?_,λb hb=>?_,hr.defers⟩
 .have:=hr.env t;simp only;generalize s.env t=x at this⊢;cases x with
  |agg cs=>simp only[eN,Ab]at this⊢;obtain⟨us,e,h⟩:=this;exact⟨us,e,hL _ _ h⟩
  |DF cs=>simp only[eN,Ab]at this⊢;obtain⟨us,e,h⟩:=this;exact⟨us,e,hL _ _ h⟩
  |_=>exact h1 _ _ this
 .rcases uF i oi hi with ⟨uu,h⟩|⟨_,rfl⟩
  .have wU:=hr.rows i oi h;refine⟨wU.pos,wU.lens,wU.none,λb hb=>?_,λb hb=>⟨λhF=>hF.elim (wU.mo b hb).1 (λxO=>uu (hr.inj i id oi o b h ho (.inr hb) xO)),(wU.mo b hb).2⟩,wU.deep⟩;obtain⟨e1,cur,e2,e3,e4,e5,e6⟩:=wU.some b hb;refine⟨λhF=>hF.elim e1 (λxO=>uu (hr.inj i id oi o b h ho (.inl hb) xO)),cur,e2,e3,e4,e5,λi' x hx j c hc=>?_⟩;obtain⟨u,f1,f2⟩:=e6 i' x hx j c hc;exact⟨u,f1,uH _ _ f2⟩
  .exact⟨uA.pos,by simp,by simp,by simp,λb hb=>hb.elim,EK (by simp)⟩
 .rcases uF i oi hi with ⟨uu,h⟩|⟨h,rfl⟩<;>rcases uF j oj hj with ⟨hne',h'⟩|⟨h',rfl⟩
  .exact hr.inj i j oi oj b h h' wK wL
  .exact wL.elim (λe=>by simp at e) λe=>e.elim
  .exact wK.elim (λe=>by simp at e) λe=>e.elim
  .omega
 .rcases hb with hb|hb|hb
  .exact hr.Fp b hb
  .obtain⟨_,cur,uP,_⟩:=uA.some b hb;exact (py.1 uP).1
  .exact (uA.mo b hb).2.1
variable {α : Type} {l : List α} {enc vq : α -> List AV} {n id g m size : Nat} {e : Nat -> AV} {st st' : List Row} {L : List (Nat × AV)} {el : TypeId} {xs : List (List AV)}
theorem YO (h:m=l.length)(hu :∀x,Ih (enc x)=vq x):Ps id g (l.map enc) (.own id g m)=.sl (l.map vq):=by
 subst h;simp only[Ps,and_self,pt,pR];rw[Ia,rG];congr 1;exact ph λx _=>hu x
theorem le.Ps (h:m=l.length)(hu :∀x,Ih (enc x)=vq x):le (Abs.Ps id g (l.map enc) (.own id g m)) (.sl (l.map vq)):=le.of (YO h hu)
theorem le.eN (h:m=l.length)(hu :∀x,Ih (enc x)=vq x):le (Abs.eN id g (l.map enc) (.own id g m)) (.sl (l.map vq)):=le.of (YO h hu)
theorem Jx (h :∀x,(enc x).all QZ=true):VK (l.map enc):=λx hx c hc=>by
 obtain⟨y,_,rfl⟩:=pS.1 hx;exact pH.1 (h y) c hc
theorem Sv (tw:st[id]?=some ⟨g,el,size,xs⟩)(xB:k<=id)(hp:VK xs)(h:ME (λt=>Abs.eN id g xs (e t)) L)(uW:st.set id ⟨g+1,el,size,[]⟩=st'):Wk k ⟨n,e,st⟩ ⟨n,AP L,st'⟩:=by
 subst uW;exact (Wk.jt (s:=⟨n,e,st⟩) xB tw hp).trans (Ag h)
end Go.Abs
namespace Go.Abs
open Go
variable {P : Program} {F : Nat -> Prop} {os : List Own} {s : St} {a : Act} {w : World} {k : Nat}
def mV (x:AV):AV:=bif flat x then x else .FY
theorem kH {F':Nat->Prop}{w':World}(hF :∀b,F b->F' b)(hw :∀b,F b->w'.heap[b]?=w.heap[b]?)(os':List Own){x:AV}{v:Value}(h:Ab F w os x v):Ab F' w' os' (mV x) v:=by
  unfold mV;cases hf:flat x with
  |false=>simp[Ab]
  |true=>exact KA hf os' (DW hF hw [] [] (by simp) x v (KA hf [] h))
def lX (x:AV):AV:=bif flat x then x else match x with
  |.ptr (id+1) g i off=>.ptr (id+1) g i off
  |_=>.FY
theorem kA {F':Nat->Prop}{w':World}(hF :∀b,F b->F' b)(hw :∀b,F b->w'.heap[b]?=w.heap[b]?){o o':Own}{wg:List Own}{x:AV}{v:Value}(h:Ab F w (o::wg) x v):Ab F' w' (o'::wg) (lX x) v:=by
  unfold lX;cases hf:flat x with
  |true=>exact KA hf _ (DW hF hw [] [] (by simp) x v (KA hf [] h))
  |false=>
    cases x<;>simp only[cond_false]<;>try simp[Ab]
    rename_i id g i off;cases id with
    |zero=>simp[Ab]
    |succ id=>
      simp only[Ab,pz]at h⊢;exact h
theorem UL {P:Program}{ops:Array Oper}{md:Region.Mode}{Q Q':Exit->Act->World->Prop}(hp :∀c a w,Q (.panic c) a w->Q' (.panic c) a w)(yQ:LetsOut Q->LetsOut Q')(hn :∀a w,Q .normal a w->Q' .normal a w):
    ∀(fuel:Nat) {tn:Array Bool} {a:Act} {w:World},wpAny P md ops Q fuel tn a w->wpAny P md ops Q' fuel tn a w
  |0,_,_,_,h=>⟨h.1,hn _ _ h.2⟩
  |fuel+1,tn,a,w,h=>by
    refine⟨λh0=>hn _ _ (h.1 h0),λi hi=>?_⟩;have:=h.2 i hi;unfold wpOp at this⊢;split
    · rename_i ho;simp only[ho]at this;exact UL hp yQ hn fuel this
    · rename_i o ho;simp only[ho]at this;split
      · rename_i hw;rw[pJ hw]at this;exact this.imp (λh=>PT hp yQ (Oper.wp_mono (λa w h=>UL hp yQ hn fuel h) h)) λh=>⟨h.1,yQ h.2⟩
      · rename_i hw;rw[pK hw]at this;exact UL hp yQ hn fuel this
def gH (row yE:Row)(Q:Exit->St->Prop):Exit->St->Prop:=λex s'=>(∃r,s'.st=yE::r)/\Q ex ⟨s'.n,λt=>mV (s'.env t),[row]⟩
theorem S5 {xs:List (List AV)}(hp:ES xs){o:Own}(uA:Md F w os o)(hx:o.row.xs=xs):∀x∈xs,∀c∈x,c.leaf=true:=λx hm c hc=>by
  have h1:=hp x hm c hc;have h2:=(uA.lens x (by rw[hx];exact hm)).2 c hc;cases c<;>simp_all [simple,AV.leaf,AV.kept]
theorem gy {Q:Exit->St->Prop}{o:Own}{wg:List Own}{g:Nat}{el:TypeId}{size b0:Nat}{xs ys:List (List AV)}(hp:ES (xs++ys))(tw:o.row=⟨g,el,size,xs⟩)(hb0:o.GC=some b0)(zQ:¬ F b0){w1:World}(ht:HF w w1 (some b0))
    {e:Exit} {a':Act} {w':World} (h:K0 1 (gH ⟨g,el,size,xs⟩ ⟨g,el,size,xs++ys⟩ Q) F (⟨⟨g,el,size,xs++ys⟩,some b0,o.cap,o.more⟩::wg) w1 e a' w') (hold :∀b,F b->b<w.heap.size):K0 1 Q F (o::wg) w e a' w':=by
  obtain⟨s',F',os',⟨⟨rst',uW⟩,hQ⟩,hR,hE⟩:=h;have vQ:∃o' ros',os'=o'::ros'/\o'.row=⟨g,el,size,xs++ys⟩:=by
    have:=hR.st;rw[uW]at this;cases os' with
    |nil=>cases this
    |cons o' ros'=>
      simp only[pd,rq]at this;exact⟨o',ros',rfl,this.1⟩
  obtain⟨o',ros',rfl,hrow'⟩:=vQ;obtain⟨o2,e2,_,_,e3⟩:=hE.Vo 0 _ (by omega) rfl;simp only[pj,pD]at e2;subst e2;obtain⟨e4,e5,_⟩:=e3 (by rw[hrow']);dsimp only at e4 e5;have hok':=hR.rows 0 o' rfl;have vT:=S5 hp hok' (by rw[hrow']);have hF:∀b,F b->w1.heap[b]?=w.heap[b]?:=λb hb=>ht.Fp b (hold b hb) (λe=>zQ (by cases e;exact hb));refine⟨_,F',[{ o' with row:=⟨g,el,size,xs⟩ }],hQ,⟨rfl,λt=>kH (λ_ h=>h) (λ_ _=>rfl) _ (hR.env t),hR.size,λi oi hi=>?_,λi j oi oj b hi hj wK wL=>?_,hR.Fp,hR.defers⟩,?_⟩
  · match i,hi with
    |0,hi=>
      simp only[pj,pD]at hi;subst hi;refine⟨by have:=hok'.pos;rw[hrow']at this;exact this,λx hx=>?_,λhn=>(by rw[e4]at hn;cases hn),λb hb=>?_,λb hb=>hok'.mo b hb,EK λx hx c hc=>vT x (qO _ hx) c hc⟩
      · have:=hok'.lens x (by rw[hrow'];exact qO _ hx);rw[hrow']at this;exact this
      · obtain⟨h1,cur,h2,h3,h4,h5,h6⟩:=hok'.some b hb;rw[hrow']at h2 h3 h4 h6;refine⟨h1,cur,h2,h3,by simp only[pW]at h4⊢;omega,h5,λi x hx j c hc=>?_⟩;obtain⟨u,f1,f2⟩:=h6 i x (by simp only at hx⊢;rw[pN (pB.1 hx).1];exact hx) j c hc;exact⟨u,f1,GJ (hp x (qO _ (oz hx)) c (oz hc)) _ f2⟩
  · match i,j,hi,hj with
    |0,0,_,_=>rfl
  · refine⟨hE.sys.trans ht.sys,hE.tape.trans ht.tape,hE.output.trans ht.output,rm ht.size hE.size,hE.N7,λb hb=>(hE.Iy b hb).trans (hF b hb),λb hb h1 h2=>?_,λi oi hi xM=>?_⟩
    · have uu:b≠b0:=λe=>h2 o (by simp) (.inl (by rw[e];exact hb0));have hnm:¬ o.more b:=λhm=>h2 o (by simp) (.inr hm);obtain⟨f1,f2,f3⟩:=hE.other b (qM hb ht.size) h1 (λq hq xO=>by
        rcases pL.1 hq with rfl|hq
        · rcases xO with xO|xO
          · simp only[pD]at xO;exact uu xO.symm
          · exact hnm xO
        · exact h2 q (by simp[hq]) xO)
      refine⟨f1.trans (ht.Fp b hb (λe=>uu (by cases e;rfl))),f2,λq hq xO=>?_⟩;simp only[pU]at hq;subst hq;exact f3 o' (by simp) xO
    · match i,xM with
      |0,xM=>
        simp only[pj,pD]at xM;subst xM;exact⟨_,rfl,by rw[tw];exact pM _,by rw[tw],λ_=>⟨by rw[hb0];exact e4,e5,by rw[tw]⟩⟩
      |_+1,_=>omega
theorem ab {t ty:TypeId}{ei:eZ}{g:Nat}{xs:List (List AV)}{ys:List (List AV)}{y:AV}{ux ud:Value}(hr:Rel F os s a w){ym:List Row}(uW:s.st=⟨g,ei.e,ei.size,xs⟩::ym)(hrst :∀row∈ym,ES row.xs)(he:DB P t=some ei)
    (hd:Ab F w os (.own 0 g xs.length) ud) (hx:Ab F w os y ux) (hel:EL s.st y ys) (hys :∀z∈ys,z.length=ei.size) (hp:ES (xs++ys)) (uu:ys≠[]) (hb:(xs.length+ys.length)*ei.bytes<=140737488355328) (hm:xs.length+ys.length<=9223372036854775807) :
    ∃o wg u w',os=o::wg/\o.row=⟨g,ei.e,ei.size,xs⟩/\(Builtin.append_ #[t,t] ty #[ud,ux]).run P w=.ok u w'/\
      ((∃b0,o.GC=some b0/\¬ F b0/\HF w w' (some b0)/\Rel F (⟨⟨g,ei.e,ei.size,xs++ys⟩,some b0,o.cap,o.more⟩::wg) ⟨s.n,λt=>lX (s.env t),⟨g,ei.e,ei.size,xs++ys⟩::ym⟩ a w'/\
          u=.slice (some ⟨b0,0,none⟩) (xs.length+ys.length) o.cap)∨
       (∃cap,Rel F (os++[⟨⟨0,ei.e,ei.size,xs++ys⟩,some w.heap.size,cap,GG⟩]) { s with st:=s.st++[⟨0,ei.e,ei.size,xs++ys⟩] } a w'/\Ext F os w F (os++[⟨⟨0,ei.e,ei.size,xs++ys⟩,some w.heap.size,cap,GG⟩]) w' k/\
          u=.slice (some ⟨w.heap.size,0,none⟩) (xs.length+ys.length) cap)):=by
  obtain⟨inf,z,hu,hi,hz,wb,vA,uf,hby,_,_⟩:=HX he;obtain⟨wv,h,hys',zS,⟨ad,c,rfl,hsrc⟩⟩:=X7 (size:=ei.size) (K:=λz=>z=ys) hr (hel _ ⟨hys,rfl⟩) hx;subst h;have vQ:∃o wg,os=o::wg/\o.row=⟨g,ei.e,ei.size,xs⟩/\wg.map Own.row=ym:=by
    have:=hr.st;rw[uW]at this;cases os with
    |nil=>cases this
    |cons o wg=>
      simp only[pd,rq]at this;exact⟨o,wg,rfl,this.1,this.2⟩
  obtain⟨o,wg,rfl,tw,hros⟩:=vQ;have zS:∀y∈wv,∀c∈y,c.leaf=true:=by
    rcases zS with e|h
    · exact absurd e uu
    · exact h
  have hylen:0<wv.length:=sd.2 uu;have vu:∃b off,ad=some ⟨b,off,none⟩/\∃us:List Value,us.length=wv.length*inf.size/\(∀(j:Nat) u,us[j]?=some u->w.cell? ((⟨b,off,none⟩:Addr).add j)=some u)/\(∀u∈us,u.oneCell'=true)/\HH F w (o::wg) ei.size us wv:=by
    rcases hsrc with e|⟨b,off,rfl,hc⟩
    · exact absurd e uu
    · obtain⟨us,h1,h2,h3,h4⟩:=RX hys' hc;exact⟨b,off,rfl,us,by rw[h1,uf],h2,h3,h1,λi y hy j c hc=>by obtain⟨u,e1,_,e2⟩:=h4 i y hy j c hc;exact⟨u,e1,e2⟩⟩
  obtain⟨b,off,rfl,us,yP,vL,yv,hrep⟩:=vu;have uA:=hr.rows 0 o rfl;have hxlf:=S5 (xs:=xs) (λx hx=>hp x (qO _ hx)) uA (by rw[tw]);have vZ:∀x∈xs++wv,x.length=ei.size/\∀c∈x,c.leaf=true:=λx hx=>by
    rcases pY.1 hx with h|h
    · have:=(uA.lens x (by rw[tw];exact h)).1;rw[tw]at this;exact⟨this,hxlf x h⟩
    · exact⟨hys' x h,zS x h⟩
  have zE:∀(cap:Nat) (vb:List Value),HH F w (o::wg) ei.size vb xs->xs.length+wv.length<=cap->cap<=maxLen->
      Rel F ((o::wg)++[⟨⟨0,ei.e,ei.size,xs++wv⟩,some w.heap.size,cap,GG⟩]) { s with st:=s.st++[⟨0,ei.e,ei.size,xs++wv⟩] } a (w.drew.alloc (.cells (vb.toArray++us.toArray++Builtin.zeroCells z.cells (cap-(xs.length+wv.length))) ei.e))/\
      Ext F (o::wg) w F ((o::wg)++[⟨⟨0,ei.e,ei.size,xs++wv⟩,some w.heap.size,cap,GG⟩]) (w.drew.alloc (.cells (vb.toArray++us.toArray++Builtin.zeroCells z.cells (cap-(xs.length+wv.length))) ei.e)) k:=λcap vb hold xN vo=>by
    obtain⟨e1,e2⟩:=Pf (F:=F) (w:=w) (os:=o::wg) (z:=z) (size:=ei.size) (n:=xs.length) (m:=wv.length) (cap:=cap) (by rw[wb,uf]) rfl rfl hold hrep xN;have:=hr.PJ (k:=k) (.inr rfl) (cur:=_) (e:=ei.e) (size:=ei.size) (cap:=cap) (xs:=xs++wv) (by omega) vZ e1 (by simpa using xN) vo (λi x hx j c hc=>e2 i x hx j c hc);exact⟨this.1,this.2.1⟩
  have xY:=sy w (xs.length+wv.length);have zA:=rn w (xs.length+wv.length);simp only[Ab]at hd;obtain⟨o',uz,_,_,hd⟩:=hd;simp only[pj,pD]at uz;subst uz;obtain⟨_,hd⟩:=hd (by rw[tw]);rw[tw]at hd;simp only[qy,sD,sf]at hd;rcases hd with ⟨zJ,a0,rfl⟩|⟨b0,Ip,rfl⟩
  · have zT:=(uA.none zJ).1;rw[tw]at zT;dsimp only at zT;subst zT;have uQ:(Builtin.append_ #[t,t] ty #[.slice a0 0 0,.slice (some ⟨b,off,none⟩) wv.length c]).run P w=.ok (.slice (some ⟨w.heap.size,0,none⟩) (0+wv.length) (grownCap w (0+wv.length) 0 ei.e))
        (w.drew.alloc (.cells (([]:List Value).toArray++us.toArray++Builtin.zeroCells z.cells (grownCap w (0+wv.length) 0 ei.e-(0+wv.length))) ei.e)):=by
      cases a0 with
      |none=>
        have:=sq (P:=P) w t ty ei.e inf z hu hi hz ⟨b,off,none⟩ wv.length c us yP vL (by omega) (by simp at hm;omega) (by rw[<- hby];simp at hb;omega);simpa using this
      |some a0=>
        have:=rX (P:=P) w t ty ei.e inf z hu hi hz a0 0 0 [] (by simp) (by simp) ⟨b,off,none⟩ wv.length c us yP vL (by omega) (by omega) (ri (by simp at hm;omega) (by rw[<- hby];simpa using hb));simpa using this
    have hgg:=zE (grownCap w (0+wv.length) 0 ei.e) [] (by simp[HH]) (by simpa using xY 0 ei.e) (by simpa using zA 0 ei.e (by simp[maxLen]at hm⊢;omega));exact⟨o,wg,_,_,rfl,tw,uQ,.inr ⟨_,hgg.1,hgg.2,rfl⟩⟩
  · obtain⟨zQ,cur,uP,vp,hlc,hmaxc,uL⟩:=uA.some b0 Ip;rw[tw]at uP vp hlc uL;dsimp only at uP vp hlc uL;by_cases vv:xs.length+wv.length<=o.cap
    · have vg:xs.length*inf.size+us.length<=cur.size:=by rw[yP,vp,uf,<- px];exact qC _ vv
      have uQ:=run_append_room (P:=P) w t ty ei.e inf hu hi b0 xs.length o.cap cur uP ⟨b,off,none⟩ wv.length c us yP vL yv vv vg;have hT:=HF.setRow w b0 (cur.toList.take (xs.length*inf.size)++us++cur.toList.drop (xs.length*inf.size+us.length)).toArray;have hF:∀g,F g->(w.setRow b0 (cur.toList.take (xs.length*inf.size)++us++cur.toList.drop (xs.length*inf.size+us.length)).toArray).heap[g]?=w.heap[g]?:=λg hg=>hT.Fp g (hr.Fp g hg) (λe=>zQ (by cases e;exact hg));refine⟨o,wg,_,_,rfl,tw,uQ,.inl ⟨b0,Ip,zQ,hT,⟨by simp only[pd,hros],λt=>kA (λ_ h=>h) hF (hr.env t),hr.size,λi oi hi=>?_,λi j oi oj b hi hj wK wL=>?_,λg hg=>qM (hr.Fp g hg) hT.size,hr.defers⟩,rfl⟩⟩
      · match i,hi with
        |0,hi=>
          simp only[pj,pD]at hi;subst hi;have wI:∀c u,simple c=true->Ab F w (o::wg) c u->∀os',Ab F (w.setRow b0 (cur.toList.take (xs.length*inf.size)++us++cur.toList.drop (xs.length*inf.size+us.length)).toArray) os' c u:=λc u hc h os'=>
            GJ hc os' (DW (λ_ h=>h) hF [] [] (by simp) c u (GJ hc [] h))
          refine⟨by have:=uA.pos;rw[tw]at this;exact this,λx hx=>⟨(vZ x hx).1,λc hc=>Di ((vZ x hx).2 c hc)⟩,λhn=>(by cases hn),λb' vG=>?_,λg hg=>⟨(uA.mo g hg).1,by simpa using (uA.mo g hg).2.1,by rw[<- Ip];exact (uA.mo g hg).2.2⟩,EK λx hx c hc=>(vZ x hx).2 c hc⟩;simp only[pD]at vG;subst vG;refine⟨zQ,_,sb w b0 cur _ _ _ uP,?_,by simpa using vv,hmaxc,λi y hy j c hc=>?_⟩
          · simp only[rY,pW,rQ,re,rP]at vg⊢;rw[<- vp];omega
          · simp only at hy⊢;rw[LA vg];by_cases vR:i<xs.length
            · rw[pN vR]at hy;obtain⟨u,f1,f2⟩:=uL i y hy j c hc;have yN:j<ei.size:=by rw[<- (vZ y (qO _ (oz hy))).1];exact (pB.1 hc).1
              have:(i+1)*ei.size<=xs.length*ei.size:=qC _ vR;rw[px]at this;refine⟨u,?_,wI c u (hp y (qO _ (oz hy)) c (oz hc)) f2 _⟩;rw[pJ (by rw[<- uf];omega)];exact f1
            · rw[pO (by omega)]at hy;obtain⟨u,f1,f2⟩:=hrep.2 _ y hy j c hc;refine⟨u,?_,wI c u (hp y (qa _ (oz hy)) c (oz hc)) f2 _⟩;have uV:=(pB.1 f1).1;have h3:xs.length*ei.size<=i*ei.size:=qC _ (by omega);rw[Nat.sub_mul]at f1 uV;rw[pK (by rw[<- uf];omega),pJ (by rw[<- uf];omega),<- f1];congr 1;rw[<- uf];omega
        |i+1,hi=>
          simp only[pz]at hi;have xM:=hr.rows (i+1) oi (by simpa using hi);have hpi:ES oi.row.xs:=hrst oi.row (by rw[<- hros];exact rD (oz hi));have hlfi:=S5 hpi xM rfl;have hni:∀b,oi.owns b->b≠b0:=λb hb e=>by
            have:=hr.inj (i+1) 0 oi o b (by simpa using hi) rfl hb (.inl (by rw[e];exact Ip));omega
          refine⟨xM.pos,xM.lens,xM.none,λb hb=>?_,λb hb=>⟨(xM.mo b hb).1,qM (xM.mo b hb).2.1 hT.size,(xM.mo b hb).2.2⟩,EK hlfi⟩;obtain⟨f1,wa,f2,f3,f4,f5,f6⟩:=xM.some b hb;refine⟨f1,wa,?_,f3,f4,f5,λi' x hx j c hc=>?_⟩
          · rw[hT.Fp b (xM.lt (.inl hb)) (λe=>hni b (.inl hb) (by cases e;rfl))];exact f2
          · obtain⟨u,g1,g2⟩:=f6 i' x hx j c hc;have yA:=hpi x (oz hx) c (oz hc);exact⟨u,g1,GJ yA _ (DW (λ_ h=>h) hF [] [] (by simp) c u (GJ yA [] g2))⟩
      · have key:∀(i:Nat) oi b,((⟨⟨g,ei.e,ei.size,xs++wv⟩,some b0,o.cap,o.more⟩:Own)::wg)[i]?=some oi->oi.owns b->∃oi',(o::wg)[i]?=some oi'/\oi'.owns b:=λi oi b hi hb=>by
          cases i with
          |zero=>
            simp only[pj,pD]at hi;subst hi;exact⟨o,rfl,hb.imp (λhb=>by rw[Ip];exact hb) id⟩
          |succ i=>exact⟨oi,hi,hb⟩
        obtain⟨oi',q1,q2⟩:=key i oi b hi wK;obtain⟨oj',q3,q4⟩:=key j oj b hj wL;exact hr.inj i j oi' oj' b q1 q3 q2 q4
    · have hold:∀(i:Nat) y,xs[i]?=some y->NQ F w (o::wg) b0 (0+i*ei.size) y:=λi y hy=>by
        have:=hr.O0 (id:=0) (o:=o) rfl Ip (i:=i) (x:=y) (by rw[tw];exact hy);rw[tw]at this;simpa using this
      obtain⟨vb,h1,h2,_,h4⟩:=RX (λx hx=>(vZ x (qO _ hx)).1) hold;have uQ:=rX (P:=P) w t ty ei.e inf z hu hi hz ⟨b0,0,none⟩ xs.length o.cap vb (by rw[h1,uf]) h2 ⟨b,off,none⟩ wv.length c us yP vL (by omega) (by omega) (ri (by omega) (by rw[<- hby];exact hb));have hgg:=zE (grownCap w (xs.length+wv.length) o.cap ei.e) vb ⟨h1,λi y hy j c hc=>by obtain⟨u,f1,_,f2⟩:=h4 i y hy j c hc;exact⟨u,f1,f2⟩⟩ (xY o.cap ei.e) (zA o.cap ei.e (by simp[maxLen];omega));exact⟨o,wg,_,_,rfl,tw,uQ,.inr ⟨_,hgg.1,hgg.2,rfl⟩⟩
section
variable {P : Program} {ops : Array Oper} {Q : Exit -> St -> Prop} {n N f i : Nat} {tn listed' : Array Bool} {e : Nat -> AV} {ty : TypeId} {p : String} {ed : Array Edge} {t : Tmp} {α : Type} {l l2 l' : List α} {enc : α -> List AV} {x y : Operand} {g m size bytes : Nat} {el : TypeId} {zz : List AV} {T : TypeId} {ym : List Row} {k : Nat}
theorem Bp (h:tn=listed'){s:St}(ha:AX P k ops Q N f tn s):AX P k ops Q N f listed' s:=h▸ha
theorem AX.two (row yE:Row){s:St}(h :∀A A':Nat->Array Bool->St->Prop,(∀f l s,A f l s↔AX P k ops Q N f l s)->(∀f l s,A' f l s↔AX P k ops (gH row yE Q) N f l s)->A f tn s):AX P k ops Q N f tn s:=
  h (AX P k ops Q N) (AX P k ops (gH row yE Q) N) (λ_ _ _=>Iff.rfl) (λ_ _ _=>Iff.rfl)
theorem Kv {s:St}(h :∀A:Nat->Array Bool->St->Prop,(∀f l s,A f l s↔AX P k ops Q N f l s)->A f tn s):AX P k ops Q N f tn s:=
  h (AX P k ops Q N) (λ_ _ _=>Iff.rfl)
theorem Kw {ys:AV}(ho:ops[i]?=some ⟨some t,.call ⟨.builtin .append,#[x,y],#[T,T]⟩,ty,p,ed,none⟩)(zV:Cx n (some t)=true)(he:DB P T=some ⟨el,size,bytes,zz⟩)(hrst :∀row∈ym,ES row.xs)(hx:St.ev ⟨n,e,⟨g,el,size,l.map enc⟩::ym⟩ x=.own 0 g m)(hm:m=l.length)(hy:St.ev ⟨n,e,⟨g,el,size,l.map enc⟩::ym⟩ y=ys)(hel:EL (⟨g,el,size,l.map enc⟩::ym) ys (l2.map enc))
    (hl2:l2.isEmpty=false) (hs :∀a,(enc a).length=size) (hp :∀l:List α,ES (l.map enc)) (ha:Sh.app l l2 bytes=some l')
    (h1:AX P 1 ops (gH ⟨g,el,size,l.map enc⟩ ⟨g,el,size,l'.map enc⟩ Q) N f (tn.setIfInBounds i true) ⟨n,DQ (λt=>lX (e t)) t (.own 0 g l'.length),⟨g,el,size,l'.map enc⟩::ym⟩)
    (h2:AX P 1 ops Q N f (tn.setIfInBounds i true) ⟨n,DQ e t (.own (ym.length+1) 0 l'.length),⟨g,el,size,l.map enc⟩::(ym++[⟨0,el,size,l'.map enc⟩])⟩) :
    Jo P 1 ops Q N f tn ⟨n,e,⟨g,el,size,l.map enc⟩::ym⟩ i:=by
  subst hm;unfold Sh.app at ha;split at ha
  case isFalse=>cases ha
  rename_i hbd;simp only[pD]at ha;subst ha;intro F0 os0 w0 F os a w hr he0;have hxr:=hr.ev x;rw[hx]at hxr;have hyr:=hr.ev y;rw[hy]at hyr;have hpp:=hp (l++l2);rw[qv]at hpp h1 h2;obtain⟨o,wg,u,w',rfl,tw,uQ,hA⟩:=ab (k:=1) (ty:=ty) (ei:=⟨el,size,bytes,zz⟩) (g:=g) (xs:=l.map enc) (ys:=l2.map enc) hr rfl hrst he (by simpa using hxr) hyr hel
    (λz hz=>by obtain⟨q,_,rfl⟩:=pS.1 hz;exact hs q) hpp (by intro e;rw[sG]at e;rw[e]at hl2;cases hl2) (by simpa using hbd.1) (by simpa using hbd.2)
  unfold wpOp;simp only[ho];rw[pJ (by rfl)];refine .inl ?_;unfold Oper.wp;simp only[execOp,resolve,invoke,builtin,qH,qW,qF,sX,pd,qu,uQ,Oper.upon];rcases hA with ⟨b0,Ip,zQ,hT,hR,rfl⟩|⟨cap,hR,hE,rfl⟩
  · have h3:=h1.2 F _ w' F _ _ w' (hR.put (d:=some t) zV (v:=.own 0 g (l++l2).length) (u:=.slice (some ⟨b0,0,none⟩) ((l.map enc).length+(l2.map enc).length) o.cap) (by
      simp only[Ab];exact⟨_,rfl,pM _,⟨_,_,_,rfl⟩,λ_=>⟨by simp,.inr ⟨b0,rfl,by simp⟩⟩⟩)) (Ext.refl _ _ _ _)
    refine UL (λc a'' w'' hp=>?_) (λhl=>?_) (λa'' w'' hp=>?_) _ h3
    · obtain⟨_,_,_,h4,_⟩:=hp;exact nomatch h4.1
    · obtain⟨_,_,h4,_⟩:=hl;exact nomatch h4
    obtain⟨s',F',os',⟨h4,h5⟩,h6,h7⟩:=hp;obtain⟨s2,F2,os2,h8,h9,h10⟩:=gy (Q:=λe s=>e=.normal/\Q e s) hpp tw Ip zQ hT ⟨s',F',os',⟨h5.1,h4,h5.2⟩,h6,h7⟩ hr.Fp;exact⟨s2,F2,os2,h8,h9,he0.trans h10⟩
  · refine h2.2 F0 os0 w0 F _ _ w' ?_ (he0.trans hE);have hlen:wg.length=ym.length:=by
      have:=hr.st;simp only[pd,rq]at this;rw[<- this.2,pR]
    refine hR.put (d:=some t) zV (v:=.own (ym.length+1) 0 (l++l2).length) ?_;simp only[Ab];exact⟨⟨⟨0,el,size,l.map enc++l2.map enc⟩,some w.heap.size,cap,GG⟩,by rw[<- hlen];simp,pM _,⟨_,_,_,rfl⟩,λ_=>⟨by simp,.inr ⟨_,rfl,by simp⟩⟩⟩
end
section
variable {P : Program} {ds : List (Option Tmp)} {r : List Oper} {KS : St -> Prop} {n : Nat} {e : Nat -> AV} {st : List Row} {ty : TypeId} {ps : String} {ed : Array Edge} {t : Tmp} {gd : Option (Nat × Bool)} {α : Type} {l l' : List α} {enc : α -> List AV} {x : Operand} {size bytes : Nat} {el T : TypeId} {zz : List AV}
theorem eQ {lo hi:Option Operand}{i j:Int}(hg:GO ds gd e)(he:DB P T=some ⟨el,size,bytes,zz⟩)(hx:St.ev ⟨n,e,st⟩ x=.sl (l.map enc))(h1:VP (lo.map (St.ev ⟨n,e,st⟩)) 0=some i)(h2:VP (hi.map (St.ev ⟨n,e,st⟩)) l.length=some j)(hs :∀a,(enc a).length=size)(hl:Sh.sl l i j=some l')
    (hk:EN P (ds++[some t]) r KS ⟨n,DQ e t (.sl (l'.map enc)),st⟩):EN P ds (⟨some t,.slice T x lo hi none,ty,ps,ed,gd⟩::r) KS ⟨n,e,st⟩:=by
  refine gM hg rfl (λs0 e1 e2 hd k F os a w hr next Q hn=>?_) hk;refine L3 (k:=k) (K:=(·=s0.put (some t) (.sl (l'.map enc)))) hr hd ?_ hn;show Wp P s0.st T (s0.ev x) (lo.map s0.ev) (hi.map s0.ev) (Option.map s0.ev none) (λv st=>({ s0 with st:=st }:St).put (some t) v=s0.put (some t) (.sl (l'.map enc)));have ex:s0.ev x=St.ev ⟨n,e,st⟩ x:=e2 x (by simp[Op.operands]);have elo:lo.map s0.ev=lo.map (St.ev ⟨n,e,st⟩):=by
    cases lo with
    |none=>rfl
    |some y=>simp only[qG];rw[e2 y (by simp[Op.operands])]
  have ehi:hi.map s0.ev=hi.map (St.ev ⟨n,e,st⟩):=by
    cases hi with
    |none=>rfl
    |some y=>simp only[qG];rw[e2 y (by simp[Op.operands])]
  rw[ex,elo,ehi,hx];unfold Sh.sl at hl;split at hl
  · rename_i h;simp only[pD]at hl;subst hl;refine Aj _ he (Aj _ h1 (Aj _ (by rw[pR];exact h2) ⟨h.1,h.2.1,by simpa using h.2.2,λz hz=>?_,?_⟩))
    · obtain⟨q,_,rfl⟩:=pS.1 hz;exact hs q
    · rw[List.map_drop,List.map_take]
  · cases hl
theorem XC {f:FuncId}{vJ:Array Operand}{ts:Array TypeId}{args ug:List AV}{rowsP rows0 rows1 rows1':List Row}{v v':AV}(sel:List Nat)(hg:GO ds gd e)(hb:Cp P f=true)(hc:BJ P f ug rows0 λr st=>r=v/\st=rows1)(ha:vJ.toList.map (St.ev ⟨n,e,st⟩)++[]=args)(vt:sel.Nodup)(uV:sel.all (·<st.length)=true)
    (hp:CE st sel=rowsP) (hs:SR sel rowsP rows0) (hf:args.map (Jk sel)=ug) (hlen:rows1.length=sel.length) (h1:UN sel st.length rows1 rows1') (hv:Q8 sel st.length v=v') (wV:FW sel rows1' 0 st=st)
    (hk:EN P (ds++[some t]) r KS ⟨n,DQ e t v',st⟩):EN P ds (⟨some t,.call ⟨.value (.func f),vJ,ts⟩,ty,ps,ed,gd⟩::r) KS ⟨n,e,st⟩:=by
  subst ha;subst hv;subst hp;refine gM hg rfl (λs0 e1 e2 hd k F os a w hr next Q hn=>?_) hk;refine L3 (k:=k) (K:=(·=s0.put (some t) (Q8 sel st.length v))) hr hd ?_ hn;show Cp P f=true/\callThen P k s0 f (vJ.toList.map s0.ev++[]) (some t) _;rw[T5 e2];refine⟨hb,Le λhle=>?_⟩;subst e1;obtain⟨e1,e3⟩:=hs.spec (st0:=s0.st) hle (λrow tw=>by
    obtain⟨i,_,hi⟩:=qh.1 tw;exact oz hi)
  refine MA (rows2:=[]) sel (by simpa using hc) vt (λi hi=>by simpa using pH.1 uV i hi) e1 e3 hf hlen (λrow tw=>by
    rw[qS]at tw;exact h1.leaf row tw) λ_=>?_
  simp only[h1.spec,qu,qS,wV]
end
end Go.Abs
namespace Go.Abs
open Go
section
variable {P : Program} {k : Nat} {ops : Array Oper} {Q : Exit -> St -> Prop} {ds : List (Option Tmp)} {r : List Oper} {n : Nat} {e : Nat -> AV} {st st' : List Row} {ty : TypeId} {p : String} {ed : Array Edge} {t : Tmp} {x y : Operand} {size bytes m : Nat} {el T Tn : TypeId} {zz : List AV} {α : Type} {enc : α -> List AV} {u : α} {l' : List α} {kk : IntKind} {j : Int} {v : AV} {o : Oper}
theorem dq (hn:o.guard=none)(h :∀F os a w,Rel F os ⟨n,e,st⟩ a w->∃z w' F' os',(execOp a.eval o).run P w=.ok (.value z) w'/\Rel F' os' ⟨n,e,st'⟩ a w'/\Ab F' w' os' v z/\Ext F os w F' os' w' k)
  (hk:AO P k ops Q (ds++[o.dst]) r (St.put ⟨n,e,st'⟩ o.dst v)):AO P k ops Q ds (o::r) ⟨n,e,st⟩:=by
 intro hl yB vM F os a w hr Q' hQ;have ho:ops[ds.length]?=some o:=by have:=hl 0;simpa using this.symm
 have zV:Cx n o.dst=true:=vM o (by have:=oz (l:=ops.toList) (i:=ds.length) (by simpa using ho);exact this);have yb :∀(j:Nat),r[j]?=ops[(ds++[o.dst]).length+j]?:=λj=>by
  have:=hl (j+1);simp only[pz]at this;rw[this];congr 1;simp;omega
 have yD :∀(j:Nat) d,(ds++[o.dst])[j]?=some d->(ops[j]?).map (·.dst)=some d:=λj d hj=>by
  rcases ql j ds.length with h1|h1|h1
  .rw[pN h1]at hj;exact yB j d hj
  .subst h1;rw[J1,pD]at hj;rw[ho];simp[hj]
  .rw[qB (by simp;omega)]at hj;cases hj
 obtain⟨z,w',F',os',h1,h2,h3,h4⟩:=h F os a w hr;unfold wpList;rw[pJ (by unfold Region.wanted;rw[hn])];refine .inl ?_;unfold Oper.wp;rw[h1];simp only[Oper.upon];refine hk yb yD (by cases o.dst<;>exact vM) F' os' _ w' (h2.put zV h3) Q' λ_ _ _ hp=>hQ _ _ _ (hp.trans h4)
theorem dQ (hs:DH P T=true)(hx:St.ev ⟨n,e,st⟩ x=.zc)(hk:AO P k ops Q (ds++[some t]) r ⟨n,DQ e t (i64 0),st⟩):
  AO P k ops Q ds (⟨some t,.call ⟨.builtin .cap,#[x],#[T]⟩,ty,p,ed,none⟩::r) ⟨n,e,st⟩:=by
 refine dq rfl (st':=st) (v:=i64 0) (λF os a w hr=>?_) hk;have h1:=hr.ev x;rw[hx]at h1;simp only[Ab]at h1;obtain⟨ad,h1⟩:=h1;unfold DH at hs;split at hs
 case h_2=>cases hs
 rename_i el hu;refine⟨.int .i64 0,w,F,os,?_,hr,by simp[Ab],Ext.refl _ _ _ _⟩;simp only[execOp,resolve,invoke,builtin,qH,qW,qF,sX,pd,qu,h1,Builtin.cap_];simp[qR hu,goInt]
theorem lP {hi:Option Operand}(he:DB P T=some ⟨el,size,bytes,zz⟩)(hx:St.ev ⟨n,e,st⟩ x=.zc)(h2:VP (hi.map (St.ev ⟨n,e,st⟩)) 0=some 0)
  (hk:AO P k ops Q (ds++[some t]) r ⟨n,DQ e t .zc,st⟩):AO P k ops Q ds (⟨some t,.slice T x none hi none,ty,p,ed,none⟩::r) ⟨n,e,st⟩:=by
 refine NX AN ?_;rw[Ut];simp only[sc];rw[hx];exact Aj _ he (Aj _ rfl (Aj _ h2 ⟨rfl,rfl,hk⟩))
theorem jk {kn:IntKind}(he:DB P T=some ⟨el,size,bytes,zz⟩)(hn:P.underlying Tn=some (.int kn))(hx:St.ev ⟨n,e,st⟩ x=.zc)(hy:St.ev ⟨n,e,st⟩ y=.int kk j)(h0:decide (0<j)=true)(hz:enc u=zz)(hj:Sh.mk u j bytes=some l')(hm:st.length=m)(uW:st++[⟨0,el,size,l'.map enc⟩]=st')
  (hk:AO P k ops Q (ds++[some t]) r ⟨n,DQ e t (.own m 0 l'.length),st'⟩):AO P k ops Q ds (⟨some t,.call ⟨.builtin .append,#[x,y],#[T,Tn]⟩,ty,p,ed,none⟩::r) ⟨n,e,st⟩:=by
 subst hm;subst uW;subst hz;unfold Sh.mk at hj;split at hj
 case isFalse=>cases hj
 rename_i hbd;simp only[pD]at hj;subst hj;refine dq rfl (st':=st++[(⟨0,el,size,(List.replicate j.toNat u).map enc⟩:Row)]) (v:=.own st.length 0 (List.replicate j.toNat u).length) (λF os a w hr=>?_) hk;have h1:=hr.ev x;rw[hx]at h1;simp only[Ab]at h1;obtain⟨ad,h1⟩:=h1;have h2:=hr.ev y;rw[hy]at h2;simp only[Ab]at h2;obtain⟨inf,z,hu,hi,hz,wb,vA,uf,hby,hzz,vT⟩:=HX he;dsimp only at hu hi wb vA uf hby hzz vT;have hj0:0<j:=qm h0;obtain⟨q,rfl⟩:=pc (Int.le_of_lt hj0);rw[qQ];have hq0:0<q:=by omega
 have hq48:q*inf.bytes<=281474976710656:=by
  have h9:((q*bytes:Nat):Int)<=281474976710656:=by rw[tI];exact hbd.2.1
  rw[<- hby];omega
 have hold:(Builtin.firstCells inf.size 0 (.slice ad 0 0)).run P w.drew=.ok ([]:List Value).toArray w.drew:=by
  cases ad with
  |none=>exact run_firstCells_none w.drew inf.size 0 0 0
  |some ad=>exact run_firstCells_some w.drew inf.size 0 ad 0 0 [] (by simp) (by simp)
 have vg:Builtin.nextslicecap (0+q) 0*inf.bytes<=281474976710656:=by rw[qP,nextslicecap_zero hq0];exact hq48
 have uQ:=Lib.run_append_grow_zeros (P:=P) w T Tn ty el inf z kk kn hu hn hi hz ad 0 0 [] hold q hq0 (by omega) (by omega) (by omega) hq48 vg;rw[qP]at uQ;have xY:=sy w q 0 el;have hle:=rn w q 0 el (by unfold maxLen;omega);have hzc:∀i,i<z.cells.size->∃c',z.cells[i]?=some c':=λi hi=>⟨_,qi hi⟩;have xk:=hr.PJ (k:=k) (.inr rfl) (cur:=([]:List Value).toArray++Builtin.zeroCells z.cells q++Builtin.zeroCells z.cells (grownCap w q 0 el-q)) (e:=el) (size:=size) (cap:=grownCap w q 0 el) (xs:=(List.replicate q u).map enc)
  (by omega) (λx hx=>by
   rw[sk]at hx;rw[List.eq_of_mem_replicate hx,hzz];refine⟨by simp[wb,uf],λc hc=>vT c (by rw[hzz];exact hc)⟩)
  (by
   simp only[sv,rY,qj,su,wb,uf,qP,<- px];congr 1;omega)
  (by rw[pR,List.length_replicate];omega) hle (λi x hx jj c hc=>by
   rw[sk]at hx;have hi:i<q:=by
    have:=(pB.1 hx).1;simpa using this
   have xT:x=enc u:=List.eq_of_mem_replicate (oz hx);subst xT;rw[hzz]at hc;simp only[pC,pI,qx]at hc;obtain⟨c',hc1,rfl⟩:=hc;have yN:jj<z.cells.size:=(py.1 hc1).1;refine⟨c',?_,Ms F w os c'⟩;have uV:i*size+jj<q*size:=by
    have:(i+1)*size<=q*size:=qC _ hi;rw[px]at this;omega
   rw[Array.append_assoc,show (([]:List Value).toArray++(Builtin.zeroCells z.cells q++Builtin.zeroCells z.cells (grownCap w q 0 el-q)))=(Builtin.zeroCells z.cells q++Builtin.zeroCells z.cells (grownCap w q 0 el-q)) by simp];rw[qz (by rw[su,wb,<- uf];exact uV)];unfold Builtin.zeroCells;rw[Array.getElem?_map,Array.getElem?_range];rw[pJ (by rw[wb,<- uf];exact uV)];simp only[qG,pD];have yy:(i*size+jj) % z.cells.size=jj:=by
    rw[wb,<- uf,tH,Nat.mul_add_mod];exact sC (by omega)
   rw[yy];simp[Array.getElem!_eq_getD,Array.getD,yN,(py.1 hc1).2])
 refine⟨.slice (some ⟨w.heap.size,0,none⟩) q (grownCap w q 0 el),_,F,_,?_,xk.1,?_,xk.2.1⟩
 .simp only[execOp,resolve,invoke,builtin,qH,qW,qF,sX,pd,qu,h1,h2];rw[uQ];simp
 .simp only[Ab];have hlen:st.length=os.length:=hr.len;exact⟨_,by rw[hlen];exact J1 _ _,pM _,⟨_,_,_,rfl⟩,λ_=>⟨by simp,.inr ⟨_,rfl,by simp⟩⟩⟩
end
section
variable {P : Program} {ds : List (Option Tmp)} {r : List Oper} {KS : St -> Prop} {n : Nat} {e : Nat -> AV} {st : List Row} {ty : TypeId} {ps : String} {ed : Array Edge} {t : Tmp} {gd : Option (Nat × Bool)} {α : Type} {l : List α} {enc : α -> List AV} {u : α} {x y : Operand} {size bytes : Nat} {el T : TypeId} {zz : List AV} {kk yh : IntKind} {j : Int}
theorem oG (hg:GO ds gd e)(he:DB P T=some ⟨el,size,bytes,zz⟩)(hx:St.ev ⟨n,e,st⟩ x=.int kk j)(hy:St.ev ⟨n,e,st⟩ y=.int yh j)(hz:enc u=zz)(hl:Sh.mk u j bytes=some l)(hpu:ES (l.map enc))
  (hk:EN P (ds++[some t]) r KS ⟨n,DQ e t (.sl (l.map enc)),st⟩):EN P ds (⟨some t,.makeSlice T x y,ty,ps,ed,gd⟩::r) KS ⟨n,e,st⟩:=by
 subst hz;refine gM hg rfl (λs0 e1 e2 hd k F os a w hr next Q hn=>?_) hk;have ex:s0.ev x=.int kk j:=(e2 x (by simp[Op.operands])).trans hx;have ey:s0.ev y=.int yh j:=(e2 y (by simp[Op.operands])).trans hy;have hxr:=hr.ev x;have hyr:=hr.ev y;rw[ex]at hxr;rw[ey]at hyr;unfold Sh.mk at hl;split at hl
 case isFalse=>cases hl
 rename_i h;simp only[pD]at hl;subst hl;have h9:Im P 0 F [] ⟨s0.n,λ_=>.FY,[]⟩ a w (Instr.makeSlice T (a.eval x) (a.eval y)) (λz st=>z=.own 0 0 (List.replicate j.toNat u).length/\st=[⟨0,el,size,(List.replicate j.toNat u).map enc⟩]):=by
  refine Zk (l:=.int kk j) (c:=.int yh j) hr.bare (Aj _ he ⟨rfl,h.1,h.2.1,h.2.2,?_⟩) (GJ (x:=.int kk j) rfl [] hxr) (GJ (x:=.int yh j) rfl [] hyr);simp
 obtain⟨u',w',F',g1,g2,g3,g4⟩:=O1 (k:=k) hr h9 (YQ hpu) rfl;unfold Oper.wp;simp only[execOp,qH,g1,qF,qW,Oper.upon];exact hn _ _ (Q0 (st':=s0.st) hd rfl g2 g3 g4)
end
theorem Ik {row:Row}{ym:List Row}(h:ES row.xs)(g :∀q∈ym,ES q.xs):∀q∈row::ym,ES q.xs:=λq hq=>by
 rcases pL.1 hq with rfl|hq
 .exact h
 .exact g q hq
section
variable {P : Program} {k : Nat} {ops : Array Oper} {Q : Exit -> St -> Prop} {ds : List (Option Tmp)} {r : List Oper} {n : Nat} {e : Nat -> AV} {st st' : List Row} {ty : TypeId} {p : String} {ed : Array Edge} {t : Tmp} {x y : Operand} {size bytes m : Nat} {el T : TypeId} {zz : List AV} {kk yh : IntKind} {c : Nat}
theorem gz (he:DB P T=some ⟨el,size,bytes,zz⟩)(hx:St.ev ⟨n,e,st⟩ x=.int kk 0)(hy:St.ev ⟨n,e,st⟩ y=.int yh (c:Int))(hc:decide (c*bytes<=281474976710656/\c<=9223372036854775807)=true)(hm:st.length=m)(uW:st++[⟨0,el,size,[]⟩]=st')
  (hk:AO P k ops Q (ds++[some t]) r ⟨n,DQ e t (.own m 0 0),st'⟩):AO P k ops Q ds (⟨some t,.makeSlice T x y,ty,p,ed,none⟩::r) ⟨n,e,st⟩:=by
 subst hm;subst uW;have hbd:=qm hc;refine dq rfl (st':=st++[(⟨0,el,size,[]⟩:Row)]) (v:=.own st.length 0 0) (λF os a w hr=>?_) hk;have h1:=hr.ev x;rw[hx]at h1;simp only[Ab]at h1;have h2:=hr.ev y;rw[hy]at h2;simp only[Ab]at h2;obtain⟨inf,z,hu,hi,hz,wb,vA,uf,hby,hzz,vT⟩:=HX he;dsimp only at hu hi wb vA uf hby hzz vT;have uQ:=run_make (P:=P) w T el inf z hu hi hz kk yh 0 (c:Int) (by omega) (by omega) (by rw[<- hby,<- tI,tH];omega) (by omega);have xk:=hr.PJ (k:=k) (.inl rfl) (cur:=madeCells z.cells (c*inf.size)) (e:=el) (size:=size) (cap:=c) (xs:=[]) (by omega) (by simp) (by rw[size_madeCells,uf]) (by simp) (by simp[maxLen];omega) (by simp);refine⟨.slice (some ⟨w.heap.size,0,none⟩) 0 c,_,F,_,?_,xk.1,?_,xk.2.1⟩
 .simp only[execOp,qH,qW,qF,h1,h2];rw[uQ];simp
 .simp only[Ab];have hlen:st.length=os.length:=hr.len;exact⟨_,by rw[hlen];exact J1 _ _,pM _,⟨_,_,_,rfl⟩,λ_=>⟨by simp,.inr ⟨_,rfl,by simp⟩⟩⟩
end
end Go.Abs
namespace Go.Abs
open Go
variable {P : Program} {n : Nat} {e : Nat -> AV} {st : List Row} {t : Tmp} {ty : TypeId} {ps : String} {ed : Array Edge} {x : Operand}
theorem Kk {id g i off yF el size j f:Nat}{tt:TypeId}{xs:List (List AV)}(hf:IJ P tt f=some j)(h:St.ev ⟨n,e,st⟩ x=.ptr id g i off)(tw:st[id]?=some ⟨g,el,size,xs⟩)(hl:off+j<=size)(ho:off+j=yF):Po P ⟨n,e,st⟩ ⟨some t,.fieldAddr tt x f,ty,ps,ed,none⟩ (.ptr id g i yF):=
 ⟨rfl,λF os a w hr=>by
  subst ho;have h1:=hr.ev x;rw[h]at h1;unfold IJ at hf;split at hf<;>try (cases hf;done)
  rename_i fs hu;split at hf<;>try (cases hf;done)
  rename_i g1 hg;split at hf<;>try (cases hf;done)
  rename_i i1 hi;split at hf
  .cases hf
  rename_i hz;simp only[pD]at hf;have uQ:∀b off w',(Instr.fieldAt tt (.pointer (some ⟨b,off,none⟩)) f).run P w'=.ok (.pointer (some ⟨b,off+j,none⟩)) w':=λb off w'=>by
   simp[Instr.fieldAt,qR hu,hg,Instr.sureAddr,fieldPlace,sizeOf,typeInfo,hi,hz,Cf,hf]
  obtain⟨ow,how,hrw⟩:=hr.row tw;simp only[Ab]at h1;obtain⟨o',uz,xY,_,hv⟩:=h1;rw[how]at uz;cases uz;have hgg:ow.row.gen=g:=by rw[hrw]
  obtain⟨h2,h3,b,hb,e2⟩:=hv hgg;refine⟨.pointer (some ⟨b,i*ow.row.size+off+j,none⟩),λw'=>?_,?_⟩
  .simp[execOp,e2,uQ]
  .simp only[Ab];exact⟨ow,how,xY,⟨_,rfl⟩,λ_=>⟨h2,by rw[hrw];exact hl,b,hb,by rw[qe]⟩⟩⟩
end Go.Abs
namespace Go.Abs
open Go
def SF (F:Nat->Prop)(w:World):World->Prop:=λw'=>∀b,F b->w'.heap[b]?=w.heap[b]?
section
variable {P : Program} {k : Nat} {ops : Array Oper} {Q : Exit -> St -> Prop} {N f i : Nat} {tn listed' : Array Bool} {s s' : St} {o : Oper}
def AY (P:Program)(k:Nat)(ops:Array Oper)(Q:Exit->St->Prop)(N f:Nat)(tn:Array Bool)(s:St):Prop:=
 s.n=N/\∀F0 os0 w0 F os a w,Rel F os s a w->Ext F0 os0 w0 F os w k->wpAnyH P .any ops (OK k Q F0 os0 w0) (SF F0 w0) f tn a w
def bW (P:Program)(k:Nat)(ops:Array Oper)(Q:Exit->St->Prop)(N f:Nat)(tn:Array Bool)(s:St)(i:Nat):Prop:=
 ∀F0 os0 w0 F os a w,Rel F os s a w->Ext F0 os0 w0 F os w k->wpOp P ops (OK k Q F0 os0 w0) i (λa' w'=>SF F0 w0 w'/\wpAnyH P .any ops (OK k Q F0 os0 w0) (SF F0 w0) f (tn.setIfInBounds i true) a' w') a w
def gr (P:Program)(k:Nat)(ops:Array Oper)(Q:Exit->St->Prop)(N f:Nat)(tn:Array Bool)(s:St):List Nat->Prop
 | []=>True
 |i::r=>bW P k ops Q N f tn s i/\gr P k ops Q N f tn s r
theorem gr.get:∀{l:List Nat},gr P k ops Q N f tn s l->∀i∈l,bW P k ops Q N f tn s i
 |j::r,h,i,hi=>by
  rcases pL.1 hi with rfl|hi
  .exact h.1
  .exact gr.get h.2 i hi
theorem AY.all (rs:List Nat)(hn:s.n=N)(hr:Region.ready .any ops tn=rs)(uu:rs≠[])(h:gr P k ops Q N f tn s rs):AY P k ops Q N (f+1) tn s:=
 ⟨hn,λF0 os0 w0 F os a w hrel he=>wpAnyH_all hr uu λi hi=>h.get i hi F0 os0 w0 F os a w hrel he⟩
theorem Sw (hn:s.n=N)(hr:Region.ready .any ops tn=[])(h:Q .normal s):AY P k ops Q N f tn s:=
 ⟨hn,λ_ _ _ F os a w hrel he=>wpAnyH_done hr ⟨s,F,os,⟨rfl,h⟩,hrel,he⟩ f⟩
theorem Mt (hw:Wk k s s')(h:AY P k ops Q N f tn s')(hn:s.n=N):AY P k ops Q N f tn s:=
 ⟨hn,λF0 os0 w0 F os a w hrel he=>by
  obtain⟨F1,vE,h1,e1⟩:=hw F os a w hrel;exact h.2 F0 os0 w0 F1 vE a w h1 (he.trans e1)⟩
theorem ZM (h:tn=listed')(ha:AY P k ops Q N f tn s):AY P k ops Q N f listed' s:=h▸ha
theorem VA (h :∀A:Nat->Array Bool->St->Prop,(∀f l s,A f l s↔AY P k ops Q N f l s)->A f tn s):AY P k ops Q N f tn s:=
 h (AY P k ops Q N) (λ_ _ _=>Iff.rfl)
theorem bW.of (ho:ops[i]?=some o)(hg:Oz o i=true)(hd:(ops.toList.all λo=>Cx s.n o.dst)=true)
  (h:AO P k (ops.extract 0 (i+1)) (λe s'=>e=.normal/\AY P k ops Q N f (tn.setIfInBounds i true) s') ((ops.toList.take i).map (·.dst)) [o] s):bW P k ops Q N f tn s i:=by
 intro F0 os0 w0 F os a w hrel he;have hi:i<ops.size:=(py.1 ho).1;have hex:∀j,(ops.extract 0 (i+1))[j]?=if j<i+1 then ops[j]? else none:=λj=>by
  rw[Array.getElem?_extract];split<;>split<;>simp_all<;>omega
 have h1:=h (λj=>by
   have hlen:((ops.toList.take i).map (·.dst)).length=i:=by simp;omega
   rw[hlen,hex];cases j with
   |zero=>simp[ho]
   |succ j=>rw[pK (by omega)];simp) (λj d hj=>by
   simp only[pC,po]at hj;split at hj
   .rw[hex,pJ (by omega)];simpa using hj
   .cases hj) (λo' uz=>by
   obtain⟨j,hj⟩:=pZ.1 uz;rw[qx,hex]at hj;split at hj
   .exact pH.1 hd o' (oz (i:=j) (by simpa using hj))
   .cases hj) F os a w hrel (λe a' w'=>e=.normal/\SF F0 w0 w'/\wpAnyH P .any ops (OK k Q F0 os0 w0) (SF F0 w0) f (tn.setIfInBounds i true) a' w') (by
   rintro e a' w' ⟨s',F',os',⟨rfl,hax⟩,vf,he'⟩;exact⟨rfl,(he.trans he').Iy,hax.2 F0 os0 w0 F' os' a' w' vf (he.trans he')⟩)
 have hy:Region.wanted o (yielded (ops.extract 0 (i+1)) a.tmps)=Region.wanted o (yielded ops a.tmps):=by
  unfold Region.wanted;unfold Oz at hg;cases hgd:o.guard with
  |none=>rfl
  |some p=>
   obtain⟨j,want⟩:=p;rw[hgd]at hg;simp only[pQ]at hg;simp only[yielded,hex,pJ hg]
 unfold wpList at h1;unfold wpOp;simp only[ho];rw[hy]at h1;split at h1
 .rename_i hw;rw[pJ hw];rcases h1 with h1|⟨_,a1,w1,h1,_⟩
  .refine .inl (Oper.wp_mono (λa' w' h'=>?_) (PT (λc a' w' h'=>?_) (λh'=>?_) h1))
   .exact h'.2
   .exact nomatch h'.1
   .obtain⟨_,_,h2,_⟩:=h';exact nomatch h2
  .exact nomatch h1
 .rename_i hw;rw[pK hw];exact h1.2
theorem Vd (i:Nat){v:AV}(hn:s.n=N)(ho:ops[i]?=some o)(hs:Region.noSelect ops=true)(hf:Region.free .any ops tn i=true)(hr:(Region.ready .any ops tn).contains i=true)(hd:Cx s.n o.dst=true)(hh:Po P s o v)
  (h:AY P k ops Q N f (tn.setIfInBounds i true) (s.put o.dst v)):AY P k ops Q N (f+1) tn s:=
 ⟨hn,λF0 os0 w0 F os a w hrel he=>by
  obtain⟨hg,hh⟩:=hh;obtain⟨u,hu,hv⟩:=hh F os a w hrel;refine wpAnyH_take ho hs hf hr (λc a w ⟨_,_,_,hp,_⟩=>nomatch hp.1) (.inl ⟨by unfold Region.wanted;rw[hg],λw' _=>hu w'⟩) he.Iy ?_;exact h.2 F0 os0 w0 F os _ w (hrel.put hd hv) he⟩
def AZ (P:Program)(k:Nat)(ops:Array Oper)(Q:Exit->St->Prop)(N f:Nat)(tn:Array Bool)(s:St):Prop:=
 s.n=N/\∀F os a w,Rel F os s a w->wpAnyH P .any ops (OK k Q F os w) (SF F w) f tn a w
theorem Xb {f':Nat}(hf:f=f')(hl:tn=listed')(h:AZ P k ops Q N f' listed' s):AZ P k ops Q N f tn s:=hf▸hl▸h
theorem YB (h:AY P k ops Q N f tn s):AZ P k ops Q N f tn s:=
 ⟨h.1,λF os a w hr=>h.2 F os w F os a w hr (Ext.refl F os w k)⟩
theorem Qi {id:Nat}(hm:P.follows .mixedOrders=true)(h:AZ P k ops Q s.n ops.size (Array.replicate ops.size false) s):AW P k (.region id ops true) Q s:=by
 intro F os a w hr;obtain⟨hr1,he1⟩:=hr.drew (k:=k);refine rp (wp_region_held hm (h.2 F os a w.drew hr1)) ?_;rintro e a' w' ⟨s',F',os',⟨rfl,hq⟩,h1,h2⟩;exact⟨s',F',os',hq,h1,he1.trans h2⟩
def RH (P:Program)(s:St)(o:Oper)(v:AV):Prop:=
 o.guard=none/\∀F os a w,Rel F os s a w->∃u,(∀w',SF F w w'->(execOp a.eval o).run P w'=.ok (.value u) w')/\Ab F w os v u
theorem Fa {v:AV}(h:Po P s o v):RH P s o v:=⟨h.1,λF os a w hr=>let ⟨u,h1,h2⟩:=h.2 F os a w hr;⟨u,λw' _=>h1 w',h2⟩⟩
theorem DX (i:Nat){v:AV}(hn:s.n=N)(ho:ops[i]?=some o)(hs:Region.noSelect ops=true)(hf:Region.free .any ops tn i=true)(hr:(Region.ready .any ops tn).contains i=true)(hd:Cx s.n o.dst=true)(hh:RH P s o v)
  (h:AZ P k ops Q N f (tn.setIfInBounds i true) (s.put o.dst v)):AZ P k ops Q N (f+1) tn s:=
 ⟨hn,λF os a w hrel=>by
  obtain⟨hg,hh⟩:=hh;obtain⟨u,hu,hv⟩:=hh F os a w hrel;refine wpAnyH_take ho hs hf hr (λc a w ⟨_,_,_,hp,_⟩=>nomatch hp.1) (.inl ⟨by unfold Region.wanted;rw[hg],hu⟩) (λ_ _=>rfl) ?_;exact h.2 F os _ w (hrel.put hd hv)⟩
end
section
variable {P : Program} {n : Nat} {e : Nat -> AV} {st : List Row} {t : Tmp} {ty : TypeId} {ps : String} {ed : Array Edge} {x : Operand}
theorem NL {off yF j f:Nat}{tt:TypeId}{cs:List AV}(hf:IJ P tt f=some j)(h:St.ev ⟨n,e,st⟩ x=.C8 cs off)(ho:off+j=yF):Po P ⟨n,e,st⟩ ⟨some t,.fieldAddr tt x f,ty,ps,ed,none⟩ (.C8 cs yF):=
 ⟨rfl,λF os a w hr=>by
  subst ho;have h1:=hr.ev x;rw[h]at h1;unfold IJ at hf;split at hf<;>try (cases hf;done)
  rename_i fs hu;split at hf<;>try (cases hf;done)
  rename_i g1 hg;split at hf<;>try (cases hf;done)
  rename_i i1 hi;split at hf
  .cases hf
  rename_i hz;simp only[pD]at hf;have uQ:∀b off w',(Instr.fieldAt tt (.pointer (some ⟨b,off,none⟩)) f).run P w'=.ok (.pointer (some ⟨b,off+j,none⟩)) w':=λb off w'=>by
   simp[Instr.fieldAt,qR hu,hg,Instr.sureAddr,fieldPlace,sizeOf,typeInfo,hi,hz,Cf,hf]
  simp only[Ab]at h1;obtain⟨b,o',e2,hb,hc⟩:=h1;refine⟨.pointer (some ⟨b,o'+off+j,none⟩),λw'=>?_,?_⟩
  .simp[execOp,e2,uQ]
  .simp only[Ab];exact⟨b,o',by rw[qe],hb,hc⟩⟩
theorem PN {off sz:Nat}{tt:TypeId}{cs:List AV}{c:AV}(hti:Dd P tt=some (false,sz))(h:St.ev ⟨n,e,st⟩ x=.C8 cs off)(hc:cs[off]?=some c):RH P ⟨n,e,st⟩ ⟨some t,.load tt x,ty,ps,ed,none⟩ c:=
 ⟨rfl,λF os a w hr=>by
  have h1:=hr.ev x;rw[h]at h1;simp only[Ab]at h1;obtain⟨b,o',e2,hb,vp⟩:=h1;obtain⟨d,i,hud,hi,e1,e3⟩:=Jy hti;obtain⟨u,hu1,xC,hu3⟩:=L7 (os:=os) vp off c hc;refine⟨u,λw' hw'=>?_,hu3⟩;have xX:=Lw (w:=w') hud;rw[<- e1]at xX;have vL:w'.cell? ⟨b,o'+off,none⟩=some u:=by rw[<- hu1];exact rZ (hw' b hb)
  simp[execOp,e2,Instr.loadAt,Instr.sureAddr,loadVar,xX,vL]⟩
theorem Vp {off sz:Nat}{tt:TypeId}{cs:List AV}{c:AV}(hti:Dd P tt=some (true,sz))(h:St.ev ⟨n,e,st⟩ x=.C8 cs off)(hl:off+sz<=cs.length)(hc:.agg ((cs.drop off).take sz)=c):RH P ⟨n,e,st⟩ ⟨some t,.load tt x,ty,ps,ed,none⟩ c:=
 ⟨rfl,λF os a w hr=>by
  subst hc;have h1:=hr.ev x;rw[h]at h1;simp only[Ab]at h1;obtain⟨b,o',e2,hb,vp⟩:=h1;obtain⟨d,i,hud,hi,e1,e3⟩:=Jy hti;have hx:=L7 (os:=os) vp;have hch:∃f:Nat->Value,∀j,j<sz->w.cell? ((⟨b,o'+off,none⟩:Addr).add j)=some (f j)/\∀c,cs[off+j]?=some c->Ab F w os c (f j):=
   ⟨λj=>(w.cell? ((⟨b,o'+off,none⟩:Addr).add j)).getD undef,λj hj=>by
    have uV:off+j<cs.length:=by omega
    obtain⟨u,hu1,_,xC⟩:=hx (off+j) cs[off+j] (pG uV);have hu1':w.cell? ((⟨b,o'+off,none⟩:Addr).add j)=some u:=by rw[Cf,<- hu1,qe]
    simp only[hu1',rL];refine⟨pA,λc hc=>?_⟩;rw[pG uV,pD]at hc;exact hc▸xC⟩
  obtain⟨f,hf⟩:=hch;refine⟨.agg ((List.range sz).map f).toArray,λw' hw'=>?_,?_⟩
  .have xX:=Lw (w:=w') hud;rw[<- e1]at xX;have uf:(sizeOf tt).run P w'=.ok i.size w':=by simp[sizeOf,typeInfo,hi]
   have hlc:=run_loadCells (P:=P) w' ⟨b,o'+off,none⟩ sz f (λj hj=>by
    rw[<- (hf j hj).1,Cf];exact rZ (hw' b hb))
   simp only at e3;simp[execOp,e2,Instr.loadAt,Instr.sureAddr,loadVar,xX,uf,<- e3,hlc]
  .simp only[Ab];refine⟨_,rfl,DZ (by simp;omega) λj c u hc hu=>?_⟩;simp only[po,qI]at hc;split at hc
   .rename_i hj;simp only[pC,rS hj,qG,pD]at hu;subst hu;exact (hf j hj).2 c hc
   .cases hc⟩
end
section
variable {P : Program} {k : Nat} {α : Type} {l : List α} {enc : α -> List AV}
variable {ops : Array Oper} {Q : Exit -> St -> Prop} {ds : List (Option Tmp)} {r : List Oper} {n : Nat} {e : Nat -> AV} {st st' : List Row} {ty : TypeId} {ps : String} {ed : Array Edge} {v : AV} {gd : Option (Nat × Bool)} {T : TypeId} {x y : Operand} {ag : Bool} {sz id g size off : Nat} {el : TypeId} {cs cs' : List AV} {c : α} {i : Int}
end
end Go.Abs
namespace Go.Abs
open Go
end Go.Abs
namespace Go.Abs
open Go
def VB (size:Nat):Nat->List (Nat×AV)->List (List AV)->Prop
 |_,[],[]=>True
 |k,(i,v)::r,c::cs=>i=k/\KB v=some c/\c.length=size/\VB size (k+1) r cs
 |_,_,_=>False
theorem VB.len {size:Nat}:∀{k:Nat} {pv:List (Nat×AV)} {css:List (List AV)},VB size k pv css->pv.length=css.length/\∀c∈css,c.length=size
 |_,[],[],_=>⟨rfl,by simp⟩
 |k,(i,v)::r,c::cs,h=>by
  obtain⟨h1,h2⟩:=VB.len h.2.2.2;refine⟨by simp[h1],λx hx=>?_⟩;rcases pL.1 hx with rfl|hx
  .exact h.2.2.1
  .exact h2 x hx
theorem Vi {size:Nat}:∀(pv:List (Nat×AV)) (css:List (List AV)) (k:Nat) (pre rest:List AV),pre.length=k*size->rest.length=pv.length*size->VB size k pv css->Me (λi=>some (i*size,size)) (pre++rest) pv=some (pre++css.flatten)
 | [],[],k,pre,rest,_,h2,_=>by
  have:rest=[]:=qN (by simpa using h2);subst this;rfl
 |(i,v)::r,c::cs,k,pre,rest,h1,h2,h=>by
  obtain⟨rfl,hv,hc,hr⟩:=h;rw[pq,px,Nat.one_mul]at h2;have uV:size<=rest.length:=by omega
  unfold Me;simp only[hv];rw[pJ ⟨hc,by rw[pW];omega⟩];have hs:HQ (pre++rest) (i*size) c=(pre++c)++rest.drop size:=by
   unfold HQ;rw[<- h1,List.take_left,hc,List.drop_append,rT (by omega),qT,show pre.length+size-pre.length=size by omega]
  rw[hs,Vi r cs (i+1) (pre++c) (rest.drop size) (by rw[pW,px];omega) (by rw[re];omega) hr];simp
theorem V4 {size:Nat}:∀(css:List (List AV)),(∀c∈css,c.length=size)->chunk size css.length css.flatten=css
 | [],_=>rfl
 |c::cs,h=>by
  have hc:=h c (by simp);show (c++cs.flatten).take size::chunk size cs.length ((c++cs.flatten).drop size)=_;rw[<- hc,List.take_left,List.drop_left,hc,V4 cs λx hx=>h x (by simp[hx])]
theorem Wk.pk {k n:Nat}{e:Nat->AV}{st st':List Row}{L:List (Nat×AV)}(sel:List Nat)(hk:sel.take k=List.range k)(vt:sel.Nodup)(uV:sel.all (·<st.length)=true)(hp:CE st sel=st')(hs:SR sel st' st')(h:ME (λt=>Jk sel (e t)) L):
  Wk k ⟨n,e,st⟩ ⟨n,AP L,st'⟩:=OA sel hk vt uV hp hs h
section
variable {P : Program} {k : Nat} {α : Type} {l : List α} {enc : α -> List AV} {ops : Array Oper} {Q : Exit -> St -> Prop} {ds : List (Option Tmp)} {r : List Oper} {n : Nat} {e : Nat -> AV} {st st' : List Row} {ty : TypeId} {ps : String} {ed : Array Edge} {t : Tmp} {gd : Option (Nat × Bool)} {T : TypeId} {bytes size m : Nat} {el : TypeId} {zz : List AV}
theorem lN {len:Nat}{parts:Array (Nat×Operand)}{pv:List (Nat×AV)}(hg:GO ds gd e)(he:DB P T=some ⟨el,size,bytes,zz⟩)(hle:len*size<=16777216)(hp:(parts.toList.map λp=>(p.1,St.ev ⟨n,e,st⟩ p.2))=pv)
  (hz:zz.length=size) (hf:VB size 0 pv (l.map enc)) (hln:len=l.length) (hm:st.length=m) (uW:st++[⟨0,el,size,l.map enc⟩]=st') (hk:AO P k ops Q (ds++[some t]) r ⟨n,DQ e t (.own m 0 l.length),st'⟩) :
  AO P k ops Q ds (⟨some t,.buildSlice T len parts,ty,ps,ed,gd⟩::r) ⟨n,e,st⟩:=by
 obtain⟨h1,h2⟩:=hf.len;have hl:(l.map enc).length=len:=by rw[pR,hln]
 have ha:=Vi pv (l.map enc) 0 [] (List.replicate len zz).flatten (by simp) (by rw[h1,hl];simp[hz]) hf;rw[qT,qT]at ha;refine Sy (cs:=(l.map enc).flatten) hg he hle hp ha ?_ hln hm uW hk;rw[<- hl];exact V4 _ h2
end
end Go.Abs
namespace Go.Abs
open Go
section
variable {P : Program} {k : Nat} {ops : Array Oper} {Q : Exit -> St -> Prop} {ds : List (Option Tmp)} {r : List Oper} {n : Nat} {e : Nat -> AV} {st st' : List Row} {ty : TypeId} {ps : String} {ed : Array Edge} {gd : Option (Nat × Bool)} {T : TypeId} {x y : Operand} {size id g sz : Nat} {el : TypeId} {α : Type} {l : List α} {enc : α -> List AV} {c : α} {i : Int} {v : AV} {cs x0 : List AV} {ag : Bool}
end
end Go.Abs
namespace Go.Abs
open Go
structure MS where
 n:Nat
 e:Nat->AV
 x:Row
 z:List Row
def MS.st (R:List Row)(m:MS):St:=⟨m.n,m.e,m.x::(R++m.z)⟩
def MS.put (m:MS)(d:Option Tmp)(v:AV):MS:=match d with
 |some d=>{ m with e:=DQ m.e d v }
 |none=>m
theorem PQ (R:List Row)(m:MS)(d:Option Tmp)(v:AV):(m.put d v).st R=(m.st R).put d v:=by cases d<;>rfl
theorem N8 (m:MS)(d:Option Tmp)(v:AV):(m.put d v).x=m.x:=by cases d<;>rfl
theorem Nz (m:MS)(d:Option Tmp)(v:AV):(m.put d v).z=m.z:=by cases d<;>rfl
theorem N2 (m:MS)(d:Option Tmp)(v:AV):(m.put d v).n=m.n:=by cases d<;>rfl
def MS.ev (m:MS)(x:Operand):AV:=St.ev ⟨m.n,m.e,[]⟩ x
theorem Vj (R:List Row)(m:MS)(x:Operand):(m.st R).ev x=m.ev x:=by cases x<;>rfl
inductive Kind where
 |q
 |l (x y:Row)
 |a (row:Row)
def Kind.D:Kind->Row->List Row->Prop
 |.q,_,_=>True
 |.l x0 _,x,_=>x=x0
 |.a _,_,z=>z=[]
def Kind.fx:Kind->Row->Row
 |.l _ y,_=>y
 |_,x=>x
def Kind.fz:Kind->List Row->List Row
 |.a row,_=>[row]
 |_,z=>z
def V6 (o:Oper):Bool:=match o.op with
 |.call ⟨.value _,_,_⟩=>true
 |_=>false
def Vl (o:Oper):Bool:=match o.op with
 |.alloc _=>true
 |_=>false
def Kind.fits:Kind->Oper->Prop
 |.q,_=>True
 |.l ..,o=>V6 o=true
 |.a _,o=>Vl o=true
def MS.go (m:MS)(kd:Kind):MS:=⟨m.n,m.e,kd.fx m.x,kd.fz m.z⟩
section
variable {P : Program} {k : Nat} {ops : Array Oper} {md : Region.Mode} {R : List Row}
def oX (P:Program)(k:Nat)(o:Oper)(s s':St):Prop:=
 ∀(F:Nat->Prop) (os:List Own) (a:Act) (w:World),Rel F os s a w->∀(next:Act->World->Prop) (Q:Exit->Act->World->Prop),
  (∀a' w',Step k s.n F os w (·=s') a' w'->next a' w')->o.wp P a w next Q
def gG (P:Program)(k:Nat)(R:List Row)(o:Oper)(n:Nat)(ev:Operand->AV)(kd:Kind)(v:AV):Prop:=
 ∀x z e,kd.D x z->(∀y∈o.op.operands,MS.ev ⟨n,e,x,z⟩ y=ev y)->Cx n o.dst=true->oX P k o (MS.st R ⟨n,e,x,z⟩) (MS.st R ((MS.go ⟨n,e,x,z⟩ kd).put o.dst v))
def oF (P:Program)(k:Nat)(R:List Row)(o:Oper)(m m':MS):Prop:=
 ∃kd v,Kind.fits kd o/\kd.D m.x m.z/\m'=(m.go kd).put o.dst v/\gG P k R o m.n m.ev kd v
def MT (P:Program)(k:Nat)(R:List Row)(ops:Array Oper)(o:Oper)(m m':MS):Prop:=
 (GK ops o (m.st R)=some true/\oF P k R o m m')∨(GK ops o (m.st R)=some false/\m'=m.put o.dst .un)
def YY (P:Program)(k:Nat)(R:List Row)(ops:Array Oper)(i:Nat)(K:MS->Prop)(m:MS):Prop:=
 match ops[i]? with
 |none=>K m
 |some o=>∃m',MT P k R ops o m m'/\K m'
theorem YT {m:MS}{d:Option Tmp}{v:AV}{x:Operand}(h :∀t,d=some t->x≠.tmp t):(m.put d v).ev x=m.ev x:=by
 cases d with
 |none=>rfl
 |some d=>
  cases x with
  |tmp t=>
   have uu:t≠d:=λe=>h d rfl (e▸rfl);simp[MS.ev,MS.put,St.ev,DQ,uu]
  |_=>rfl
theorem Mv (m:MS){x y:Option Tmp}(v u:AV)(h :∀d,x=some d->y≠some d):(m.put x v).put y u=(m.put y u).put x v:=by
 cases x with
 |none=>rfl
 |some d=>
  cases y with
  |none=>rfl
  |some e=>
   have uu:d≠e:=λhe=>h d rfl (he▸rfl);simp only[MS.put,MS.mk.injEq,true_and,and_true];funext t;simp only[DQ];by_cases h1:t=d
   .subst h1;simp[uu]
   .by_cases h2:t=e
    .subst h2;simp[h1]
    .simp[h1,h2]
theorem Wn (m:MS)(kd:Kind)(d:Option Tmp)(v:AV):(m.put d v).go kd=(m.go kd).put d v:=by cases d<;>rfl
theorem Xt {o:Oper}{m:MS}:GK ops o (m.st R)=GK ops o ⟨m.n,m.e,[]⟩:=rfl
theorem H6 {oi:Oper}{m:MS}{d:Option Tmp}{u:AV}{kd:Kind}(hd :∀t,d=some t->t ∉ oi.looksAt ops):GK ops oi (((m.go kd).put d u).st R)=GK ops oi (m.st R):=by
 rw[Xt,Xt];unfold GK;cases hg:oi.guard with
 |none=>rfl
 |some p=>
  obtain⟨j,want⟩:=p;dsimp only;cases ht:(ops[j]?).bind (·.dst) with
  |none=>rfl
  |some t=>
   dsimp only;have:((m.go kd).put d u).e t=m.e t:=YT (m:=m.go kd) (x:=.tmp t) λt' ht' e=>hd t' ht' (by
    cases e;exact qa _ (by simp[hg,ht]))
   rw[this]
theorem L9 {oi:Oper}{m:MS}{d:Option Tmp}{u:AV}(hd :∀t,d=some t->t ∉ oi.looksAt ops):∀x∈oi.op.operands,(m.put d u).ev x=m.ev x:=λx hx=>
 YT λt ht hxt=>hd t ht (by
  subst hxt;exact qO _ (qh.2 ⟨.tmp t,by simpa using hx,rfl⟩))
theorem gG.congr {o:Oper}{n:Nat}{ev ev':Operand->AV}{kd:Kind}{v:AV}(h:gG P k R o n ev kd v)(he :∀y∈o.op.operands,ev' y=ev y):gG P k R o n ev' kd v:=
 λx z e hD ho hd=>h x z e hD (λy hy=>(ho y hy).trans (he y hy)) hd
theorem fG {ki kj:Kind}{oi oj:Oper}(hi:ki.fits oi)(hj:kj.fits oj)(hf:¬ (V6 oi=true/\V6 oj=true))(ha:¬ (Vl oi=true/\Vl oj=true)){x:Row}{z:List Row}(h1:ki.D x z)(h2:kj.D (ki.fx x) (ki.fz z)):
  kj.D x z/\ki.D (kj.fx x) (kj.fz z)/\ki.fx (kj.fx x)=kj.fx (ki.fx x)/\ki.fz (kj.fz z)=kj.fz (ki.fz z):=by
 cases ki with
 |q=>exact⟨h2,pA,rfl,rfl⟩
 |l x0 y=>
  cases kj with
  |q=>exact⟨pA,h1,rfl,rfl⟩
  |l x1 y1=>exact absurd ⟨hi,hj⟩ hf
  |a row=>exact⟨h2,h1,rfl,rfl⟩
 |a row=>
  cases kj with
  |q=>exact⟨pA,h1,rfl,rfl⟩
  |l x1 y1=>exact⟨h2,h1,rfl,rfl⟩
  |a row1=>exact absurd ⟨hi,hj⟩ ha
theorem kR {oi oj:Oper}{m mi mij:MS}(hap:oi.apart ops oj=true)(hf:¬ (V6 oi=true/\V6 oj=true))(ha:¬ (Vl oi=true/\Vl oj=true))(hi:MT P k R ops oi m mi)(hj:MT P k R ops oj mi mij):
  ∃mj,MT P k R ops oj m mj/\MT P k R ops oi mj mij:=by
 obtain⟨h1,h2,h3⟩:=Oper.apart_spec hap;have hq:∀(m:MS),m.go .q=m:=λm=>rfl;rcases hi with ⟨wi,ki,vi,fi,di,rfl,gi⟩|⟨wi,rfl⟩<;>rcases hj with ⟨wj,kj,vj,fj,dj,rfl,gj⟩|⟨wj,rfl⟩
 .rw[H6 h1]at wj;rw[N8,Nz]at dj;obtain⟨e1,e2,e3,e4⟩:=fG fi fj hf ha di dj;refine⟨(m.go kj).put oj.dst vj,.inl ⟨wj,kj,vj,fj,e1,rfl,?_⟩,.inl ⟨by rw[H6 h3];exact wi,ki,vi,fi,by rw[N8,Nz];exact e2,?_,?_⟩⟩
  .rw[N2]at gj;exact gj.congr λy hy=>(L9 (m:=m.go ki) (u:=vi) h1 y hy).symm
  .rw[Wn,Wn,<- Mv _ vi vj h2];congr 2;simp only[MS.go,e3,e4]
  .rw[N2];exact gi.congr λy hy=>L9 (m:=m.go kj) h3 y hy
 .rw[H6 h1]at wj;refine⟨m.put oj.dst .un,.inr ⟨wj,rfl⟩,.inl ⟨by have:=H6 (R:=R) (m:=m) (kd:=.q) (u:=.un) h3;rw[hq]at this;rw[this];exact wi,ki,vi,fi,by rw[N8,Nz];exact di,?_,?_⟩⟩
  .rw[Wn,<- Mv _ vi .un h2]
  .rw[N2];exact gi.congr λy hy=>L9 h3 y hy
 .have h5:=H6 (R:=R) (m:=m) (kd:=.q) (u:=.un) h1;rw[hq]at h5;rw[h5]at wj;rw[N8,Nz]at dj;refine⟨(m.go kj).put oj.dst vj,.inl ⟨wj,kj,vj,fj,dj,rfl,?_⟩,.inr ⟨by rw[H6 h3];exact wi,?_⟩⟩
  .rw[N2]at gj;exact gj.congr λy hy=>(L9 h1 y hy).symm
  .rw[Wn,<- Mv _ .un vj h2]
 .have h5:=H6 (R:=R) (m:=m) (kd:=.q) (u:=.un) h1;have h6:=H6 (R:=R) (m:=m) (kd:=.q) (u:=.un) h3;rw[hq]at h5 h6;rw[h5]at wj;exact⟨m.put oj.dst .un,.inr ⟨wj,rfl⟩,.inr ⟨by rw[h6];exact wi,by rw[<- Mv _ .un .un h2]⟩⟩
def anyM (P:Program)(k:Nat)(R:List Row)(md:Region.Mode)(ops:Array Oper)(n:Nat)(L:Array Bool->MS->Prop):Nat->Array Bool->MS->Prop
 |0,tn,s=>L tn s
 |f+1,tn,s=>Region.ready md ops tn≠[]/\∀i∈Region.ready md ops tn,i<n/\YY P k R ops i (anyM P k R md ops n L f (tn.setIfInBounds i true)) s
theorem Yz {F:Nat->Prop}{os:List Own}{a:Act}{w:World}{i:Nat}{K:MS->Prop}{m:MS}(vM :∀o∈ops.toList,Cx m.n o.dst=true)(hr:Rel F os (m.st R) a w)(h:YY P k R ops i K m){next:Act->World->Prop}{Q:Exit->Act->World->Prop}
  (hn :∀a' w',Step k m.n F os w (λs=>∃m',s=m'.st R/\K m') a' w'->next a' w'):wpOp P ops Q i next a w:=by
 unfold YY at h;unfold wpOp;split
 .rename_i ho;simp only[ho]at h;exact hn a w ⟨m.st R,F,os,rfl,⟨m,rfl,h⟩,hr,Ext.refl _ _ _ _⟩
 .rename_i o ho;simp only[ho]at h;obtain⟨m',hy,hK⟩:=h;have zV:=vM o (by have:=oz (l:=ops.toList) (i:=i) (by simpa using ho);exact this);rcases hy with ⟨hw,kd,v,_,hD,rfl,hg⟩|⟨hw,rfl⟩
  .rw[pJ (N1 hr vM hw)];refine .inl (hg m.x m.z m.e hD (λ_ _=>rfl) zV F os a w hr next Q ?_);rintro a' w' ⟨s',F',os',h1,rfl,h3,h4⟩;exact hn a' w' ⟨_,F',os',h1,⟨_,rfl,hK⟩,h3,h4⟩
  .rw[pK (by rw[N1 hr vM hw];simp)];exact hn _ w ⟨_,F,os,by rw[PQ];cases o.dst<;>rfl,⟨_,rfl,hK⟩,by rw[PQ];exact hr.un zV,Ext.refl _ _ _ _⟩
theorem RA {n g N:Nat}{L:Array Bool->MS->Prop}{Q':Exit->Act->World->Prop}{F0:Nat->Prop}{os0:List Own}{w0:World}(vM :∀o∈ops.toList,Cx N o.dst=true)
  (hL :∀tn (m:MS) F os a w,m.n=N->L tn m->Rel F os (m.st R) a w->Ext F0 os0 w0 F os w k->wpAny P md ops Q' g tn a w) :
  ∀(f:Nat) (tn:Array Bool) (m:MS) F os a w,m.n=N->anyM P k R md ops n L f tn m->Rel F os (m.st R) a w->Ext F0 os0 w0 F os w k->wpAny P md ops Q' (f+g) tn a w
 |0,tn,s,F,os,a,w,hn,h,hr,he=>by rw[qP];exact hL _ _ _ _ _ _ hn h hr he
 |f+1,tn,s,F,os,a,w,hn,h,hr,he=>by
  rw[show f+1+g=(f+g)+1 by omega];refine⟨λh0=>absurd h0 h.1,λi hi=>?_⟩;refine Yz (k:=k) (by rw[hn];exact vM) hr (h.2 i hi).2 ?_;rintro a' w' ⟨s',F',os',h1,⟨m',rfl,h2⟩,h3,h4⟩;exact RA vM hL f _ m' F' os' a' w' (by rw[<- hn];exact h1) h2 h3 (he.trans h4)
def JW (ops:Array Oper)(i:Nat):Bool:=match ops[i]? with|some o=>V6 o|none=>false
def RL (ops:Array Oper)(i:Nat):Bool:=match ops[i]? with|some o=>Vl o|none=>false
def kS (md:Region.Mode)(ops:Array Oper)(j i:Nat):Bool:=match ops[j]? with|some o=>o.after.any λe=>Region.binds md e&&e.on==i|none=>false
def Qv (md:Region.Mode)(ops:Array Oper)(n:Nat):Bool:=
 (List.range n).all λj=>(List.range j).all λi=>(!(RL ops i&&RL ops j))&&(!(JW ops i&&JW ops j) || ((List.range j).any λm=>decide (i<m)&&JW ops m) || kS md ops j i)
theorem QI {n:Nat}(h:Qv md ops n=true){i j:Nat}(zX:i<j)(hj:j<n):¬ (RL ops i=true/\RL ops j=true)/\
  (JW ops i=true->JW ops j=true->(∃m,i<m/\m<j/\JW ops m=true)∨∀oj,ops[j]?=some oj->∃e∈oj.after,Region.binds md e=true/\e.on=i):=by
 unfold Qv at h;have h1:=pH.1 (pH.1 h j (rF.2 hj)) i (rF.2 zX);rw[pb]at h1;refine⟨λ⟨a,b⟩=>?_,λa b=>?_⟩
 .simp[a,b]at h1
 .have h2:=h1.2;simp only[a,b,sI,qD,Bool.false_or,sK,ra,rF,pb,pQ]at h2;rcases h2 with ⟨m,hm,h3,h4⟩|h2
  .exact .inl ⟨m,h3,hm,h4⟩
  .refine .inr λoj xL=>?_;simp only[kS,xL,Array.any_eq_true']at h2;obtain⟨e,he,hb⟩:=h2;simp only[pb,beq_iff_eq]at hb;exact⟨e,he,hb⟩
theorem Zy {n:Nat}(h:Qv md ops n=true){tn:Array Bool}(inv:HeadInv md ops n tn):∀(d i j:Nat),j-i=d->i<j->j<n->JW ops i=true->JW ops j=true->
  tn.getD j false=true->tn.getD i false=true:=by
 intro d
 induction d using Nat.strongRecOn with
 |_ d ih=>
  intro i j hd zX hj hi hfj hl;rcases (QI h zX hj).2 hi hfj with ⟨m,h1,h2,h3⟩|h1
  .have hm:=ih (j-m) (by omega) m j rfl h2 hj h3 hfj hl;exact ih (m-i) (by omega) i m rfl h1 (by omega) hi h3 hm
  .obtain⟨oj,xL⟩ :∃oj,ops[j]?=some oj:=by
    unfold JW at hfj;split at hfj
    .rename_i o ho;exact⟨o,ho⟩
    .cases hfj
   obtain⟨e,he,hb,rfl⟩:=h1 oj xL;exact inv.closed j oj xL hl e he hb
theorem bZ {n:Nat}(h:Qv md ops n=true){tn:Array Bool}(inv:HeadInv md ops n tn){i j:Nat}(zX:i<j)(hj:j<n)(hi:JW ops i=true)(hfj:JW ops j=true)
  (hr:j∈Region.ready md ops tn):tn.getD i false=true:=by
 obtain⟨_,oj,xL,vd⟩:=sE.1 hr;have key:∀(d i:Nat),j-i=d->i<j->JW ops i=true->tn.getD i false=true:=by
  intro d
  induction d using Nat.strongRecOn with
  |_ d ih=>
   intro i hd zX hi;rcases (QI h zX hj).2 hi hfj with ⟨m,h1,h2,h3⟩|h1
   .exact Zy h inv _ i m rfl h1 (by omega) hi h3 (ih (j-m) (by omega) m rfl h2 h3)
   .obtain⟨e,he,hb,rfl⟩:=h1 oj xL;exact vd e he hb
 exact key _ i rfl zX hi
theorem cZ {n i:Nat}{oi:Oper}{L:Array Bool->MS->Prop}(hwt:Qv md ops n=true)(hi:ops[i]?=some oi)
  (vw :∀tn,HeadInv md ops n tn->∀i,i<n->tn.getD i true=false->∀t,n<=t->t ∉ Region.ready md ops tn) (vR:i<n)
  (zC :∀tn s,L tn s->∀j∈Region.ready md ops tn,n<=j) :
  ∀(f:Nat) (tn:Array Bool) (m mi:MS),HeadInv md ops n tn->(∀j,j<i->tn.getD j true=true)->
   (∀j oj,ops[j]?=some oj->j≠i->tn.getD j true=false->(∀e∈oj.after,Region.binds md e=true->e.on≠i)->oi.apart ops oj=true)->
   i∈Region.ready md ops tn->MT P k R ops oi m mi->
   anyM P k R md ops n L f (tn.setIfInBounds i true) mi->anyM P k R md ops n L (f+1) tn m:=by
 have xc:∀{K:MS->Prop} {m mi:MS},MT P k R ops oi m mi->K mi->YY P k R ops i K m:=λ{K m mi} hy h=>by
  unfold YY;simp only[hi];exact⟨mi,hy,h⟩
 intro f
 induction f with
 |zero=>
  intro tn m mi inv hlow _ hr hy H;have we:=(sE.1 hr).1;refine⟨λh=>(by rw[h]at hr;cases hr),λj hj=>?_⟩;have hjn:j<n:=by
   rcases rH j n with h|h
   .exact h
   .exact absurd hj (vw _ inv i vR we j h)
  refine⟨hjn,?_⟩;by_cases wX:j=i
  .subst wX;exact xc hy H
  .have:=zC _ _ H j (sB hj wX);omega
 |succ f ih=>
  intro tn m mi inv hlow xK hr hy H;have we:=(sE.1 hr).1;refine⟨λh=>(by rw[h]at hr;cases hr),λj hj=>?_⟩;have hjn:j<n:=by
   rcases rH j n with h|h
   .exact h
   .exact absurd hj (vw _ inv i vR we j h)
  refine⟨hjn,?_⟩;by_cases wX:j=i
  .subst wX;exact xc hy H
  .have h1:=(H.2 j (sB hj wX)).2;obtain⟨yC,oj,xL,vd⟩:=sE.1 hj;have hnot:∀e∈oj.after,Region.binds md e=true->e.on≠i:=λe he hb heq=>by
    have h1:=vd e he hb;rw[heq,getD_both we]at h1;cases h1
   have uV:i<j:=by
    rcases ql i j with h|h|h
    .exact h
    .exact absurd h.symm wX
    .have:=hlow j h;rw[yC]at this;cases this
   have hfn:¬ (V6 oi=true/\V6 oj=true):=λ⟨h1,h2⟩=>by
    have:=bZ hwt inv uV hjn (by simp[JW,hi,h1]) (by simp[JW,xL,h2]) hj;rw[getD_both we]at this;cases this
   have hal:¬ (Vl oi=true/\Vl oj=true):=λ⟨h1,h2⟩=>
    (QI hwt uV hjn).1 ⟨by simp[RL,hi,h1],by simp[RL,xL,h2]⟩
   unfold YY at h1;simp only[xL]at h1;obtain⟨mij,hmt,hK⟩:=h1;obtain⟨mj,g1,g2⟩:=kR (xK j oj xL wX yC hnot) hfn hal hy hmt;unfold YY;simp only[xL];refine⟨mj,g1,ih (tn.setIfInBounds j true) mj mij (inv.set hj hjn) (λq hq=>?_) ?_ (sB hr (qw wX)) g2 ?_⟩
   .rw[sa true (by omega)];exact hlow q hq
   .intro k ok hk hki we hno;refine xK k ok hk hki ?_ hno;by_cases hjk:j=k
    .subst hjk;exact yC
    .rw[sa true hjk]at we;exact we
   .rw[sH _ _ wX];exact hK
def I3 (P:Program)(k:Nat)(R:List Row):List (Option Tmp)->List Oper->(MS->Prop)->MS->Prop
 |_,[],K,m=>K m
 |ds,o::r,K,m=>Jh ds o (m.st R) (∃m',oF P k R o m m'/\I3 P k R (ds++[o.dst]) r K m') (I3 P k R (ds++[o.dst]) r K (m.put o.dst .un))
theorem Zw {n g:Nat}{K:MS->Prop}(hwt:Qv md ops n=true)(vw :∀tn,HeadInv md ops n tn->∀i,i<n->tn.getD i true=false->∀t,n<=t->t ∉ Region.ready md ops tn):
  ∀(l:List Oper) (ds:List (Option Tmp)) (tn:Array Bool) (m:MS),(∀(j:Nat),j<l.length->l[j]?=ops[ds.length+j]?)->(∀(j:Nat) d,ds[j]?=some d->(ops[j]?).map (·.dst)=some d)->ds.length+l.length=n->HeadInv md ops n tn->
  (∀j,j<ds.length->tn.getD j true=true)->
  Region.lexHead md ops g l.length ds.length tn=true->I3 P k R ds l K m->
  anyM P k R md ops n (λlisted' s'=>Region.seqB md ops g n listed'=true/\K s') l.length tn m
 | [],ds,tn,s,_,_,hk,_,_,hB,h=>by
  have:ds.length=n:=by simpa using hk
  subst this;exact⟨by simpa [Region.lexHead] using hB,h⟩
 |o::l,ds,tn,s,hl,yB,hk,inv,hlow,hB,h=>by
  have h0:ops[ds.length]?=some o:=by simpa using (hl 0 (by simp)).symm
  simp only[pq,Region.lexHead,pb]at hB;obtain⟨⟨hr,hf⟩,hB'⟩:=hB;have hkn:ds.length<n:=by simp only[pq]at hk;omega
  have vf:ds.length∈Region.ready md ops tn:=by simpa using hr
  have yD :∀(j:Nat) d,(ds++[o.dst])[j]?=some d->(ops[j]?).map (·.dst)=some d:=λj d hj=>by
   rcases ql j ds.length with h1|h1|h1
   .rw[pN h1]at hj;exact yB j d hj
   .subst h1;rw[J1,pD]at hj;rw[h0];simp[hj]
   .rw[qB (by simp;omega)]at hj;cases hj
  have hlow' :∀j,j<(ds++[o.dst]).length->(tn.setIfInBounds ds.length true).getD j true=true:=λj hj=>by
   simp only[pW,pq,qj]at hj;by_cases hjd:ds.length=j
   .subst hjd;rcases rH ds.length tn.size with h5|h5
    .simp[h5]
    .simp[sQ h5]
   .rw[sa true hjd];exact hlow j (by omega)
  have vk:∀s',I3 P k R (ds++[o.dst]) l K s'->anyM P k R md ops n (λlisted' s'=>Region.seqB md ops g n listed'=true/\K s') l.length (tn.setIfInBounds ds.length true) s':=λs' hs'=>
   Zw hwt vw l (ds++[o.dst]) _ s' (λj hj=>by
    have:=hl (j+1) (by simp;omega);simp only[pz]at this;rw[this];congr 1;simp;omega) yD (by simp only[pq,pW,qj]at hk⊢;omega) (inv.set vf hkn) hlow' (by simpa using hB') hs'
  have xe:∀m',MT P k R ops o s m'->I3 P k R (ds++[o.dst]) l K m'->anyM P k R md ops n (λlisted' s'=>Region.seqB md ops g n listed'=true/\K s') (l.length+1) tn s:=λm' hy hK=>
   cZ hwt h0 vw hkn (λlisted' s' hL=>seqB_ready hL.1) l.length tn s m' inv hlow (tG h0 hf) vf hy (vk _ hK)
  simp only[I3]at h;rcases Xn yB h with ⟨hw,m',h1,h2⟩|⟨hw,h1⟩
  .exact xe m' (.inl ⟨hw,h1⟩) h2
  .exact xe _ (.inr ⟨hw,rfl⟩) h1
theorem AW.fC {id n:Nat}{e:Nat->AV}{x:Row}{Q:Exit->St->Prop}(R:List Row)(m:Nat)(hm:P.follows .mixedOrders=true)(hB:Region.lexTailB .any ops m=true)(hw:Qv .any ops m=true)(hd:(ops.toList.all λo=>Cx n o.dst)=true)
  (h:I3 P k R [] (ops.toList.take m) (λs'=>AO P k ops Q ((ops.toList.take m).map (·.dst)) (ops.toList.drop m) (s'.st R)) ⟨n,e,x,[]⟩):AW P k (.region id ops true) Q ⟨n,e,x::R⟩:=by
 simp only[Region.lexTailB,pb,pQ]at hB;obtain⟨⟨⟨⟨_,hn⟩,hs⟩,hc⟩,hlex⟩:=hB;intro F os a w hr;have hr0:Rel F os (MS.st R ⟨n,e,x,[]⟩) a w:=by simpa [MS.st] using hr
 obtain⟨hr1,he1⟩:=hr0.drew (k:=k);refine tB hm ?_;have yi:(ops.toList.take m).length=m:=by simp;omega
 have hdl:(ops.toList.drop m).length=ops.size-m:=by simp
 have H:=Zw (md:=.any) (ops:=ops) (n:=m) (g:=ops.size-m) (k:=k) (R:=R) (P:=P) (K:=λs'=>AO P k ops Q ((ops.toList.take m).map (·.dst)) (ops.toList.drop m) (s'.st R)) hw
  (λtn inv i hi we t ht=>tail_waits hs hc hn inv _ i rfl hi we t ht) (ops.toList.take m) [] _ _ (λj hj=>by
   rw[yi]at hj;rw[po,pJ hj];simp) (by simp) (by simpa using yi) (U4 _) (by simp) (by rw[yi];exact hlex) h
 have:=RA (k:=k) (g:=ops.size-m) (N:=n) (R:=R) (Q':=K0 k Q F os w) (F0:=F) (os0:=os) (w0:=w) (λo ho=>pH.1 hd o ho) (λtn s' F' os' a' w' hn' hL vf he=>by
  have h1:=hL.2 (λj=>by
    rw[pR,yi,qI];simp) (λj d hj=>by
    simp only[pC,po]at hj;split at hj
    .simpa using hj
    .cases hj) (by show∀o∈ops.toList,Cx s'.n o.dst=true;rw[hn'];exact λo ho=>pH.1 hd o ho) F' os' a' w' vf (K0 k Q F os w) λ_ _ _ hp=>K0.trans he hp
  have h2:=wpAny_of_seq (md:=.any) (Q':=K0 k Q F os w) (ops.toList.drop m) m tn a' w' (λj=>by simp[qI]) (by rw[hdl];exact hL.1) h1;rwa [hdl]at h2) _ _ _ F os a w.drew rfl H hr1 he1
 rw[yi,show m+(ops.size-m)=ops.size by omega]at this;exact this
end
section
variable {P : Program} {k : Nat} {R : List Row} {ds : List (Option Tmp)} {r : List Oper} {K : MS -> Prop} {n : Nat} {e : Nat -> AV} {x0 : Row} {z0 : List Row} {t : Tmp} {op : Op} {ty : TypeId} {ps : String} {ed : Array Edge} {gd : Option (Nat × Bool)} {v : AV}
theorem GO.elim {o:Oper}{A B:Prop}{s:St}(hg:GO ds gd s.env)(ho:o.guard=gd)(h:Jh ds o s A B):A:=by
 unfold Jh at h;rw[ho]at h;cases gd with
 |none=>exact h
 |some q=>
  obtain⟨jj,want⟩:=q;obtain⟨tg,hj,ht⟩:=hg;simp only[hj,ht,bd]at h;exact h.1 rfl
theorem F3 (hg:GO ds gd e)(h :∀x z,EN P ds [⟨some t,op,ty,ps,ed,gd⟩] (λs'=>s'.env t=v) ⟨n,e,x::(R++z)⟩)(hk:I3 P k R (ds++[some t]) r K ⟨n,DQ e t v,x0,z0⟩):
  I3 P k R ds (⟨some t,op,ty,ps,ed,gd⟩::r) K ⟨n,e,x0,z0⟩:=by
 refine GO.guard (e:=e) hg ⟨_,⟨.q,v,pA,pA,rfl,?_⟩,hk⟩;intro x z e' _ ho hd F os a w hr next Q hn
 have h1:=h x z;unfold EN at h1;have h2:=GO.elim (s:=⟨n,e,x::(R++z)⟩) hg rfl h1;obtain⟨v',hv,h3⟩:=Xx h2;have hvv:v'=v:=by simpa [EN,St.put,DQ] using hv
 subst hvv;have h4:L5 P ⟨some t,op,ty,ps,ed,gd⟩ (MS.st R ⟨n,e',x,z⟩) (·=v'):=Pj (s:=⟨n,e,x::(R++z)⟩) rfl (λy hy=>by
  have:=ho y hy;rw[Vj,this];cases y<;>rfl) h3
 exact Zu (k:=k) hr hd h4 (by rw[PQ]at hn;exact hn)
theorem FU {K':St->Prop}{st:List Row}(uW:x0::(R++z0)=st)(h:K' ⟨n,e,st⟩):I3 P k R ds [] (λm=>K' (m.st R)) ⟨n,e,x0,z0⟩:=by
 subst uW;exact h
theorem bf {T:TypeId}{zz:List AV}{m:Nat}(hz:II P T=some zz)(hm:R.length+1=m)(hk:I3 P k R (ds++[some t]) r K ⟨n,DQ e t (.ptr m 0 0 0),x0,[⟨0,T,zz.length,[zz]⟩]⟩):
  I3 P k R ds (⟨some t,.alloc T,ty,ps,ed,none⟩::r) K ⟨n,e,x0,[]⟩:=by
 subst hm;refine⟨_,⟨.a ⟨0,T,zz.length,[zz]⟩,.ptr (R.length+1) 0 0 0,rfl,rfl,rfl,?_⟩,hk⟩;intro x z e' hz0 ho hd F os a w hr next Q hn
 have hz0:z=[]:=hz0;subst hz0;refine L3 (k:=k) (K:=(·=MS.st R ((MS.go ⟨n,e',x,[]⟩ (.a ⟨0,T,zz.length,[zz]⟩)).put (some t) (.ptr (R.length+1) 0 0 0)))) hr hd ?_ hn;refine Aj _ hz ?_;simp[MS.st,MS.go,MS.put,St.put,Kind.fx,Kind.fz]
theorem VL {sel:List Nat}{A z:List Row}(h:sel.all (·<A.length)=true):CE (A++z) sel=CE A sel:=by
 unfold CE
 induction sel with
 |nil=>rfl
 |cons i l ih=>
  simp only[rR,pb,pQ]at h;rw[rC,rC,pN h.1,ih h.2]
theorem WU {sel:List Nat}{rs A z:List Row}(h:sel.all (·<A.length)=true):FW sel rs 0 (A++z)=FW sel rs 0 A++z:=by
 apply qk;intro i;rw[Mp,qP];by_cases hi:i<A.length
 .rw[pN hi,pN (by rw[Kd];exact hi),Mp,qP]
 .rw[pO (by omega),pO (by rw[Kd];omega),Kd];have hx:idx sel i=none:=by
   cases hx:idx sel i with
   |none=>rfl
   |some p=>
    have:=oz (Ou hx);have:=pH.1 h i this;simp at this;omega
  rw[hx];cases z[i-A.length]?<;>rfl
theorem kM {f:FuncId}{vJ:Array Operand}{ts:Array TypeId}{args ug:List AV}{rowsP rows0 rows1 rows1':List Row}{v v':AV}{y0:Row}(sel:List Nat)(hg:GO ds gd e)(hb:Cp P f=true)(hc:BJ P f ug rows0 λr st=>r=v/\st=rows1)(ha:vJ.toList.map (St.ev ⟨n,e,[]⟩)++[]=args)(vt:sel.Nodup)(uV:sel.all (·<R.length+1)=true)
  (hp:CE (x0::R) sel=rowsP) (hs:SR sel rowsP rows0) (hf:args.map (Jk sel)=ug) (hlen:rows1.length=sel.length) (h1 :∀N,UN sel N rows1 rows1') (hv :∀N,Q8 sel N v=v') (wV:FW sel rows1' 0 (x0::R)=y0::R)
  (hk:I3 P k R (ds++[some t]) r K ⟨n,DQ e t v',y0,z0⟩):I3 P k R ds (⟨some t,.call ⟨.value (.func f),vJ,ts⟩,ty,ps,ed,gd⟩::r) K ⟨n,e,x0,z0⟩:=by
 subst ha;subst hp;refine GO.guard (e:=e) hg ⟨_,⟨.l x0 y0,v',rfl,rfl,rfl,?_⟩,hk⟩;intro x z e' hx ho hd F os a w hr next Q hn
 have hx:x=x0:=hx;subst hx;refine L3 (k:=k) (K:=(·=MS.st R ((MS.go ⟨n,e',x,z⟩ (.l x y0)).put (some t) v'))) hr hd ?_ hn;show Cp P f=true/\callThen P k (MS.st R ⟨n,e',x,z⟩) f (vJ.toList.map (MS.st R ⟨n,e',x,z⟩).ev++[]) (some t) _;have hev:vJ.toList.map (MS.st R ⟨n,e',x,z⟩).ev=vJ.toList.map (St.ev ⟨n,e,[]⟩):=T5 (f:=f) (ts:=ts) (s0:=MS.st R ⟨n,e',x,z⟩) (s1:=⟨n,e,[]⟩) λy hy=>by rw[Vj];exact ho y hy
 rw[hev];refine⟨hb,Le λhle=>?_⟩;have xl:(MS.st R ⟨n,e',x,z⟩).st=(x::R)++z:=rfl;have hlt':sel.all (·<(x::R).length)=true:=by simpa using uV
 have hpick:CE (MS.st R ⟨n,e',x,z⟩).st sel=CE (x::R) sel:=by rw[xl];exact VL hlt'
 obtain⟨e1,e3⟩:=hs.spec (st0:=(MS.st R ⟨n,e',x,z⟩).st) hle (λrow tw=>by
  rw[<- hpick]at tw;obtain⟨i,_,hi⟩:=qh.1 tw;exact oz hi)
 refine MA (rows2:=[]) sel (by simpa using hc) vt (λi hi=>by
   have:=pH.1 hlt' i hi;rw[xl,pW];simp only[pQ]at this;omega) (by rw[hpick];exact e1) e3 hf hlen (λrow tw=>by
  rw[qS]at tw;exact (h1 _).leaf row tw) λ_=>?_
 rw[(h1 _).spec,hv,xl,WU hlt',wV];simp[MS.st,MS.go,MS.put,St.put,Kind.fx,Kind.fz]
end
end Go.Abs
namespace Go.Abs
open Go
def mX (e:Nat->AV):List (Nat×AV)->List AV
 | []=>[]
 |(t,_)::r=>e t::mX e r
def nA:List (Nat×AV)->List AV
 | []=>[]
 |(_,v)::r=>v::nA r
theorem ME.same {e:Nat->AV}:∀{L:List (Nat×AV)},mX e L=nA L->ME e L
 | [],_=>trivial
 |(t,v)::r,h=>by
  simp only[mX,nA,rq]at h;obtain⟨h1,h2⟩:=h;subst h1;exact⟨.rfl,ME.same h2⟩
section
variable {P : Program} {k : Nat} {R : List Row} {ds : List (Option Tmp)} {r : List Oper} {K : MS -> Prop} {n : Nat} {e : Nat -> AV} {x0 : Row} {z0 : List Row} {t : Tmp} {op : Op} {ty : TypeId} {ps : String} {ed : Array Edge} {gd : Option (Nat × Bool)}
theorem BL (v:AV)(hg:GO ds gd e)(hl:Kg op=false)(hq :∀x z,AQ P ⟨n,e,x::(R++z)⟩ op v)(hk:I3 P k R (ds++[some t]) r K ⟨n,DQ e t v,x0,z0⟩):
  I3 P k R ds (⟨some t,op,ty,ps,ed,gd⟩::r) K ⟨n,e,x0,z0⟩:=
 F3 hg (λx z=>H3 hg hl (hq x z) (As (by simp[DQ]))) hk
theorem oL {f:FuncId}{vJ:Array Operand}{ts:Array TypeId}{args ug:List AV}{rows0 rows1:List Row}{v v':AV}{y0:Row}(sel:List Nat)(hg:GO ds gd e)(hb:Cp P f=true)(hc:BJ P f ug rows0 λr st=>r=v/\st=rows1)(ha:vJ.toList.map (St.ev ⟨n,e,[]⟩)++[]=args)(vt:sel.Nodup)(uV:sel.all (·<R.length+1)=true)
  (hp:CE (x0::R) sel=rows0) (hs:SR sel rows0 rows0) (hf:args.map (Jk sel)=ug) (hlen:rows1.length=sel.length) (h1 :∀N,UN sel N rows1 rows1) (hv :∀N,Q8 sel N v=v') (wV:FW sel rows1 0 (x0::R)=y0::R)
  (hk:I3 P k R (ds++[some t]) r K ⟨n,DQ e t v',y0,z0⟩):I3 P k R ds (⟨some t,.call ⟨.value (.func f),vJ,ts⟩,ty,ps,ed,gd⟩::r) K ⟨n,e,x0,z0⟩:=
 kM sel hg hb hc ha vt uV hp hs hf hlen h1 hv wV hk
end
section
variable {P : Program} {k : Nat} {s : St} {ops : Array Oper} {Q : Exit -> St -> Prop} {ds : List (Option Tmp)} {r : List Oper} {n : Nat} {e : Nat -> AV} {st st' : List Row} {ty : TypeId} {ps : String} {ed : Array Edge} {d : Option Tmp} {v v' : AV} {gd : Option (Nat × Bool)}
variable {f : FuncId} {vJ : Array Operand} {ts : Array TypeId} {args ug : List AV} {rows0 rows1 : List Row}
theorem QV (sel:List Nat)(hg:GO ds gd e)(hb:Cp P f=true)(hc:BJ P f ug rows0 λr st=>r=v/\st=rows1)(ha:vJ.toList.map (St.ev ⟨n,e,st⟩)++[]=args)(vt:sel.Nodup)(uV:sel.all (·<st.length)=true)
  (hp:CE st sel=rows0) (hs:SR sel rows0 rows0) (hf:args.map (Jk sel)=ug) (hlen:rows1.length=sel.length) (h1:UN sel st.length rows1 rows1) (h2:UN sel st.length [] []) (hv:Q8 sel st.length v=v') (wV:FW sel rows1 0 st=st')
  (hk:AO P k ops Q (ds++[d]) r (St.put ⟨n,e,st'⟩ d v')):AO P k ops Q ds (⟨d,.call ⟨.value (.func f),vJ,ts⟩,ty,ps,ed,gd⟩::r) ⟨n,e,st⟩:=
 G8 (rows2:=[]) (rows2':=[]) sel hg hb (by simpa using hc) ha vt uV hp hs hf hlen h1 h2 hv (by simpa using wV) hk
end
def oQ:Nat->Nat->List Bool
 |0,_=>[]
 |n+1,m=>(m % 2==1)::oQ n (m / 2)
def bm (n m:Nat):Array Bool:=⟨oQ n m⟩
end Go.Abs
