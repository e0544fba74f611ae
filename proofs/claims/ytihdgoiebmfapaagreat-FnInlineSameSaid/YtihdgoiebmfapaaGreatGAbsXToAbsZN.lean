import Derived.Test.YtihdgoiebmfapaaGreatAbsW
import Derived.Lib.AppendZerosOnto
import Derived.OrdersHeld
set_option linter.all false
namespace Go.Abs
open Go
def QX:AV->Bool
 |.int ..|.bool _|.str _|.zc|.SL|.SE|.dv ..=>true
 |_=>false
def Up (xs:List (List AV)):Prop:=∀x∈xs,∀c∈x,QX c=true
theorem ah {F S:Nat->Prop}{w:World}{os:List Own}{c:AV}{u:Value}(hc:QX c=true)(hd :∀e s ys,c≠.dv e s ys)(h:Ab F w os c u):Em S w c u:=by
 cases c<;>simp only[QX,pD]at hc<;>simp only[Ab]at h<;>simp only[Em]<;>first|exact h|exact absurd rfl (hd _ _ _)
theorem Pn {F S:Nat->Prop}{w:World}{os:List Own}{c:AV}{u:Value}(h:Em S w c u):Ab F w os c u/\c.kept=true/\QX c=true:=by
 cases c<;>simp only[Em]at h
 case dv=>
  refine⟨?_,rfl,rfl⟩;simp only[Ab];rcases h.2 with ⟨_,a,rfl⟩|⟨b,cap,cur,rfl,_⟩<;>exact⟨_,_,_,rfl⟩
 all_goals first|exact h.elim|exact⟨by simp only[Ab];exact h,rfl,rfl⟩
theorem Zq {w:World}{cur:Array Value}{D:Nat->Nat->Prop}(ve :∀j j' b,D j b->D j' b->j=j'):∀(x:List AV) (o j0:Nat),(∀(j:Nat) c,x[j]?=some c->∃u,cur[o+j]?=some u/\Em (D (j0+j)) w c u)->
  Ls (λb=>∃j,j0<=j/\D j b) w x cur o
 | [],_,_,_=>by simp[Ls]
 |c::r,o,j0,h=>by
  simp only[Ls];obtain⟨u,h1,h2⟩:=h 0 c rfl;refine⟨D j0,λb=>∃j,j0+1<=j/\D j b,λb hb=>⟨j0,pL _,hb⟩,λb ⟨j,hj,hb⟩=>⟨j,by omega,hb⟩,λb hb ⟨j,hj,vF⟩=>by have:=ve _ _ _ hb vF;omega,⟨u,h1,h2⟩,?_⟩;exact Zq ve r (o+1) (j0+1) λj c hc=>by
   obtain⟨u,h1,h2⟩:=h (j+1) c (by simpa using hc);exact⟨u,by rw[<- h1];congr 1;omega,by rw[show j0+1+j=j0+(j+1) by omega];exact h2⟩
theorem Zc {w:World}{cur:Array Value}{size:Nat}{D:Nat->Nat->Nat->Prop}(ve :∀i j i' j' b,D i j b->D i' j' b->i=i'/\j=j'):∀(xs:List (List AV)) (o i0:Nat),(∀x∈xs,x.length=size)->
  (∀(i:Nat) x,xs[i]?=some x->∀(j:Nat) c,x[j]?=some c->∃u,cur[o+i*size+j]?=some u/\Em (D (i0+i) j) w c u)->Lu (λb=>∃i j,i0<=i/\D i j b) w xs cur o
 | [],_,_,_,_=>by simp[Lu]
 |x::r,o,i0,hs,h=>by
  simp only[Lu];refine⟨λb=>∃j,0<=j/\D i0 j b,λb=>∃i j,i0+1<=i/\D i j b,λb ⟨j,_,hb⟩=>⟨i0,j,pL _,hb⟩,λb ⟨i,j,hi,hb⟩=>⟨i,j,by omega,hb⟩,λb ⟨j,_,hb⟩ ⟨i,j',hi,vF⟩=>by have:=(ve _ _ _ _ _ hb vF).1;omega,?_,?_⟩
  .exact Zq (D:=D i0) (λj j' b h1 h2=>(ve _ _ _ _ _ h1 h2).2) x o 0 λj c hc=>by
    obtain⟨u,h1,h2⟩:=h 0 x rfl j c hc;exact⟨u,by rw[<- h1];congr 1;omega,by simpa using h2⟩
  .rw[hs x (by simp)];exact Zc ve r (o+size) (i0+1) (λx hx=>hs x (by simp[hx])) λi y hy j c hc=>by
    obtain⟨u,h1,h2⟩:=h (i+1) y (by simpa using hy) j c hc;exact⟨u,by rw[<- h1];congr 1;rw[pt];omega,by rw[show i0+1+i=i0+(i+1) by omega];exact h2⟩
theorem Xa {w:World}{cur:Array Value}:∀{x:List AV} {S:Nat->Prop} {o:Nat},Ls S w x cur o->∃D:Nat->Nat->Prop,(∀j b,D j b->S b)/\(∀j j' b,D j b->D j' b->j=j')/\
  ∀(j:Nat) c,x[j]?=some c->∃u,cur[o+j]?=some u/\Em (D j) w c u
 | [],_,_,_=>⟨λ_ _=>False,λ_ _ h=>h.elim,λ_ _ _ h=>h.elim,λj c h=>by simp at h⟩
 |c::r,S,o,h=>by
  simp only[Ls]at h;obtain⟨S1,S2,h1,h2,h3,⟨u,h4,h5⟩,h6⟩:=h;obtain⟨D,d1,d2,d3⟩:=Xa h6;refine⟨λj=>match j with|0=>S1|j+1=>D j,λj b hb=>?_,λj j' b hb vF=>?_,λj c' hc=>?_⟩
  .cases j with
   |zero=>exact h1 b hb
   |succ j=>exact h2 b (d1 j b hb)
  .cases j with
   |zero=>
    cases j' with
    |zero=>rfl
    |succ j'=>exact absurd (d1 j' b vF) (h3 b hb)
   |succ j=>
    cases j' with
    |zero=>exact absurd (d1 j b hb) (h3 b vF)
    |succ j'=>rw[d2 j j' b hb vF]
  .cases j with
   |zero=>simp only[ph,pC]at hc;subst hc;exact⟨u,h4,h5⟩
   |succ j=>
    obtain⟨u',g1,g2⟩:=d3 j c' (by simpa using hc);exact⟨u',by rw[<- g1];congr 1;omega,g2⟩
theorem YU {w:World}{cur:Array Value}{size:Nat}:∀{xs:List (List AV)} {S:Nat->Prop} {o:Nat},(∀x∈xs,x.length=size)->Lu S w xs cur o->∃D:Nat->Nat->Nat->Prop,(∀i j b,D i j b->S b)/\
  (∀i j i' j' b,D i j b->D i' j' b->i=i'/\j=j')/\∀(i:Nat) x,xs[i]?=some x->∀(j:Nat) c,x[j]?=some c->∃u,cur[o+i*size+j]?=some u/\Em (D i j) w c u
 | [],_,_,_,_=>⟨λ_ _ _=>False,λ_ _ _ h=>h.elim,λ_ _ _ _ _ h=>h.elim,λi x h=>by simp at h⟩
 |x::r,S,o,hs,h=>by
  simp only[Lu]at h;obtain⟨S1,S2,h1,h2,h3,h4,h5⟩:=h;obtain⟨E,e1,e2,e3⟩:=Xa h4;obtain⟨D,d1,d2,d3⟩:=YU (λx hx=>hs x (by simp[hx])) h5;refine⟨λi=>match i with|0=>E|i+1=>D i,λi j b hb=>?_,λi j i' j' b hb vF=>?_,λi y hy j c hc=>?_⟩
  .cases i with
   |zero=>exact h1 b (e1 j b hb)
   |succ i=>exact h2 b (d1 i j b hb)
  .cases i with
   |zero=>
    cases i' with
    |zero=>exact⟨rfl,e2 j j' b hb vF⟩
    |succ i'=>exact absurd (d1 i' j' b vF) (h3 b (e1 j b hb))
   |succ i=>
    cases i' with
    |zero=>exact absurd (d1 i j b hb) (h3 b (e1 j' b vF))
    |succ i'=>
     obtain⟨q1,q2⟩:=d2 i j i' j' b hb vF;exact⟨by rw[q1],q2⟩
  .cases i with
   |zero=>
    simp only[ph,pC]at hy;subst hy;obtain⟨u,g1,g2⟩:=e3 j c hc;exact⟨u,by rw[<- g1];congr 1;omega,g2⟩
   |succ i=>
    obtain⟨u,g1,g2⟩:=d3 i y (by simpa using hy) j c hc;rw[hs x (by simp)]at g1;exact⟨u,by rw[<- g1];congr 1;rw[pt];omega,g2⟩
variable {P : Program} {F : Nat -> Prop} {os : List Own} {s : St} {a : Act} {w : World} {k : Nat}
theorem Vg {p:Own}(h:Ma F w os p)(hd:Up p.row.xs){v:Value}(hv:(p.GA=none/\∃a,v=.slice a p.row.xs.length 0)∨∃b,p.GA=some b/\v=.slice (some ⟨b,0,none⟩) p.row.xs.length p.cap):
  Em p.owns w (.dv p.row.elem p.row.size p.row.xs) v:=by
 simp only[Em];refine⟨h.pos,?_⟩;rcases hv with ⟨hb,a,rfl⟩|⟨b,hb,rfl⟩
 .have:=(h.none hb).1;exact .inl ⟨this,a,by rw[this];rfl⟩
 .obtain⟨_,cur,uO,ue,hle,vp,uK⟩:=h.some b hb;obtain⟨D,d1,d2,d3⟩:=h.deep;refine .inr ⟨b,p.cap,cur,rfl,hle,vp,.inl hb,uO,ue,λx hx=>(h.lens x hx).1,?_⟩;have:=Zc (w:=w) (cur:=cur) (size:=p.row.size) d2 p.row.xs 0 0 (λx hx=>(h.lens x hx).1) (λi x hx j c hc=>by
   simp only[qO];by_cases hdv :∃e s ys,c=.dv e s ys
   .obtain⟨e,s,ys,rfl⟩:=hdv;exact d3 b hb cur _ _ uO i x j e s ys hx hc
   .obtain⟨u,g1,g2⟩:=uK i x hx j c hc;exact⟨u,g1,ah (hd x (ov hx) c (ov hc)) (λe s ys e'=>hdv ⟨e,s,ys,e'⟩) g2⟩)
  exact QP (λc ⟨i,j,_,hc⟩=>⟨.inr (d1 i j c hc),λe=>(h.mo c (d1 i j c hc)).2.2 (by rw[hb,e])⟩) (λ_ _=>rfl) _ _ _ this
theorem LW {id m g gm size sz n i j nn:Nat}{el xT:TypeId}{xs ys:List (List AV)}{x:List AV}{e:Nat->AV}{st st':List Row}(tv:st[id]?=some ⟨g,el,size,xs⟩)(hx:xs[i]?=some x)(hc:x[j]?=some (.own m gm n))
  (hm:st[m]?=some ⟨gm,xT,sz,ys⟩) (hn:n=ys.length) (uq:id≠m) (xU:k<=m) (hd:Up ys) (uV:(st.set id ⟨g,el,size,xs.set i (x.set j (.dv xT sz ys))⟩).set m ⟨gm+1,xT,sz,[]⟩=st') :
  Wk k ⟨nn,e,st⟩ ⟨nn,e,st'⟩:=λF os a w hr=>by
 subst uV;subst hn;obtain⟨o,ho,hor⟩:=hr.row tv;obtain⟨p,hp,hpr⟩:=hr.row hm;have tz:=hr.rows id o ho;have hpk:=hr.rows m p hp;have uV:os.map Own.row=st:=hr.st;have wQ:o.row.xs=xs:=by rw[hor]
 have hpx:p.row.xs=ys:=by rw[hpr]
 let o':Own:={ o with row:={ o.row with xs:=xs.set i (x.set j (.dv xT sz ys)) },more:=λb=>o.more b∨p.owns b }
 let p':Own:=⟨{ p.row with gen:=p.row.gen+1,xs:=[] },none,0,GF⟩
 have vk:i<xs.length:=(pA.1 hx).1;have yO:j<x.length:=(pA.1 hc).1;have hidl:=(pA.1 ho).1;have hml:=(pA.1 hp).1;have ve:∀b,o.owns b->¬ p.owns b:=λb h1 h2=>uq (hr.inj id m o p b ho hp h1 h2);have uD:∀(q:Nat) (oq:Own),((os.set id o').set m p')[q]?=some oq->(q≠id/\q≠m/\os[q]?=some oq)∨(q=id/\oq=o')∨(q=m/\oq=p'):=λq oq hq=>by
  by_cases e:q=m
  .subst e;rw[pO (by simpa using hml),pC]at hq;exact .inr (.inr ⟨rfl,hq.symm⟩)
  .rw[pd (qv e)]at hq;by_cases e2:q=id
   .subst e2;rw[pO hidl,pC]at hq;exact .inr (.inl ⟨rfl,hq.symm⟩)
   .rw[pd (qv e2)]at hq;exact .inl ⟨e2,e,hq⟩
 have vP:Fp os ((os.set id o').set m p'):=λq oq hq=>by
  by_cases e:q=m
  .subst e;rw[hp]at hq;cases hq;exact⟨p',pO (by simpa using hml),Nat.le_succ _,rfl,λe=>by simp[p']at e⟩
  .rw[pd (qv e)];by_cases e2:q=id
   .subst e2;rw[ho]at hq;cases hq;exact⟨o',pO hidl,pL _,rfl,λ_=>⟨rfl,rfl,by simp[o',wQ]⟩⟩
   .rw[pd (qv e2)];exact⟨oq,hq,pL _,rfl,λ_=>⟨rfl,rfl,rfl⟩⟩
 have uG:∀y v,Ab F w os y v->Ab F w ((os.set id o').set m p') y v:=λy v h=>DW (λ_ h=>h) (λ_ _=>rfl) os _ vP y v h;have howns:∀b,o'.owns b->o.owns b∨p.owns b:=λb hb=>by
  rcases hb with hb|hb|hb
  .exact .inl (.inl hb)
  .exact .inl (.inr hb)
  .exact .inr hb
 have hpn:∀b,¬ p'.owns b:=λb hb=>by
  rcases hb with hb|hb
  .simp[p']at hb
  .exact hb
 obtain⟨bo,hbo⟩ :∃b,o.GA=some b:=by
  cases hb:o.GA with
  |none=>have:=(tz.none hb).1;rw[wQ]at this;rw[this]at vk;simp at vk
  |some b=>exact⟨b,rfl⟩
 obtain⟨zP,cur,uO,ue,hle,vp,uK⟩:=tz.some bo hbo;obtain⟨uv,hu1,xB⟩:=uK i x (by rw[wQ];exact hx) j _ hc;have huv:(p.GA=none/\∃a,uv=.slice a p.row.xs.length 0)∨∃b,p.GA=some b/\uv=.slice (some ⟨b,0,none⟩) p.row.xs.length p.cap:=by
  simp only[Ab]at xB;obtain⟨q,hq,_,_,hv⟩:=xB;rw[hp]at hq;cases hq;have:=(hv (by rw[hpr])).2;rw[hpx]at this⊢;simpa only[qx,sC,se] using this
 have hRD:Em p.owns w (.dv xT sz ys) uv:=by
  have:=Vg hpk (by rw[hpx];exact hd) huv;rw[hpr]at this;exact this
 refine⟨F,(os.set id o').set m p',⟨?_,λt=>uG _ _ (hr.env t),hr.size,λq oq hq=>?_,λq q' oq oq' b hq zT hb vF=>?_,hr.Fu,hr.defers⟩,⟨rfl,rfl,rfl,pL _,λ_ h=>h,λ_ _=>rfl,λb _ h1 h2=>⟨rfl,h1,λoq hoq hb=>?_⟩,λq oq _ hq=>vP q oq hq⟩⟩
 .rw[rN,rN,uV];simp only[o',p',hor,hpr]
 .rcases uD q oq hq with ⟨_,_,h⟩|⟨_,rfl⟩|⟨_,rfl⟩
  .have h0:=hr.rows q oq h;refine⟨h0.pos,h0.lens,h0.none,λb hb=>?_,h0.mo,h0.deep⟩;obtain⟨e1,cur,e2,e3,e4,e5,e6⟩:=h0.some b hb;exact⟨e1,cur,e2,e3,e4,e5,λi' y hy j' c hc=>by obtain⟨u,f1,f2⟩:=e6 i' y hy j' c hc;exact⟨u,f1,uG _ _ f2⟩⟩
  .refine⟨tz.pos,λy hy=>?_,(λhn=>by simp only[o']at hn;rw[hbo]at hn;cases hn),λb hb=>?_,λb hb=>?_,?_⟩
   .rcases qU hy with hy|rfl
    .exact tz.lens y (by rw[wQ];exact hy)
    .have h0:=tz.lens x (by rw[wQ];exact ov hx);refine⟨by rw[tI];exact h0.1,λc wH=>?_⟩;rcases qU wH with h|rfl
     .exact h0.2 c h
     .rfl
   .simp only[o']at hb;rw[hbo]at hb;cases hb;refine⟨zP,cur,uO,ue,by simpa [o',wQ] using hle,vp,λi' y hy j' c xh=>?_⟩;simp only[o']at hy⊢;by_cases hi:i'=i
    .subst hi;rw[pO vk,pC]at hy;subst hy;by_cases hj:j'=j
     .subst hj;rw[pO yO,pC]at xh;subst xh;exact⟨uv,hu1,(Pn hRD).1⟩
     .rw[pd (qv hj)]at xh;obtain⟨u,f1,f2⟩:=uK i' x (by rw[wQ];exact hx) j' c xh;exact⟨u,f1,uG _ _ f2⟩
    .rw[pd (qv hi)]at hy;obtain⟨u,f1,f2⟩:=uK i' y (by rw[wQ];exact hy) j' c xh;exact⟨u,f1,uG _ _ f2⟩
   .rcases hb with hb|hb
    .exact tz.mo b hb
    .exact⟨hpk.nF hb,hpk.lt hb,λe=>ve b (.inl e) hb⟩
   .obtain⟨D,d1,d2,d3⟩:=tz.deep;refine⟨λi' j' b=>if i'=i/\j'=j then p.owns b else D i' j' b,λi' j' b hb=>?_,λi1 j1 i2 j2 b h1 h2=>?_,λb hb wa el2 l vG i' y j' e2 s2 zs hy xh=>?_⟩
    .simp only at hb;split at hb
     .exact .inr hb
     .exact .inl (d1 i' j' b hb)
    .simp only at h1 h2;split at h1<;>split at h2
     .rename_i q1 q2;exact⟨q1.1.trans q2.1.symm,q1.2.trans q2.2.symm⟩
     .exact absurd h1 (ve b (.inr (d1 _ _ _ h2)))
     .exact absurd h2 (ve b (.inr (d1 _ _ _ h1)))
     .exact d2 _ _ _ _ _ h1 h2
    .simp only[o']at hb hy⊢;rw[hbo]at hb;cases hb;rw[uO]at vG;cases vG;by_cases zW:i'=i/\j'=j
     .obtain⟨rfl,rfl⟩:=zW;rw[pO vk,pC]at hy;subst hy;rw[pO yO,pC]at xh;cases xh;exact⟨uv,hu1,by simpa using hRD⟩
     .have hold:∃y0,o.row.xs[i']?=some y0/\y0[j']?=some (.dv e2 s2 zs):=by
       rw[wQ];by_cases hi:i'=i
       .subst hi;rw[pO vk,pC]at hy;subst hy;have hj:j'≠j:=λe=>zW ⟨rfl,e⟩;rw[pd (qv hj)]at xh;exact⟨x,hx,xh⟩
       .rw[pd (qv hi)]at hy;exact⟨y,hy,xh⟩
      obtain⟨y0,hy0,wS⟩:=hold;obtain⟨u,f1,f2⟩:=d3 bo hbo cur _ _ uO i' y0 j' e2 s2 zs hy0 wS;exact⟨u,f1,by simpa only[zW,pV] using f2⟩
  .exact⟨hpk.pos,by simp[p'],by simp[p'],by simp[p'],λb hb=>hb.elim,EJ (by simp[p'])⟩
 .rcases uD q oq hq with ⟨q1,q2,h⟩|⟨rfl,rfl⟩|⟨_,rfl⟩<;>rcases uD q' oq' zT with ⟨q1',q2',h'⟩|⟨rfl,rfl⟩|⟨_,rfl⟩
  .exact hr.inj q q' oq oq' b h h' hb vF
  .rcases howns b vF with e|e
   .exact hr.inj q _ oq o b h ho hb e
   .exact absurd (hr.inj q m oq p b h hp hb e) q2
  .exact absurd vF (hpn b)
  .rcases howns b hb with e|e
   .exact hr.inj _ q' o oq' b ho h' e vF
   .exact absurd (hr.inj m q' p oq' b hp h' e vF).symm q2'
  .rfl
  .exact absurd vF (hpn b)
  .exact absurd hb (hpn b)
  .exact absurd hb (hpn b)
  .exact absurd hb (hpn b)
 .obtain⟨q,hq⟩:=pY.1 hoq;rcases uD q oq hq with ⟨_,_,h⟩|⟨_,rfl⟩|⟨_,rfl⟩
  .exact h2 oq (ov h) hb
  .rcases howns b hb with e|e
   .exact h2 o (ov ho) e
   .exact h2 p (ov hp) e
  .exact hpn b hb
end Go.Abs
namespace Go.Abs
open Go
variable {P : Program} {F : Nat -> Prop} {os : List Own} {s : St} {a : Act} {w : World} {k : Nat}
theorem Z9 {S:Nat->Prop}{el sz:Nat}{ys:List (List AV)}{u:Value}(hS :∀b,S b->¬ F b/\b<w.heap.size)(h:Em S w (.dv el sz ys) u):
  ∃p:Own,p.row=⟨0,el,sz,ys⟩/\(∀b,p.owns b->S b)/\(∀os,Ma F w os p)/\((p.GA=none/\∃a,u=.slice a ys.length 0)∨∃b,p.GA=some b/\u=.slice (some ⟨b,0,none⟩) ys.length p.cap):=by
 simp only[Em]at h;obtain⟨hp,h⟩:=h;rcases h with ⟨rfl,a,rfl⟩|⟨b,cap,cur,rfl,h2,h3,h4,h5,h6,h7,h8⟩
 .refine⟨⟨⟨0,el,sz,[]⟩,none,0,GF⟩,rfl,λb hb=>?_,λos=>⟨hp,by simp,by simp,by simp,λb hb=>hb.elim,EJ (by simp)⟩,.inl ⟨rfl,a,rfl⟩⟩;rcases hb with hb|hb
  .cases hb
  .exact hb.elim
 .obtain⟨D,d1,d2,d3⟩:=YU h7 h8;refine⟨⟨⟨0,el,sz,ys⟩,some b,cap,λc=>S c/\c≠b⟩,rfl,λc hc=>?_,λos=>⟨hp,λx hx=>⟨h7 x hx,λc hc=>?_⟩,by simp,λb' vF=>?_,λc hc=>⟨(hS c hc.1).1,(hS c hc.1).2,λe=>hc.2 (by simpa using e.symm)⟩,⟨D,d1,d2,λb' vF wa el2 l vG i x j e s zs hx hc=>?_⟩⟩,.inr ⟨b,rfl,rfl⟩⟩
  .rcases hc with hc|hc
   .cases hc;exact h4
   .exact hc.1
  .obtain⟨i,hi⟩:=pY.1 hx;obtain⟨j,hj⟩:=pY.1 hc;obtain⟨u,_,g2⟩:=d3 i x hi j c hj;exact (Pn (F:=F) (os:=os) g2).2.1
  .simp only[pC]at vF;subst vF;refine⟨(hS _ h4).1,cur,h5,h6,h2,h3,λi x hx j c hc=>?_⟩;obtain⟨u,g1,g2⟩:=d3 i x hx j c hc;exact⟨u,by simpa using g1,(Pn g2).1⟩
  .simp only[pC]at vF;subst vF;rw[h5]at vG;cases vG;obtain⟨u,g1,g2⟩:=d3 i x hx j _ hc;exact⟨u,by simpa using g1,g2⟩
theorem Tk {id m g size sz n i j nn:Nat}{el xT:TypeId}{xs ys:List (List AV)}{x:List AV}{e:Nat->AV}{st st':List Row}(tv:st[id]?=some ⟨g,el,size,xs⟩)(hx:xs[i]?=some x)(hc:x[j]?=some (.dv xT sz ys))
  (hm:st.length=m) (hn:n=ys.length) (uV:st.set id ⟨g,el,size,xs.set i (x.set j (.own m 0 n))⟩++[⟨0,xT,sz,ys⟩]=st'):Wk k ⟨nn,e,st⟩ ⟨nn,e,st'⟩:=λF os a w hr=>by
 subst uV;subst hn;subst hm;obtain⟨o,ho,hor⟩:=hr.row tv;have tz:=hr.rows id o ho;have uV:os.map Own.row=st:=hr.st;have hol:os.length=st.length:=by rw[<- uV];simp
 have wQ:o.row.xs=xs:=by rw[hor]
 have vk:i<xs.length:=(pA.1 hx).1;have yO:j<x.length:=(pA.1 hc).1;have hidl:=(pA.1 ho).1;obtain⟨bo,hbo⟩ :∃b,o.GA=some b:=by
  cases hb:o.GA with
  |none=>have:=(tz.none hb).1;rw[wQ]at this;rw[this]at vk;simp at vk
  |some b=>exact⟨b,rfl⟩
 obtain⟨zP,cur,uO,ue,hle,vp,uK⟩:=tz.some bo hbo;obtain⟨D,d1,d2,d3⟩:=tz.deep;obtain⟨uv,hu1,xB⟩:=d3 bo hbo cur _ _ uO i x j xT sz ys (by rw[wQ];exact hx) hc;obtain⟨p,hpr,hpo,hpk,hpv⟩:=Z9 (F:=F) (λb hb=>⟨(tz.mo b (d1 _ _ _ hb)).1,(tz.mo b (d1 _ _ _ hb)).2.1⟩) xB
 let o':Own:={ o with row:={ o.row with xs:=xs.set i (x.set j (.own st.length 0 ys.length)) },more:=λb=>o.more b/\¬ D i j b }
 have uD:∀(q:Nat) (oq:Own),(os.set id o'++[p])[q]?=some oq->(q≠id/\q<os.length/\os[q]?=some oq)∨(q=id/\oq=o')∨(q=os.length/\oq=p):=λq oq hq=>by
  rcases qk q os.length with h|h|h
  .rw[pM (by simpa using h)]at hq;by_cases e2:q=id
   .subst e2;rw[pO hidl,pC]at hq;exact .inr (.inl ⟨rfl,hq.symm⟩)
   .rw[pd (qv e2)]at hq;exact .inl ⟨e2,h,hq⟩
  .subst h;rw[pN (by simp)]at hq;simp at hq;exact .inr (.inr ⟨rfl,hq.symm⟩)
  .rw[qA (by simp;omega)]at hq;cases hq
 have hpget:(os.set id o'++[p])[st.length]?=some p:=by
  rw[pN (by simp;omega)];simp[hol]
 have vP:Fp os (os.set id o'++[p]):=λq oq hq=>by
  have hql:=(pA.1 hq).1;rw[pM (by simpa using hql)];by_cases e2:q=id
  .subst e2;rw[ho]at hq;cases hq;exact⟨o',pO hidl,pL _,rfl,λ_=>⟨rfl,rfl,by simp[o',wQ]⟩⟩
  .rw[pd (qv e2)];exact⟨oq,hq,pL _,rfl,λ_=>⟨rfl,rfl,rfl⟩⟩
 have uG:∀y v,Ab F w os y v->Ab F w (os.set id o'++[p]) y v:=λy v h=>DW (λ_ h=>h) (λ_ _=>rfl) os _ vP y v h;have ho'o :∀b,o'.owns b->o.owns b:=λb hb=>by
  rcases hb with hb|hb
  .exact .inl hb
  .exact .inr hb.1
 have hpoo:∀b,p.owns b->o.owns b:=λb hb=>.inr (d1 _ _ _ (hpo b hb));have ve:∀b,o'.owns b->¬ p.owns b:=λb h1 h2=>by
  have h3:=hpo b h2;rcases h1 with h1|h1
  .exact (tz.mo b (d1 _ _ _ h3)).2.2 h1
  .exact h1.2 h3
 have hnew:Ab F w (os.set id o'++[p]) (.own st.length 0 ys.length) uv:=by
  simp only[Ab];refine⟨p,hpget,pT _,?_,λ_=>⟨by rw[hpr];exact pL _,by rw[hpr];simpa only[qx,sC,se] using hpv⟩⟩;rcases hpv with ⟨_,a,rfl⟩|⟨b,_,rfl⟩<;>exact⟨_,_,_,rfl⟩
 refine⟨F,os.set id o'++[p],⟨?_,λt=>uG _ _ (hr.env t),hr.size,λq oq hq=>?_,λq q' oq oq' b hq zT hb vF=>?_,hr.Fu,hr.defers⟩,⟨rfl,rfl,rfl,pL _,λ_ h=>h,λ_ _=>rfl,λb _ h1 h2=>⟨rfl,h1,λoq hoq hb=>?_⟩,λq oq _ hq=>vP q oq hq⟩⟩
 .rw[qu,rN,uV];simp only[o',hor,pc,qt,hpr]
 .rcases uD q oq hq with ⟨_,_,h⟩|⟨_,rfl⟩|⟨_,rfl⟩
  .have h0:=hr.rows q oq h;refine⟨h0.pos,h0.lens,h0.none,λb hb=>?_,h0.mo,h0.deep⟩;obtain⟨e1,cur,e2,e3,e4,e5,e6⟩:=h0.some b hb;exact⟨e1,cur,e2,e3,e4,e5,λi' y hy j' c hc=>by obtain⟨u,f1,f2⟩:=e6 i' y hy j' c hc;exact⟨u,f1,uG _ _ f2⟩⟩
  .refine⟨tz.pos,λy hy=>?_,(λhn=>by simp only[o']at hn;rw[hbo]at hn;cases hn),λb hb=>?_,λb hb=>tz.mo b hb.1,?_⟩
   .rcases qU hy with hy|rfl
    .exact tz.lens y (by rw[wQ];exact hy)
    .have h0:=tz.lens x (by rw[wQ];exact ov hx);refine⟨by rw[tI];exact h0.1,λc wH=>?_⟩;rcases qU wH with h|rfl
     .exact h0.2 c h
     .rfl
   .simp only[o']at hb;rw[hbo]at hb;cases hb;refine⟨zP,cur,uO,ue,by simpa [o',wQ] using hle,vp,λi' y hy j' c xh=>?_⟩;simp only[o']at hy⊢;by_cases hi:i'=i
    .subst hi;rw[pO vk,pC]at hy;subst hy;by_cases hj:j'=j
     .subst hj;rw[pO yO,pC]at xh;subst xh;exact⟨uv,hu1,hnew⟩
     .rw[pd (qv hj)]at xh;obtain⟨u,f1,f2⟩:=uK i' x (by rw[wQ];exact hx) j' c xh;exact⟨u,f1,uG _ _ f2⟩
    .rw[pd (qv hi)]at hy;obtain⟨u,f1,f2⟩:=uK i' y (by rw[wQ];exact hy) j' c xh;exact⟨u,f1,uG _ _ f2⟩
   .refine⟨λi' j' b=>if i'=i/\j'=j then False else D i' j' b,λi' j' b hb=>?_,λi1 j1 i2 j2 b h1 h2=>?_,λb hb wa el2 l vG i' y j' e2 s2 zs hy xh=>?_⟩
    .simp only at hb;split at hb
     .exact hb.elim
     .rename_i zW;exact⟨d1 i' j' b hb,λh=>zW (d2 _ _ _ _ _ hb h)⟩
    .simp only at h1 h2;split at h1<;>split at h2<;>first|exact h1.elim|exact h2.elim|exact d2 _ _ _ _ _ h1 h2
    .simp only[o']at hb hy⊢;rw[hbo]at hb;cases hb;rw[uO]at vG;cases vG;have hold:(¬ (i'=i/\j'=j))/\∃y0,o.row.xs[i']?=some y0/\y0[j']?=some (.dv e2 s2 zs):=by
      rw[wQ];by_cases hi:i'=i
      .subst hi;rw[pO vk,pC]at hy;subst hy;by_cases hj:j'=j
       .subst hj;rw[pO yO,pC]at xh;cases xh
       .rw[pd (qv hj)]at xh;exact⟨λh=>hj h.2,x,hx,xh⟩
      .rw[pd (qv hi)]at hy;exact⟨λh=>hi h.1,y,hy,xh⟩
     obtain⟨zW,y0,hy0,wS⟩:=hold;obtain⟨u,f1,f2⟩:=d3 bo hbo cur _ _ uO i' y0 j' e2 s2 zs hy0 wS;exact⟨u,f1,by simpa only[zW,pV] using f2⟩
  .exact hpk _
 .rcases uD q oq hq with ⟨q1,q2,h⟩|⟨rfl,rfl⟩|⟨rfl,rfl⟩<;>rcases uD q' oq' zT with ⟨q1',q2',h'⟩|⟨rfl,rfl⟩|⟨rfl,rfl⟩
  .exact hr.inj q q' oq oq' b h h' hb vF
  .exact hr.inj q _ oq o b h ho hb (ho'o b vF)
  .exact absurd (hr.inj q id oq o b h ho hb (hpoo b vF)) q1
  .exact hr.inj _ q' o oq' b ho h' (ho'o b hb) vF
  .rfl
  .exact absurd vF (ve b hb)
  .exact absurd (hr.inj id q' o oq' b ho h' (hpoo b hb) vF).symm q1'
  .exact absurd hb (ve b vF)
  .rfl
 .obtain⟨q,hq⟩:=pY.1 hoq;rcases uD q oq hq with ⟨_,_,h⟩|⟨_,rfl⟩|⟨_,rfl⟩
  .exact h2 oq (ov h) hb
  .exact h2 o (ov ho) (ho'o b hb)
  .exact h2 o (ov ho) (hpoo b hb)
variable {α β : Type} {l : List α} {enc : α -> List AV}
def hole (l:List α)(enc:α->List AV)(i:Int)(x:List AV):List (List AV):=(l.map enc).set i.toNat x
theorem db {i:Int}{u:α}{x:List AV}(h:x=enc u):hole l enc i x=(Sh.put l i u).map enc:=by subst h;exact bZ
theorem L4 {i:Int}{u:α}{x:List AV}(h:Sh.get l i=some u):(hole l enc i x)[i.toNat]?=some x:=by
 have:=(Sh.get_some h).2.2;have h0:=(Sh.get_some h).1;exact pO (by simp;omega)
theorem Ut {i:Int}{x y:List AV}:(hole l enc i x).set i.toNat y=hole l enc i y:=by unfold hole;rw[List.set_set]
theorem QJ {id m g size sz nn j:Nat}{el xT:TypeId}{i:Int}{c:α}{ys:List β}{encY:β->List AV}{x x':List AV}{e:Nat->AV}{st st':List Row}(tv:st[id]?=some ⟨g,el,size,l.map enc⟩)(hi:Sh.get l i=some c)(hx:enc c=x)(hc:x[j]?=some (.dv xT sz (ys.map encY)))
  (hm:st.length=m) (xS:x.set j (.own m 0 ys.length)=x') (uV:st.set id ⟨g,el,size,hole l enc i x'⟩++[⟨0,xT,sz,ys.map encY⟩]=st'):Wk k ⟨nn,e,st⟩ ⟨nn,e,st'⟩:=by
 subst uV;subst xS;subst hx;exact Tk tv (CQ hi) hc hm (n:=ys.length) (by simp) rfl
theorem Wk.take {id m g gm size sz nn j n:Nat}{el xT:TypeId}{i:Int}{c:α}{ys:List β}{encY:β->List AV}{x x':List AV}{e:Nat->AV}{st st':List Row}(tv:st[id]?=some ⟨g,el,size,hole l enc i x⟩)(hi:Sh.get l i=some c)(hc:x[j]?=some (.own m gm n))
  (hm:st[m]?=some ⟨gm,xT,sz,ys.map encY⟩) (hn:n=ys.length) (uq:id≠m) (xU:k<=m) (hd :∀y,(encY y).all QX=true) (xS:x.set j (.dv xT sz (ys.map encY))=x') (uV:(st.set id ⟨g,el,size,hole l enc i x'⟩).set m ⟨gm+1,xT,sz,[]⟩=st') :
  Wk k ⟨nn,e,st⟩ ⟨nn,e,st'⟩:=by
 subst uV;subst xS;refine LW tv (L4 hi) hc hm (by simpa using hn) uq xU (λy hy c hc=>?_) (by rw[Ut]);obtain⟨z,_,rfl⟩:=pQ.1 hy;exact pG.1 (hd z) c hc
theorem TY {id g size nn:Nat}{el:TypeId}{i:Int}{u:α}{x:List AV}{e:Nat->AV}{st st':List Row}(tv:st[id]?=some ⟨g,el,size,hole l enc i x⟩)(hx:x=enc u)(uV:st.set id ⟨g,el,size,(Sh.put l i u).map enc⟩=st'):Wk k ⟨nn,e,st⟩ ⟨nn,e,st'⟩:=by
 rw[db hx]at tv;have:st.set id ⟨g,el,size,(Sh.put l i u).map enc⟩=st:=by
  obtain⟨h1,h2⟩:=pA.1 tv;rw[<- h2];exact sV h1
 rw[this]at uV;exact GB uV
section
variable {ops : Array Oper} {Q : Exit -> St -> Prop} {ds : List (Option Tmp)} {r : List Oper} {n : Nat} {e : Nat -> AV} {st st' : List Row} {ty : TypeId} {ps : String} {ed : Array Edge} {t : Tmp} {v : AV} {gd : Option (Nat × Bool)} {T : TypeId} {x y : Operand} {ag : Bool} {sz id g size : Nat} {el : TypeId} {cs : List AV} {c : α} {i : Int}
end
end Go.Abs
namespace Go.Abs
open Go
variable {P : Program} {F : Nat -> Prop} {os : List Own} {s : St} {a : Act} {w : World} {k : Nat}
section
variable {α : Type} {l : List α} {enc : α -> List AV}
variable {ops : Array Oper} {Q : Exit -> St -> Prop} {ds : List (Option Tmp)} {r : List Oper} {n : Nat} {e : Nat -> AV} {st st' : List Row} {ty : TypeId} {ps : String} {ed : Array Edge} {t : Tmp} {T : TypeId} {x y : Operand} {m bytes size : Nat} {el : TypeId} {zz : List AV} {u : α} {j : Int} {kk yh : IntKind}
end
end Go.Abs
namespace Go.Abs
open Go
variable {P : Program} {F : Nat -> Prop} {os : List Own} {s : St} {a : Act} {w : World} {k : Nat}
variable {α β : Type} {l : List α} {enc : α -> List AV}
theorem NM {id g size nn:Nat}{el:TypeId}{i:Int}{c:α}{x:List AV}{e:Nat->AV}{st st':List Row}(tv:st[id]?=some ⟨g,el,size,hole l enc i x⟩)(hi:Sh.get l i=some c)(hx:x=enc c)(uV:st.set id ⟨g,el,size,l.map enc⟩=st'):Wk k ⟨nn,e,st⟩ ⟨nn,e,st'⟩:=by
 have h2:hole l enc i x=l.map enc:=by
  subst hx;unfold hole;have:=CQ (enc:=enc) hi;obtain⟨h1,h2⟩:=pA.1 this;rw[<- h2];exact sV h1
 rw[h2]at tv;have:st.set id ⟨g,el,size,l.map enc⟩=st:=by
  obtain⟨h1,h2⟩:=pA.1 tv;rw[<- h2];exact sV h1
 rw[this]at uV;exact GB uV
end Go.Abs
namespace Go.Abs
open Go
theorem cS {α:Type}{l l':List α}{c:α}{b:Nat}(h:Sh.app l [c] b=some l'):Sh.get l' (Sh.len l)=some c:=by
 unfold Sh.app at h;split at h
 .simp only[pC]at h;subst h;unfold Sh.get Sh.len;rw[pI (sM _)];simp
 .cases h
section
variable {P : Program} {k : Nat} {α : Type} {l l' : List α} {enc : α -> List AV} {c : α}
variable {ops : Array Oper} {Q : Exit -> St -> Prop} {ds : List (Option Tmp)} {r : List Oper} {n : Nat} {e : Nat -> AV} {st st' : List Row} {ty : TypeId} {ps : String} {ed : Array Edge} {t : Tmp} {gd : Option (Nat × Bool)} {T : TypeId} {x y : Operand} {bytes size id g m q gq size' : Nat} {el xT : TypeId} {zz cs : List AV}
theorem fr (hg:GO ds gd e)(he:DB P T=some ⟨el,size,bytes,zz⟩)(hx:St.ev ⟨n,e,st⟩ x=.own id g m)(hr:st[id]?=some ⟨g,el,size,l.map enc⟩)(hm:m=l.length)(hy:St.ev ⟨n,e,st⟩ y=.own q gq 1)(hq:st[q]?=some ⟨gq,xT,size',[cs]⟩)
  (vS:cs.all AV.leaf=true) (vq:cs.length=size) (ha:Sh.app l [c] bytes=some l') (uV:st.set id ⟨g+1,el,size,hole l' enc (Sh.len l) cs⟩=st') (hk:AO P k ops Q (ds++[some t]) r ⟨n,DQ e t (.own id (g+1) l'.length),st'⟩) :
  AO P k ops Q ds (⟨some t,.call ⟨.builtin .append,#[x,y],#[T,T]⟩,ty,ps,ed,gd⟩::r) ⟨n,e,st⟩:=by
 subst uV;subst hm;refine NO hg ?_;rw[XL];refine⟨rfl,?_⟩;rw[hx,hy];unfold Sh.app at ha;split at ha
 .rename_i h;simp only[pC]at ha;subst ha;refine Ak _ he (Ak _ hq ⟨rfl,λz hz c hc=>?_,rfl,λz hz=>?_,Ak _ hr ⟨rfl,(pR _).symm,rfl,rfl,by simpa using h.1,by simpa using h.2,?_⟩⟩)
  .simp only[pS]at hz;subst hz;exact pG.1 vS c hc
  .simp only[List.take_one,List.head?_cons,Option.toList_some,pS]at hz;subst hz;exact vq
  .have e1:(l.map enc).take l.length=l.map enc:=by rw[<- pR (f:=enc) (as:=l),qq]
   have e3:List.map enc l++[cs]=hole (l++[c]) enc (Sh.len l) cs:=by simp[hole,Sh.len]
   simp only[e1,List.take_one,List.head?_cons,Option.toList_some,e3,rr];rw[show l.length+1=(l++[c]).length by simp];exact hk
 .cases ha
end
end Go.Abs
namespace Go.Abs
open Go
variable {P : Program} {F : Nat -> Prop} {os : List Own} {s : St} {a : Act} {w : World} {k : Nat}
def Pv (id g:Nat)(xs:List (List AV)):AV->AV
 |.own vH g' n=>if vH=id/\g'=g then (if n=xs.length then .sl (LL xs) else .FZ) else .own vH g' n
 |v=>v
def eh (id g:Nat)(xs:List (List AV)):AV->AV
 |.agg cs=>.agg (cs.map (Pv id g xs))
 |.C8 cs=>.C8 (cs.map (Pv id g xs))
 |v=>Pv id g xs v
theorem Wk.jO {id:Nat}{row:Row}(xA:k<=id)(tv:s.st[id]?=some row)(hp:Up row.xs):
  Wk k s ⟨s.n,λt=>eh id row.gen row.xs (s.env t),s.st.set id { row with gen:=row.gen+1,xs:=[] }⟩:=λF os a w hr=>by
 obtain⟨o,ho,rfl⟩:=hr.row tv;have tz:=hr.rows id o ho;refine⟨λb=>F b∨o.owns b,os.set id ⟨{ o.row with gen:=o.row.gen+1,xs:=[] },none,0,GF⟩,?_,?_⟩
 case refine_2=>
  refine⟨rfl,rfl,rfl,pL _,λ_ h=>.inl h,λ_ _=>rfl,λb _ h1 h2=>⟨rfl,λh=>h.elim h1 (λe=>h2 o (ov ho) e),λo' uw=>?_⟩,λi oi hi xL=>⟨oi,?_,pL _,rfl,λ_=>⟨rfl,rfl,rfl⟩⟩⟩
  .rcases qU uw with h|rfl
   .exact h2 o' h
   .intro hh;rcases hh with hh|hh
    .simp at hh
    .exact hh
  .rw[pd (by omega)];exact xL
 have hF:∀b,F b->(λb=>F b∨o.owns b) b:=λ_ h=>.inl h;have vP:Fp os (os.set id ⟨{ o.row with gen:=o.row.gen+1,xs:=[] },none,0,GF⟩):=Fp.set ho (by simp) rfl (λe=>by simp at e);have uG:∀x v,Ab F w os x v->Ab (λb=>F b∨o.owns b) w (os.set id ⟨{ o.row with gen:=o.row.gen+1,xs:=[] },none,0,GF⟩) x v:=λx v h=>
  DW hF (λ_ _=>rfl) os _ vP x v h
 have h1:∀x v,Ab F w os x v->Ab (λb=>F b∨o.owns b) w (os.set id ⟨{ o.row with gen:=o.row.gen+1,xs:=[] },none,0,GF⟩) (Pv id o.row.gen o.row.xs x) v:=λx v h=>by
  cases x with
  |own vH g' n=>
   simp only[Pv];split
   .rename_i hif;obtain⟨rfl,rfl⟩:=hif;split
    .rename_i zS;subst zS;simp only[Ab]at h;obtain⟨o',uw,_,_,h⟩:=h;rw[ho]at uw;cases uw;obtain⟨_,hv⟩:=h rfl;have hD:=Vg tz hp (v:=v) (by simpa only[qx,sC,se] using hv);have:=(Uj (F:=λb=>F b∨o.owns b) (λb hb=>.inr hb) _ _ hD).1;simp only[QA,Ab]at this⊢;exact this
    .simp[Ab]
   .exact uG _ _ h
  |_=>exact uG _ _ h
 have hL:∀xs us,Br F w os xs us->Br (λb=>F b∨o.owns b) w (os.set id ⟨{ o.row with gen:=o.row.gen+1,xs:=[] },none,0,GF⟩) (xs.map (Pv id o.row.gen o.row.xs)) us:=λxs us h=>
  Db (by simp[BX h]) λi x u hx hu=>by
   simp only[pB,pH]at hx;obtain⟨y,hy,rfl⟩:=hx;obtain⟨u',e1,e2⟩:=CH h i y hy;rw[hu]at e1;cases e1;exact h1 _ _ e2
 have uD:∀(i:Nat) (oi:Own),(os.set id ⟨{ o.row with gen:=o.row.gen+1,xs:=[] },none,0,GF⟩)[i]?=some oi->(i≠id/\os[i]?=some oi)∨(i=id/\oi=⟨{ o.row with gen:=o.row.gen+1,xs:=[] },none,0,GF⟩):=λi oi hi=>by
  by_cases e:i=id
  .subst e;rw[pO (pA.1 ho).1,pC]at hi;exact .inr ⟨rfl,hi.symm⟩
  .rw[pd (qv e)]at hi;exact .inl ⟨e,hi⟩
 refine⟨by rw[rN,hr.st],λt=>?_,hr.size,λi oi hi=>?_,λi j oi oj b hi hj wJ wK=>?_,λb hb=>?_,hr.defers⟩
 .have:=hr.env t;simp only;generalize s.env t=x at this⊢;cases x with
  |agg cs=>simp only[eh,Ab]at this⊢;obtain⟨us,e,h⟩:=this;exact⟨us,e,hL _ _ h⟩
  |C8 cs=>simp only[eh,Ab]at this⊢;obtain⟨us,e,h⟩:=this;exact⟨us,e,hL _ _ h⟩
  |_=>exact h1 _ _ this
 .rcases uD i oi hi with ⟨uq,h⟩|⟨_,rfl⟩
  .have wT:=hr.rows i oi h;refine⟨wT.pos,wT.lens,wT.none,λb hb=>?_,λb hb=>⟨λhF=>hF.elim (wT.mo b hb).1 (λxN=>uq (hr.inj i id oi o b h ho (.inr hb) xN)),(wT.mo b hb).2⟩,wT.deep⟩;obtain⟨e1,cur,e2,e3,e4,e5,e6⟩:=wT.some b hb;refine⟨λhF=>hF.elim e1 (λxN=>uq (hr.inj i id oi o b h ho (.inl hb) xN)),cur,e2,e3,e4,e5,λi' x hx j c hc=>?_⟩;obtain⟨u,f1,f2⟩:=e6 i' x hx j c hc;exact⟨u,f1,uG _ _ f2⟩
  .exact⟨tz.pos,by simp,by simp,by simp,λb hb=>hb.elim,EJ (by simp)⟩
 .rcases uD i oi hi with ⟨uq,h⟩|⟨h,rfl⟩<;>rcases uD j oj hj with ⟨hne',h'⟩|⟨h',rfl⟩
  .exact hr.inj i j oi oj b h h' wJ wK
  .exact wK.elim (λe=>by simp at e) λe=>e.elim
  .exact wJ.elim (λe=>by simp at e) λe=>e.elim
  .omega
 .rcases hb with hb|hb|hb
  .exact hr.Fu b hb
  .obtain⟨_,cur,uO,_⟩:=tz.some b hb;exact (px.1 uO).1
  .exact (tz.mo b hb).2.1
variable {α : Type} {l : List α} {enc vr : α -> List AV} {n id g m size : Nat} {e : Nat -> AV} {st st' : List Row} {L : List (Nat × AV)} {el : TypeId} {xs : List (List AV)}
theorem XB (h:m=l.length)(hu :∀x,IQ (enc x)=vr x):Pv id g (l.map enc) (.own id g m)=.sl (l.map vr):=by
 subst h;simp only[Pv,and_self,pq,pR];rw[Ib,rF];congr 1;exact pf λx _=>hu x
theorem le.Pv (h:m=l.length)(hu :∀x,IQ (enc x)=vr x):le (Abs.Pv id g (l.map enc) (.own id g m)) (.sl (l.map vr)):=le.of (XB h hu)
theorem le.eh (h:m=l.length)(hu :∀x,IQ (enc x)=vr x):le (Abs.eh id g (l.map enc) (.own id g m)) (.sl (l.map vr)):=le.of (XB h hu)
theorem J3 (h :∀x,(enc x).all QX=true):Up (l.map enc):=λx hx c hc=>by
 obtain⟨y,_,rfl⟩:=pQ.1 hx;exact pG.1 (h y) c hc
theorem Sr (tv:st[id]?=some ⟨g,el,size,xs⟩)(xA:k<=id)(hp:Up xs)(h:ME (λt=>Abs.eh id g xs (e t)) L)(uV:st.set id ⟨g+1,el,size,[]⟩=st'):Wk k ⟨n,e,st⟩ ⟨n,AP L,st'⟩:=by
 subst uV;exact (Wk.jO (s:=⟨n,e,st⟩) xA tv hp).trans (Ag h)
end Go.Abs
namespace Go.Abs
open Go
variable {P : Program} {F : Nat -> Prop} {os : List Own} {s : St} {a : Act} {w : World} {k : Nat}
def mr (x:AV):AV:=bif flat x then x else .FZ
theorem jR {F':Nat->Prop}{w':World}(hF :∀b,F b->F' b)(hw :∀b,F b->w'.heap[b]?=w.heap[b]?)(os':List Own){x:AV}{v:Value}(h:Ab F w os x v):Ab F' w' os' (mr x) v:=by
  unfold mr;cases hf:flat x with
  |false=>simp[Ab]
  |true=>exact KD hf os' (DW hF hw [] [] (by simp) x v (KD hf [] h))
def lY (x:AV):AV:=bif flat x then x else match x with
  |.ptr (id+1) g i off=>.ptr (id+1) g i off
  |_=>.FZ
theorem kN {F':Nat->Prop}{w':World}(hF :∀b,F b->F' b)(hw :∀b,F b->w'.heap[b]?=w.heap[b]?){o o':Own}{wg:List Own}{x:AV}{v:Value}(h:Ab F w (o::wg) x v):Ab F' w' (o'::wg) (lY x) v:=by
  unfold lY;cases hf:flat x with
  |true=>exact KD hf _ (DW hF hw [] [] (by simp) x v (KD hf [] h))
  |false=>
    cases x<;>simp only[cond_false]<;>try simp[Ab]
    rename_i id g i off;cases id with
    |zero=>simp[Ab]
    |succ id=>
      simp only[Ab,py]at h⊢;exact h
theorem Te {P:Program}{ops:Array Oper}{md:Region.Mode}{Q Q':Exit->Act->World->Prop}(hp :∀c a w,Q (.panic c) a w->Q' (.panic c) a w)(yR:LetsOut Q->LetsOut Q')(hn :∀a w,Q .normal a w->Q' .normal a w):
    ∀(fuel:Nat) {tm:Array Bool} {a:Act} {w:World},wpAny P md ops Q fuel tm a w->wpAny P md ops Q' fuel tm a w
  |0,_,_,_,h=>⟨h.1,hn _ _ h.2⟩
  |fuel+1,tm,a,w,h=>by
    refine⟨λh0=>hn _ _ (h.1 h0),λi hi=>?_⟩;have:=h.2 i hi;unfold wpOp at this⊢;split
    · rename_i ho;simp only[ho]at this;exact Te hp yR hn fuel this
    · rename_i o ho;simp only[ho]at this;split
      · rename_i hw;rw[pI hw]at this;exact this.imp (λh=>PG hp yR (Oper.wp_mono (λa w h=>Te hp yR hn fuel h) h)) λh=>⟨h.1,yR h.2⟩
      · rename_i hw;rw[pJ hw]at this;exact Te hp yR hn fuel this
def gC (row yE:Row)(Q:Exit->St->Prop):Exit->St->Prop:=λex s'=>(∃r,s'.st=yE::r)/\Q ex ⟨s'.n,λt=>mr (s'.env t),[row]⟩
theorem Sq {xs:List (List AV)}(hp:ET xs){o:Own}(tz:Ma F w os o)(hx:o.row.xs=xs):∀x∈xs,∀c∈x,c.leaf=true:=λx hm c hc=>by
  have h1:=hp x hm c hc;have h2:=(tz.lens x (by rw[hx];exact hm)).2 c hc;cases c<;>simp_all [simple,AV.leaf,AV.kept]
theorem gp {Q:Exit->St->Prop}{o:Own}{wg:List Own}{g:Nat}{el:TypeId}{size b0:Nat}{xs ys:List (List AV)}(hp:ET (xs++ys))(tv:o.row=⟨g,el,size,xs⟩)(hb0:o.GA=some b0)(zP:¬ F b0){w1:World}(ht:HA w w1 (some b0))
    {e:Exit} {a':Act} {w':World} (h:K0 1 (gC ⟨g,el,size,xs⟩ ⟨g,el,size,xs++ys⟩ Q) F (⟨⟨g,el,size,xs++ys⟩,some b0,o.cap,o.more⟩::wg) w1 e a' w') (hold :∀b,F b->b<w.heap.size):K0 1 Q F (o::wg) w e a' w':=by
  obtain⟨s',F',os',⟨⟨rst',uV⟩,hQ⟩,hR,hE⟩:=h;have vP:∃o' ros',os'=o'::ros'/\o'.row=⟨g,el,size,xs++ys⟩:=by
    have:=hR.st;rw[uV]at this;cases os' with
    |nil=>cases this
    |cons o' ros'=>
      simp only[pc,rp]at this;exact⟨o',ros',rfl,this.1⟩
  obtain⟨o',ros',rfl,hrow'⟩:=vP;obtain⟨o2,e2,_,_,e3⟩:=hE.Vn 0 _ (by omega) rfl;simp only[ph,pC]at e2;subst e2;obtain⟨e4,e5,_⟩:=e3 (by rw[hrow']);dsimp only at e4 e5;have hok':=hR.rows 0 o' rfl;have vS:=Sq hp hok' (by rw[hrow']);have hF:∀b,F b->w1.heap[b]?=w.heap[b]?:=λb hb=>ht.Fu b (hold b hb) (λe=>zP (by cases e;exact hb));refine⟨_,F',[{ o' with row:=⟨g,el,size,xs⟩ }],hQ,⟨rfl,λt=>jR (λ_ h=>h) (λ_ _=>rfl) _ (hR.env t),hR.size,λi oi hi=>?_,λi j oi oj b hi hj wJ wK=>?_,hR.Fu,hR.defers⟩,?_⟩
  · match i,hi with
    |0,hi=>
      simp only[ph,pC]at hi;subst hi;refine⟨by have:=hok'.pos;rw[hrow']at this;exact this,λx hx=>?_,λhn=>(by rw[e4]at hn;cases hn),λb hb=>?_,λb hb=>hok'.mo b hb,EJ λx hx c hc=>vS x (qN _ hx) c hc⟩
      · have:=hok'.lens x (by rw[hrow'];exact qN _ hx);rw[hrow']at this;exact this
      · obtain⟨h1,cur,h2,h3,h4,h5,h6⟩:=hok'.some b hb;rw[hrow']at h2 h3 h4 h6;refine⟨h1,cur,h2,h3,by simp only[pU]at h4⊢;omega,h5,λi x hx j c hc=>?_⟩;obtain⟨u,f1,f2⟩:=h6 i x (by simp only at hx⊢;rw[pM (pA.1 hx).1];exact hx) j c hc;exact⟨u,f1,GI (hp x (qN _ (ov hx)) c (ov hc)) _ f2⟩
  · match i,j,hi,hj with
    |0,0,_,_=>rfl
  · refine⟨hE.sys.trans ht.sys,hE.tape.trans ht.tape,hE.output.trans ht.output,rl ht.size hE.size,hE.Ny,λb hb=>(hE.Ix b hb).trans (hF b hb),λb hb h1 h2=>?_,λi oi hi xL=>?_⟩
    · have uq:b≠b0:=λe=>h2 o (by simp) (.inl (by rw[e];exact hb0));have hnm:¬ o.more b:=λhm=>h2 o (by simp) (.inr hm);obtain⟨f1,f2,f3⟩:=hE.other b (qK hb ht.size) h1 (λq hq xN=>by
        rcases pK.1 hq with rfl|hq
        · rcases xN with xN|xN
          · simp only[pC]at xN;exact uq xN.symm
          · exact hnm xN
        · exact h2 q (by simp[hq]) xN)
      refine⟨f1.trans (ht.Fu b hb (λe=>uq (by cases e;rfl))),f2,λq hq xN=>?_⟩;simp only[pS]at hq;subst hq;exact f3 o' (by simp) xN
    · match i,xL with
      |0,xL=>
        simp only[ph,pC]at xL;subst xL;exact⟨_,rfl,by rw[tv];exact pL _,by rw[tv],λ_=>⟨by rw[hb0];exact e4,e5,by rw[tv]⟩⟩
      |_+1,_=>omega
theorem bE {t ty:TypeId}{ei:eP}{g:Nat}{xs:List (List AV)}{ys:List (List AV)}{y:AV}{ux ud:Value}(hr:Rel F os s a w){ym:List Row}(uV:s.st=⟨g,ei.e,ei.size,xs⟩::ym)(hrst :∀row∈ym,ET row.xs)(he:DB P t=some ei)
    (hd:Ab F w os (.own 0 g xs.length) ud) (hx:Ab F w os y ux) (hel:EL s.st y ys) (hys :∀z∈ys,z.length=ei.size) (hp:ET (xs++ys)) (uq:ys≠[]) (hb:(xs.length+ys.length)*ei.bytes<=140737488355328) (hm:xs.length+ys.length<=9223372036854775807) :
    ∃o wg u w',os=o::wg/\o.row=⟨g,ei.e,ei.size,xs⟩/\(Builtin.append_ #[t,t] ty #[ud,ux]).run P w=.ok u w'/\
      ((∃b0,o.GA=some b0/\¬ F b0/\HA w w' (some b0)/\Rel F (⟨⟨g,ei.e,ei.size,xs++ys⟩,some b0,o.cap,o.more⟩::wg) ⟨s.n,λt=>lY (s.env t),⟨g,ei.e,ei.size,xs++ys⟩::ym⟩ a w'/\
          u=.slice (some ⟨b0,0,none⟩) (xs.length+ys.length) o.cap)∨
       (∃cap,Rel F (os++[⟨⟨0,ei.e,ei.size,xs++ys⟩,some w.heap.size,cap,GF⟩]) { s with st:=s.st++[⟨0,ei.e,ei.size,xs++ys⟩] } a w'/\Ext F os w F (os++[⟨⟨0,ei.e,ei.size,xs++ys⟩,some w.heap.size,cap,GF⟩]) w' k/\
          u=.slice (some ⟨w.heap.size,0,none⟩) (xs.length+ys.length) cap)):=by
  obtain⟨inf,z,hu,hi,hz,wb,uz,ue,hby,_,_⟩:=HP he;obtain⟨wv,h,hys',zR,⟨ad,c,rfl,hsrc⟩⟩:=YF (size:=ei.size) (K:=λz=>z=ys) hr (hel _ ⟨hys,rfl⟩) hx;subst h;have vP:∃o wg,os=o::wg/\o.row=⟨g,ei.e,ei.size,xs⟩/\wg.map Own.row=ym:=by
    have:=hr.st;rw[uV]at this;cases os with
    |nil=>cases this
    |cons o wg=>
      simp only[pc,rp]at this;exact⟨o,wg,rfl,this.1,this.2⟩
  obtain⟨o,wg,rfl,tv,hros⟩:=vP;have zR:∀y∈wv,∀c∈y,c.leaf=true:=by
    rcases zR with e|h
    · exact absurd e uq
    · exact h
  have hylen:0<wv.length:=sc.2 uq;have vv:∃b off,ad=some ⟨b,off,none⟩/\∃us:List Value,us.length=wv.length*inf.size/\(∀(j:Nat) u,us[j]?=some u->w.cell? ((⟨b,off,none⟩:Addr).add j)=some u)/\(∀u∈us,u.oneCell'=true)/\HE F w (o::wg) ei.size us wv:=by
    rcases hsrc with e|⟨b,off,rfl,hc⟩
    · exact absurd e uq
    · obtain⟨us,h1,h2,h3,h4⟩:=RT hys' hc;exact⟨b,off,rfl,us,by rw[h1,ue],h2,h3,h1,λi y hy j c hc=>by obtain⟨u,e1,_,e2⟩:=h4 i y hy j c hc;exact⟨u,e1,e2⟩⟩
  obtain⟨b,off,rfl,us,yQ,vK,yv,hrep⟩:=vv;have tz:=hr.rows 0 o rfl;have hxlf:=Sq (xs:=xs) (λx hx=>hp x (qN _ hx)) tz (by rw[tv]);have vY:∀x∈xs++wv,x.length=ei.size/\∀c∈x,c.leaf=true:=λx hx=>by
    rcases pX.1 hx with h|h
    · have:=(tz.lens x (by rw[tv];exact h)).1;rw[tv]at this;exact⟨this,hxlf x h⟩
    · exact⟨hys' x h,zR x h⟩
  have zE:∀(cap:Nat) (va:List Value),HE F w (o::wg) ei.size va xs->xs.length+wv.length<=cap->cap<=maxLen->
      Rel F ((o::wg)++[⟨⟨0,ei.e,ei.size,xs++wv⟩,some w.heap.size,cap,GF⟩]) { s with st:=s.st++[⟨0,ei.e,ei.size,xs++wv⟩] } a (w.drew.alloc (.cells (va.toArray++us.toArray++Builtin.zeroCells z.cells (cap-(xs.length+wv.length))) ei.e))/\
      Ext F (o::wg) w F ((o::wg)++[⟨⟨0,ei.e,ei.size,xs++wv⟩,some w.heap.size,cap,GF⟩]) (w.drew.alloc (.cells (va.toArray++us.toArray++Builtin.zeroCells z.cells (cap-(xs.length+wv.length))) ei.e)) k:=λcap va hold xM vp=>by
    obtain⟨e1,e2⟩:=PF (F:=F) (w:=w) (os:=o::wg) (z:=z) (size:=ei.size) (n:=xs.length) (m:=wv.length) (cap:=cap) (by rw[wb,ue]) rfl rfl hold hrep xM;have:=hr.PN (k:=k) (.inr rfl) (cur:=_) (e:=ei.e) (size:=ei.size) (cap:=cap) (xs:=xs++wv) (by omega) vY e1 (by simpa using xM) vp (λi x hx j c hc=>e2 i x hx j c hc);exact⟨this.1,this.2.1⟩
  have xX:=sx w (xs.length+wv.length);have zA:=rm w (xs.length+wv.length);simp only[Ab]at hd;obtain⟨o',uw,_,_,hd⟩:=hd;simp only[ph,pC]at uw;subst uw;obtain⟨_,hd⟩:=hd (by rw[tv]);rw[tv]at hd;simp only[qx,sC,se]at hd;rcases hd with ⟨zI,a0,rfl⟩|⟨b0,Ip,rfl⟩
  · have zS:=(tz.none zI).1;rw[tv]at zS;dsimp only at zS;subst zS;have uP:(Builtin.append_ #[t,t] ty #[.slice a0 0 0,.slice (some ⟨b,off,none⟩) wv.length c]).run P w=.ok (.slice (some ⟨w.heap.size,0,none⟩) (0+wv.length) (grownCap w (0+wv.length) 0 ei.e))
        (w.drew.alloc (.cells (([]:List Value).toArray++us.toArray++Builtin.zeroCells z.cells (grownCap w (0+wv.length) 0 ei.e-(0+wv.length))) ei.e)):=by
      cases a0 with
      |none=>
        have:=sn (P:=P) w t ty ei.e inf z hu hi hz ⟨b,off,none⟩ wv.length c us yQ vK (by omega) (by simp at hm;omega) (by rw[<- hby];simp at hb;omega);simpa using this
      |some a0=>
        have:=rW (P:=P) w t ty ei.e inf z hu hi hz a0 0 0 [] (by simp) (by simp) ⟨b,off,none⟩ wv.length c us yQ vK (by omega) (by omega) (rh (by simp at hm;omega) (by rw[<- hby];simpa using hb));simpa using this
    have hgg:=zE (grownCap w (0+wv.length) 0 ei.e) [] (by simp[HE]) (by simpa using xX 0 ei.e) (by simpa using zA 0 ei.e (by simp[maxLen]at hm⊢;omega));exact⟨o,wg,_,_,rfl,tv,uP,.inr ⟨_,hgg.1,hgg.2,rfl⟩⟩
  · obtain⟨zP,cur,uO,vq,hlc,hmaxc,uK⟩:=tz.some b0 Ip;rw[tv]at uO vq hlc uK;dsimp only at uO vq hlc uK;by_cases vw:xs.length+wv.length<=o.cap
    · have vh:xs.length*inf.size+us.length<=cur.size:=by rw[yQ,vq,ue,<- pt];exact qB _ vw
      have uP:=run_append_room (P:=P) w t ty ei.e inf hu hi b0 xs.length o.cap cur uO ⟨b,off,none⟩ wv.length c us yQ vK yv vw vh;have hT:=HA.setRow w b0 (cur.toList.take (xs.length*inf.size)++us++cur.toList.drop (xs.length*inf.size+us.length)).toArray;have hF:∀g,F g->(w.setRow b0 (cur.toList.take (xs.length*inf.size)++us++cur.toList.drop (xs.length*inf.size+us.length)).toArray).heap[g]?=w.heap[g]?:=λg hg=>hT.Fu g (hr.Fu g hg) (λe=>zP (by cases e;exact hg));refine⟨o,wg,_,_,rfl,tv,uP,.inl ⟨b0,Ip,zP,hT,⟨by simp only[pc,hros],λt=>kN (λ_ h=>h) hF (hr.env t),hr.size,λi oi hi=>?_,λi j oi oj b hi hj wJ wK=>?_,λg hg=>qK (hr.Fu g hg) hT.size,hr.defers⟩,rfl⟩⟩
      · match i,hi with
        |0,hi=>
          simp only[ph,pC]at hi;subst hi;have wH:∀c u,simple c=true->Ab F w (o::wg) c u->∀os',Ab F (w.setRow b0 (cur.toList.take (xs.length*inf.size)++us++cur.toList.drop (xs.length*inf.size+us.length)).toArray) os' c u:=λc u hc h os'=>
            GI hc os' (DW (λ_ h=>h) hF [] [] (by simp) c u (GI hc [] h))
          refine⟨by have:=tz.pos;rw[tv]at this;exact this,λx hx=>⟨(vY x hx).1,λc hc=>Dg ((vY x hx).2 c hc)⟩,λhn=>(by cases hn),λb' vF=>?_,λg hg=>⟨(tz.mo g hg).1,by simpa using (tz.mo g hg).2.1,by rw[<- Ip];exact (tz.mo g hg).2.2⟩,EJ λx hx c hc=>(vY x hx).2 c hc⟩;simp only[pC]at vF;subst vF;refine⟨zP,_,sa w b0 cur _ _ _ uO,?_,by simpa using vw,hmaxc,λi y hy j c hc=>?_⟩
          · simp only[rX,pU,rP,rb,rO]at vh⊢;rw[<- vq];omega
          · simp only at hy⊢;rw[LA vh];by_cases vQ:i<xs.length
            · rw[pM vQ]at hy;obtain⟨u,f1,f2⟩:=uK i y hy j c hc;have yO:j<ei.size:=by rw[<- (vY y (qN _ (ov hy))).1];exact (pA.1 hc).1
              have:(i+1)*ei.size<=xs.length*ei.size:=qB _ vQ;rw[pt]at this;refine⟨u,?_,wH c u (hp y (qN _ (ov hy)) c (ov hc)) f2 _⟩;rw[pI (by rw[<- ue];omega)];exact f1
            · rw[pN (by omega)]at hy;obtain⟨u,f1,f2⟩:=hrep.2 _ y hy j c hc;refine⟨u,?_,wH c u (hp y (qZ _ (ov hy)) c (ov hc)) f2 _⟩;have uU:=(pA.1 f1).1;have h3:xs.length*ei.size<=i*ei.size:=qB _ (by omega);rw[Nat.sub_mul]at f1 uU;rw[pJ (by rw[<- ue];omega),pI (by rw[<- ue];omega),<- f1];congr 1;rw[<- ue];omega
        |i+1,hi=>
          simp only[py]at hi;have xL:=hr.rows (i+1) oi (by simpa using hi);have hpi:ET oi.row.xs:=hrst oi.row (by rw[<- hros];exact rC (ov hi));have hlfi:=Sq hpi xL rfl;have hni:∀b,oi.owns b->b≠b0:=λb hb e=>by
            have:=hr.inj (i+1) 0 oi o b (by simpa using hi) rfl hb (.inl (by rw[e];exact Ip));omega
          refine⟨xL.pos,xL.lens,xL.none,λb hb=>?_,λb hb=>⟨(xL.mo b hb).1,qK (xL.mo b hb).2.1 hT.size,(xL.mo b hb).2.2⟩,EJ hlfi⟩;obtain⟨f1,wa,f2,f3,f4,f5,f6⟩:=xL.some b hb;refine⟨f1,wa,?_,f3,f4,f5,λi' x hx j c hc=>?_⟩
          · rw[hT.Fu b (xL.lt (.inl hb)) (λe=>hni b (.inl hb) (by cases e;rfl))];exact f2
          · obtain⟨u,g1,g2⟩:=f6 i' x hx j c hc;have yA:=hpi x (ov hx) c (ov hc);exact⟨u,g1,GI yA _ (DW (λ_ h=>h) hF [] [] (by simp) c u (GI yA [] g2))⟩
      · have key:∀(i:Nat) oi b,((⟨⟨g,ei.e,ei.size,xs++wv⟩,some b0,o.cap,o.more⟩:Own)::wg)[i]?=some oi->oi.owns b->∃oi',(o::wg)[i]?=some oi'/\oi'.owns b:=λi oi b hi hb=>by
          cases i with
          |zero=>
            simp only[ph,pC]at hi;subst hi;exact⟨o,rfl,hb.imp (λhb=>by rw[Ip];exact hb) id⟩
          |succ i=>exact⟨oi,hi,hb⟩
        obtain⟨oi',q1,q2⟩:=key i oi b hi wJ;obtain⟨oj',q3,q4⟩:=key j oj b hj wK;exact hr.inj i j oi' oj' b q1 q3 q2 q4
    · have hold:∀(i:Nat) y,xs[i]?=some y->Nh F w (o::wg) b0 (0+i*ei.size) y:=λi y hy=>by
        have:=hr.Oz (id:=0) (o:=o) rfl Ip (i:=i) (x:=y) (by rw[tv];exact hy);rw[tv]at this;simpa using this
      obtain⟨va,h1,h2,_,h4⟩:=RT (λx hx=>(vY x (qN _ hx)).1) hold;have uP:=rW (P:=P) w t ty ei.e inf z hu hi hz ⟨b0,0,none⟩ xs.length o.cap va (by rw[h1,ue]) h2 ⟨b,off,none⟩ wv.length c us yQ vK (by omega) (by omega) (rh (by omega) (by rw[<- hby];exact hb));have hgg:=zE (grownCap w (xs.length+wv.length) o.cap ei.e) va ⟨h1,λi y hy j c hc=>by obtain⟨u,f1,_,f2⟩:=h4 i y hy j c hc;exact⟨u,f1,f2⟩⟩ (xX o.cap ei.e) (zA o.cap ei.e (by simp[maxLen];omega));exact⟨o,wg,_,_,rfl,tv,uP,.inr ⟨_,hgg.1,hgg.2,rfl⟩⟩
section
variable {P : Program} {ops : Array Oper} {Q : Exit -> St -> Prop} {n N f i : Nat} {tm listed' : Array Bool} {e : Nat -> AV} {ty : TypeId} {p : String} {ed : Array Edge} {t : Tmp} {α : Type} {l l2 l' : List α} {enc : α -> List AV} {x y : Operand} {g m size bytes : Nat} {el : TypeId} {zz : List AV} {T : TypeId} {ym : List Row} {k : Nat}
theorem Bp (h:tm=listed'){s:St}(ha:AX P k ops Q N f tm s):AX P k ops Q N f listed' s:=h▸ha
theorem AX.two (row yE:Row){s:St}(h :∀A A':Nat->Array Bool->St->Prop,(∀f l s,A f l s↔AX P k ops Q N f l s)->(∀f l s,A' f l s↔AX P k ops (gC row yE Q) N f l s)->A f tm s):AX P k ops Q N f tm s:=
  h (AX P k ops Q N) (AX P k ops (gC row yE Q) N) (λ_ _ _=>Iff.rfl) (λ_ _ _=>Iff.rfl)
theorem LB {s:St}(h :∀A:Nat->Array Bool->St->Prop,(∀f l s,A f l s↔AX P k ops Q N f l s)->A f tm s):AX P k ops Q N f tm s:=
  h (AX P k ops Q N) (λ_ _ _=>Iff.rfl)
theorem Kz {ys:AV}(ho:ops[i]?=some ⟨some t,.call ⟨.builtin .append,#[x,y],#[T,T]⟩,ty,p,ed,none⟩)(zU:Cy n (some t)=true)(he:DB P T=some ⟨el,size,bytes,zz⟩)(hrst :∀row∈ym,ET row.xs)(hx:St.ev ⟨n,e,⟨g,el,size,l.map enc⟩::ym⟩ x=.own 0 g m)(hm:m=l.length)(hy:St.ev ⟨n,e,⟨g,el,size,l.map enc⟩::ym⟩ y=ys)(hel:EL (⟨g,el,size,l.map enc⟩::ym) ys (l2.map enc))
    (hl2:l2.isEmpty=false) (hs :∀a,(enc a).length=size) (hp :∀l:List α,ET (l.map enc)) (ha:Sh.app l l2 bytes=some l')
    (h1:AX P 1 ops (gC ⟨g,el,size,l.map enc⟩ ⟨g,el,size,l'.map enc⟩ Q) N f (tm.setIfInBounds i true) ⟨n,DQ (λt=>lY (e t)) t (.own 0 g l'.length),⟨g,el,size,l'.map enc⟩::ym⟩)
    (h2:AX P 1 ops Q N f (tm.setIfInBounds i true) ⟨n,DQ e t (.own (ym.length+1) 0 l'.length),⟨g,el,size,l.map enc⟩::(ym++[⟨0,el,size,l'.map enc⟩])⟩) :
    Jp P 1 ops Q N f tm ⟨n,e,⟨g,el,size,l.map enc⟩::ym⟩ i:=by
  subst hm;unfold Sh.app at ha;split at ha
  case isFalse=>cases ha
  rename_i hbd;simp only[pC]at ha;subst ha;intro F0 os0 w0 F os a w hr he0;have hxr:=hr.ev x;rw[hx]at hxr;have hyr:=hr.ev y;rw[hy]at hyr;have hpp:=hp (l++l2);rw[qu]at hpp h1 h2;obtain⟨o,wg,u,w',rfl,tv,uP,hA⟩:=bE (k:=1) (ty:=ty) (ei:=⟨el,size,bytes,zz⟩) (g:=g) (xs:=l.map enc) (ys:=l2.map enc) hr rfl hrst he (by simpa using hxr) hyr hel
    (λz hz=>by obtain⟨q,_,rfl⟩:=pQ.1 hz;exact hs q) hpp (by intro e;rw[sF]at e;rw[e]at hl2;cases hl2) (by simpa using hbd.1) (by simpa using hbd.2)
  unfold wpOp;simp only[ho];rw[pI (by rfl)];refine .inl ?_;unfold Oper.wp;simp only[execOp,resolve,invoke,builtin,qG,qV,qD,sW,pc,qt,uP,Oper.upon];rcases hA with ⟨b0,Ip,zP,hT,hR,rfl⟩|⟨cap,hR,hE,rfl⟩
  · have h3:=h1.2 F _ w' F _ _ w' (hR.put (d:=some t) zU (v:=.own 0 g (l++l2).length) (u:=.slice (some ⟨b0,0,none⟩) ((l.map enc).length+(l2.map enc).length) o.cap) (by
      simp only[Ab];exact⟨_,rfl,pL _,⟨_,_,_,rfl⟩,λ_=>⟨by simp,.inr ⟨b0,rfl,by simp⟩⟩⟩)) (Ext.refl _ _ _ _)
    refine Te (λc a'' w'' hp=>?_) (λhl=>?_) (λa'' w'' hp=>?_) _ h3
    · obtain⟨_,_,_,h4,_⟩:=hp;exact nomatch h4.1
    · obtain⟨_,_,h4,_⟩:=hl;exact nomatch h4
    obtain⟨s',F',os',⟨h4,h5⟩,h6,h7⟩:=hp;obtain⟨s2,F2,os2,h8,h9,h10⟩:=gp (Q:=λe s=>e=.normal/\Q e s) hpp tv Ip zP hT ⟨s',F',os',⟨h5.1,h4,h5.2⟩,h6,h7⟩ hr.Fu;exact⟨s2,F2,os2,h8,h9,he0.trans h10⟩
  · refine h2.2 F0 os0 w0 F _ _ w' ?_ (he0.trans hE);have hlen:wg.length=ym.length:=by
      have:=hr.st;simp only[pc,rp]at this;rw[<- this.2,pR]
    refine hR.put (d:=some t) zU (v:=.own (ym.length+1) 0 (l++l2).length) ?_;simp only[Ab];exact⟨⟨⟨0,el,size,l.map enc++l2.map enc⟩,some w.heap.size,cap,GF⟩,by rw[<- hlen];simp,pL _,⟨_,_,_,rfl⟩,λ_=>⟨by simp,.inr ⟨_,rfl,by simp⟩⟩⟩
end
section
variable {P : Program} {ds : List (Option Tmp)} {r : List Oper} {KS : St -> Prop} {n : Nat} {e : Nat -> AV} {st : List Row} {ty : TypeId} {ps : String} {ed : Array Edge} {t : Tmp} {gd : Option (Nat × Bool)} {α : Type} {l l' : List α} {enc : α -> List AV} {x : Operand} {size bytes : Nat} {el T : TypeId} {zz : List AV}
theorem df {lo hi:Option Operand}{i j:Int}(hg:GO ds gd e)(he:DB P T=some ⟨el,size,bytes,zz⟩)(hx:St.ev ⟨n,e,st⟩ x=.sl (l.map enc))(h1:VL (lo.map (St.ev ⟨n,e,st⟩)) 0=some i)(h2:VL (hi.map (St.ev ⟨n,e,st⟩)) l.length=some j)(hs :∀a,(enc a).length=size)(hl:Sh.sl l i j=some l')
    (hk:EK P (ds++[some t]) r KS ⟨n,DQ e t (.sl (l'.map enc)),st⟩):EK P ds (⟨some t,.slice T x lo hi none,ty,ps,ed,gd⟩::r) KS ⟨n,e,st⟩:=by
  refine gv hg rfl (λs0 e1 e2 hd k F os a w hr next Q hn=>?_) hk;refine Lx (k:=k) (K:=(·=s0.put (some t) (.sl (l'.map enc)))) hr hd ?_ hn;show Wv P s0.st T (s0.ev x) (lo.map s0.ev) (hi.map s0.ev) (Option.map s0.ev none) (λv st=>({ s0 with st:=st }:St).put (some t) v=s0.put (some t) (.sl (l'.map enc)));have ex:s0.ev x=St.ev ⟨n,e,st⟩ x:=e2 x (by simp[Op.operands]);have elo:lo.map s0.ev=lo.map (St.ev ⟨n,e,st⟩):=by
    cases lo with
    |none=>rfl
    |some y=>simp only[qF];rw[e2 y (by simp[Op.operands])]
  have ehi:hi.map s0.ev=hi.map (St.ev ⟨n,e,st⟩):=by
    cases hi with
    |none=>rfl
    |some y=>simp only[qF];rw[e2 y (by simp[Op.operands])]
  rw[ex,elo,ehi,hx];unfold Sh.sl at hl;split at hl
  · rename_i h;simp only[pC]at hl;subst hl;refine Ak _ he (Ak _ h1 (Ak _ (by rw[pR];exact h2) ⟨h.1,h.2.1,by simpa using h.2.2,λz hz=>?_,?_⟩))
    · obtain⟨q,_,rfl⟩:=pQ.1 hz;exact hs q
    · rw[List.map_drop,List.map_take]
  · cases hl
theorem XO {f:FuncId}{vI:Array Operand}{ts:Array TypeId}{args uf:List AV}{rowsP rows0 rows1 rows1':List Row}{v v':AV}(sel:List Nat)(hg:GO ds gd e)(hb:Cq P f=true)(hc:BJ P f uf rows0 λr st=>r=v/\st=rows1)(ha:vI.toList.map (St.ev ⟨n,e,st⟩)++[]=args)(vu:sel.Nodup)(uU:sel.all (·<st.length)=true)
    (hp:CE st sel=rowsP) (hs:SR sel rowsP rows0) (hf:args.map (Jn sel)=uf) (hlen:rows1.length=sel.length) (h1:UN sel st.length rows1 rows1') (hv:Q0 sel st.length v=v') (wU:FX sel rows1' 0 st=st)
    (hk:EK P (ds++[some t]) r KS ⟨n,DQ e t v',st⟩):EK P ds (⟨some t,.call ⟨.value (.func f),vI,ts⟩,ty,ps,ed,gd⟩::r) KS ⟨n,e,st⟩:=by
  subst ha;subst hv;subst hp;refine gv hg rfl (λs0 e1 e2 hd k F os a w hr next Q hn=>?_) hk;refine Lx (k:=k) (K:=(·=s0.put (some t) (Q0 sel st.length v))) hr hd ?_ hn;show Cq P f=true/\callThen P k s0 f (vI.toList.map s0.ev++[]) (some t) _;rw[Ts e2];refine⟨hb,Ld λhle=>?_⟩;subst e1;obtain⟨e1,e3⟩:=hs.spec (st0:=s0.st) hle (λrow tv=>by
    obtain⟨i,_,hi⟩:=qg.1 tv;exact ov hi)
  refine L8 (rows2:=[]) sel (by simpa using hc) vu (λi hi=>by simpa using pG.1 uU i hi) e1 e3 hf hlen (λrow tv=>by
    rw[qR]at tv;exact h1.leaf row tv) λ_=>?_
  simp only[h1.spec,qt,qR,wU]
end
end Go.Abs
namespace Go.Abs
open Go
section
variable {P : Program} {k : Nat} {ops : Array Oper} {Q : Exit -> St -> Prop} {ds : List (Option Tmp)} {r : List Oper} {n : Nat} {e : Nat -> AV} {st st' : List Row} {ty : TypeId} {p : String} {ed : Array Edge} {t : Tmp} {x y : Operand} {size bytes m : Nat} {el T Tn : TypeId} {zz : List AV} {α : Type} {enc : α -> List AV} {u : α} {l' : List α} {kk : IntKind} {j : Int} {v : AV} {o : Oper}
theorem eK (hn:o.guard=none)(h :∀F os a w,Rel F os ⟨n,e,st⟩ a w->∃z w' F' os',(execOp a.eval o).run P w=.ok (.value z) w'/\Rel F' os' ⟨n,e,st'⟩ a w'/\Ab F' w' os' v z/\Ext F os w F' os' w' k)
  (hk:AO P k ops Q (ds++[o.dst]) r (St.put ⟨n,e,st'⟩ o.dst v)):AO P k ops Q ds (o::r) ⟨n,e,st⟩:=by
 intro hl yB vL F os a w hr Q' hQ;have ho:ops[ds.length]?=some o:=by have:=hl 0;simpa using this.symm
 have zU:Cy n o.dst=true:=vL o (by have:=ov (l:=ops.toList) (i:=ds.length) (by simpa using ho);exact this);have yb :∀(j:Nat),r[j]?=ops[(ds++[o.dst]).length+j]?:=λj=>by
  have:=hl (j+1);simp only[py]at this;rw[this];congr 1;simp;omega
 have yD :∀(j:Nat) d,(ds++[o.dst])[j]?=some d->(ops[j]?).map (·.dst)=some d:=λj d hj=>by
  rcases qk j ds.length with h1|h1|h1
  .rw[pM h1]at hj;exact yB j d hj
  .subst h1;rw[J1,pC]at hj;rw[ho];simp[hj]
  .rw[qA (by simp;omega)]at hj;cases hj
 obtain⟨z,w',F',os',h1,h2,h3,h4⟩:=h F os a w hr;unfold wpList;rw[pI (by unfold Region.wanted;rw[hn])];refine .inl ?_;unfold Oper.wp;rw[h1];simp only[Oper.upon];refine hk yb yD (by cases o.dst<;>exact vL) F' os' _ w' (h2.put zU h3) Q' λ_ _ _ hp=>hQ _ _ _ (hp.trans h4)
theorem bw (hs:DG P T=true)(hx:St.ev ⟨n,e,st⟩ x=.zc)(hk:AO P k ops Q (ds++[some t]) r ⟨n,DQ e t (i64 0),st⟩):
  AO P k ops Q ds (⟨some t,.call ⟨.builtin .cap,#[x],#[T]⟩,ty,p,ed,none⟩::r) ⟨n,e,st⟩:=by
 refine eK rfl (st':=st) (v:=i64 0) (λF os a w hr=>?_) hk;have h1:=hr.ev x;rw[hx]at h1;simp only[Ab]at h1;obtain⟨ad,h1⟩:=h1;unfold DG at hs;split at hs
 case h_2=>cases hs
 rename_i el hu;refine⟨.int .i64 0,w,F,os,?_,hr,by simp[Ab],Ext.refl _ _ _ _⟩;simp only[execOp,resolve,invoke,builtin,qG,qV,qD,sW,pc,qt,h1,Builtin.cap_];simp[qQ hu,goInt]
theorem lW {hi:Option Operand}(he:DB P T=some ⟨el,size,bytes,zz⟩)(hx:St.ev ⟨n,e,st⟩ x=.zc)(h2:VL (hi.map (St.ev ⟨n,e,st⟩)) 0=some 0)
  (hk:AO P k ops Q (ds++[some t]) r ⟨n,DQ e t .zc,st⟩):AO P k ops Q ds (⟨some t,.slice T x none hi none,ty,p,ed,none⟩::r) ⟨n,e,st⟩:=by
 refine NO AN ?_;rw[Uq];simp only[sb];rw[hx];exact Ak _ he (Ak _ rfl (Ak _ h2 ⟨rfl,rfl,hk⟩))
theorem jh {kn:IntKind}(he:DB P T=some ⟨el,size,bytes,zz⟩)(hn:P.underlying Tn=some (.int kn))(hx:St.ev ⟨n,e,st⟩ x=.zc)(hy:St.ev ⟨n,e,st⟩ y=.int kk j)(h0:decide (0<j)=true)(hz:enc u=zz)(hj:Sh.mk u j bytes=some l')(hm:st.length=m)(uV:st++[⟨0,el,size,l'.map enc⟩]=st')
  (hk:AO P k ops Q (ds++[some t]) r ⟨n,DQ e t (.own m 0 l'.length),st'⟩):AO P k ops Q ds (⟨some t,.call ⟨.builtin .append,#[x,y],#[T,Tn]⟩,ty,p,ed,none⟩::r) ⟨n,e,st⟩:=by
 subst hm;subst uV;subst hz;unfold Sh.mk at hj;split at hj
 case isFalse=>cases hj
 rename_i hbd;simp only[pC]at hj;subst hj;refine eK rfl (st':=st++[(⟨0,el,size,(List.replicate j.toNat u).map enc⟩:Row)]) (v:=.own st.length 0 (List.replicate j.toNat u).length) (λF os a w hr=>?_) hk;have h1:=hr.ev x;rw[hx]at h1;simp only[Ab]at h1;obtain⟨ad,h1⟩:=h1;have h2:=hr.ev y;rw[hy]at h2;simp only[Ab]at h2;obtain⟨inf,z,hu,hi,hz,wb,uz,ue,hby,hzz,vS⟩:=HP he;dsimp only at hu hi wb uz ue hby hzz vS;have hj0:0<j:=ql h0;obtain⟨q,rfl⟩:=pb (Int.le_of_lt hj0);rw[qP];have hq0:0<q:=by omega
 have hq48:q*inf.bytes<=281474976710656:=by
  have h9:((q*bytes:Nat):Int)<=281474976710656:=by rw[tH];exact hbd.2.1
  rw[<- hby];omega
 have hold:(Builtin.firstCells inf.size 0 (.slice ad 0 0)).run P w.drew=.ok ([]:List Value).toArray w.drew:=by
  cases ad with
  |none=>exact run_firstCells_none w.drew inf.size 0 0 0
  |some ad=>exact run_firstCells_some w.drew inf.size 0 ad 0 0 [] (by simp) (by simp)
 have vh:Builtin.nextslicecap (0+q) 0*inf.bytes<=281474976710656:=by rw[qO,nextslicecap_zero hq0];exact hq48
 have uP:=Lib.run_append_grow_zeros (P:=P) w T Tn ty el inf z kk kn hu hn hi hz ad 0 0 [] hold q hq0 (by omega) (by omega) (by omega) hq48 vh;rw[qO]at uP;have xX:=sx w q 0 el;have hle:=rm w q 0 el (by unfold maxLen;omega);have hzc:∀i,i<z.cells.size->∃c',z.cells[i]?=some c':=λi hi=>⟨_,qh hi⟩;have xj:=hr.PN (k:=k) (.inr rfl) (cur:=([]:List Value).toArray++Builtin.zeroCells z.cells q++Builtin.zeroCells z.cells (grownCap w q 0 el-q)) (e:=el) (size:=size) (cap:=grownCap w q 0 el) (xs:=(List.replicate q u).map enc)
  (by omega) (λx hx=>by
   rw[sj]at hx;rw[List.eq_of_mem_replicate hx,hzz];refine⟨by simp[wb,ue],λc hc=>vS c (by rw[hzz];exact hc)⟩)
  (by
   simp only[su,rX,qi,sq,wb,ue,qO,<- pt];congr 1;omega)
  (by rw[pR,List.length_replicate];omega) hle (λi x hx jj c hc=>by
   rw[sj]at hx;have hi:i<q:=by
    have:=(pA.1 hx).1;simpa using this
   have xS:x=enc u:=List.eq_of_mem_replicate (ov hx);subst xS;rw[hzz]at hc;simp only[pB,pH,qw]at hc;obtain⟨c',hc1,rfl⟩:=hc;have yO:jj<z.cells.size:=(px.1 hc1).1;refine⟨c',?_,Mt F w os c'⟩;have uU:i*size+jj<q*size:=by
    have:(i+1)*size<=q*size:=qB _ hi;rw[pt]at this;omega
   rw[Array.append_assoc,show (([]:List Value).toArray++(Builtin.zeroCells z.cells q++Builtin.zeroCells z.cells (grownCap w q 0 el-q)))=(Builtin.zeroCells z.cells q++Builtin.zeroCells z.cells (grownCap w q 0 el-q)) by simp];rw[qy (by rw[sq,wb,<- ue];exact uU)];unfold Builtin.zeroCells;rw[Array.getElem?_map,Array.getElem?_range];rw[pI (by rw[wb,<- ue];exact uU)];simp only[qF,pC];have yy:(i*size+jj) % z.cells.size=jj:=by
    rw[wb,<- ue,tG,Nat.mul_add_mod];exact sB (by omega)
   rw[yy];simp[Array.getElem!_eq_getD,Array.getD,yO,(px.1 hc1).2])
 refine⟨.slice (some ⟨w.heap.size,0,none⟩) q (grownCap w q 0 el),_,F,_,?_,xj.1,?_,xj.2.1⟩
 .simp only[execOp,resolve,invoke,builtin,qG,qV,qD,sW,pc,qt,h1,h2];rw[uP];simp
 .simp only[Ab];have hlen:st.length=os.length:=hr.len;exact⟨_,by rw[hlen];exact J1 _ _,pL _,⟨_,_,_,rfl⟩,λ_=>⟨by simp,.inr ⟨_,rfl,by simp⟩⟩⟩
end
section
variable {P : Program} {ds : List (Option Tmp)} {r : List Oper} {KS : St -> Prop} {n : Nat} {e : Nat -> AV} {st : List Row} {ty : TypeId} {ps : String} {ed : Array Edge} {t : Tmp} {gd : Option (Nat × Bool)} {α : Type} {l : List α} {enc : α -> List AV} {u : α} {x y : Operand} {size bytes : Nat} {el T : TypeId} {zz : List AV} {kk yh : IntKind} {j : Int}
theorem nk (hg:GO ds gd e)(he:DB P T=some ⟨el,size,bytes,zz⟩)(hx:St.ev ⟨n,e,st⟩ x=.int kk j)(hy:St.ev ⟨n,e,st⟩ y=.int yh j)(hz:enc u=zz)(hl:Sh.mk u j bytes=some l)(hpu:ET (l.map enc))
  (hk:EK P (ds++[some t]) r KS ⟨n,DQ e t (.sl (l.map enc)),st⟩):EK P ds (⟨some t,.makeSlice T x y,ty,ps,ed,gd⟩::r) KS ⟨n,e,st⟩:=by
 subst hz;refine gv hg rfl (λs0 e1 e2 hd k F os a w hr next Q hn=>?_) hk;have ex:s0.ev x=.int kk j:=(e2 x (by simp[Op.operands])).trans hx;have ey:s0.ev y=.int yh j:=(e2 y (by simp[Op.operands])).trans hy;have hxr:=hr.ev x;have hyr:=hr.ev y;rw[ex]at hxr;rw[ey]at hyr;unfold Sh.mk at hl;split at hl
 case isFalse=>cases hl
 rename_i h;simp only[pC]at hl;subst hl;have h9:Ig P 0 F [] ⟨s0.n,λ_=>.FZ,[]⟩ a w (Instr.makeSlice T (a.eval x) (a.eval y)) (λz st=>z=.own 0 0 (List.replicate j.toNat u).length/\st=[⟨0,el,size,(List.replicate j.toNat u).map enc⟩]):=by
  refine Zp (l:=.int kk j) (c:=.int yh j) hr.bare (Ak _ he ⟨rfl,h.1,h.2.1,h.2.2,?_⟩) (GI (x:=.int kk j) rfl [] hxr) (GI (x:=.int yh j) rfl [] hyr);simp
 obtain⟨u',w',F',g1,g2,g3,g4⟩:=Ot (k:=k) hr h9 (XD hpu) rfl;unfold Oper.wp;simp only[execOp,qG,g1,qD,qV,Oper.upon];exact hn _ _ (QY (st':=s0.st) hd rfl g2 g3 g4)
end
theorem Il {row:Row}{ym:List Row}(h:ET row.xs)(g :∀q∈ym,ET q.xs):∀q∈row::ym,ET q.xs:=λq hq=>by
 rcases pK.1 hq with rfl|hq
 .exact h
 .exact g q hq
section
variable {P : Program} {k : Nat} {ops : Array Oper} {Q : Exit -> St -> Prop} {ds : List (Option Tmp)} {r : List Oper} {n : Nat} {e : Nat -> AV} {st st' : List Row} {ty : TypeId} {p : String} {ed : Array Edge} {t : Tmp} {x y : Operand} {size bytes m : Nat} {el T : TypeId} {zz : List AV} {kk yh : IntKind} {c : Nat}
theorem iN (he:DB P T=some ⟨el,size,bytes,zz⟩)(hx:St.ev ⟨n,e,st⟩ x=.int kk 0)(hy:St.ev ⟨n,e,st⟩ y=.int yh (c:Int))(hc:decide (c*bytes<=281474976710656/\c<=9223372036854775807)=true)(hm:st.length=m)(uV:st++[⟨0,el,size,[]⟩]=st')
  (hk:AO P k ops Q (ds++[some t]) r ⟨n,DQ e t (.own m 0 0),st'⟩):AO P k ops Q ds (⟨some t,.makeSlice T x y,ty,p,ed,none⟩::r) ⟨n,e,st⟩:=by
 subst hm;subst uV;have hbd:=ql hc;refine eK rfl (st':=st++[(⟨0,el,size,[]⟩:Row)]) (v:=.own st.length 0 0) (λF os a w hr=>?_) hk;have h1:=hr.ev x;rw[hx]at h1;simp only[Ab]at h1;have h2:=hr.ev y;rw[hy]at h2;simp only[Ab]at h2;obtain⟨inf,z,hu,hi,hz,wb,uz,ue,hby,hzz,vS⟩:=HP he;dsimp only at hu hi wb uz ue hby hzz vS;have uP:=run_make (P:=P) w T el inf z hu hi hz kk yh 0 (c:Int) (by omega) (by omega) (by rw[<- hby,<- tH,tG];omega) (by omega);have xj:=hr.PN (k:=k) (.inl rfl) (cur:=madeCells z.cells (c*inf.size)) (e:=el) (size:=size) (cap:=c) (xs:=[]) (by omega) (by simp) (by rw[size_madeCells,ue]) (by simp) (by simp[maxLen];omega) (by simp);refine⟨.slice (some ⟨w.heap.size,0,none⟩) 0 c,_,F,_,?_,xj.1,?_,xj.2.1⟩
 .simp only[execOp,qG,qV,qD,h1,h2];rw[uP];simp
 .simp only[Ab];have hlen:st.length=os.length:=hr.len;exact⟨_,by rw[hlen];exact J1 _ _,pL _,⟨_,_,_,rfl⟩,λ_=>⟨by simp,.inr ⟨_,rfl,by simp⟩⟩⟩
end
end Go.Abs
namespace Go.Abs
open Go
variable {P : Program} {n : Nat} {e : Nat -> AV} {st : List Row} {t : Tmp} {ty : TypeId} {ps : String} {ed : Array Edge} {x : Operand}
theorem Kv {id g i off yF el size j f:Nat}{tt:TypeId}{xs:List (List AV)}(hf:IH P tt f=some j)(h:St.ev ⟨n,e,st⟩ x=.ptr id g i off)(tv:st[id]?=some ⟨g,el,size,xs⟩)(hl:off+j<=size)(ho:off+j=yF):Pd P ⟨n,e,st⟩ ⟨some t,.fieldAddr tt x f,ty,ps,ed,none⟩ (.ptr id g i yF):=
 ⟨rfl,λF os a w hr=>by
  subst ho;have h1:=hr.ev x;rw[h]at h1;unfold IH at hf;split at hf<;>try (cases hf;done)
  rename_i fs hu;split at hf<;>try (cases hf;done)
  rename_i g1 hg;split at hf<;>try (cases hf;done)
  rename_i i1 hi;split at hf
  .cases hf
  rename_i hz;simp only[pC]at hf;have uP:∀b off w',(Instr.fieldAt tt (.pointer (some ⟨b,off,none⟩)) f).run P w'=.ok (.pointer (some ⟨b,off+j,none⟩)) w':=λb off w'=>by
   simp[Instr.fieldAt,qQ hu,hg,Instr.sureAddr,fieldPlace,sizeOf,typeInfo,hi,hz,Ce,hf]
  obtain⟨ow,how,hrw⟩:=hr.row tv;simp only[Ab]at h1;obtain⟨o',uw,xX,_,hv⟩:=h1;rw[how]at uw;cases uw;have hgg:ow.row.gen=g:=by rw[hrw]
  obtain⟨h2,h3,b,hb,e2⟩:=hv hgg;refine⟨.pointer (some ⟨b,i*ow.row.size+off+j,none⟩),λw'=>?_,?_⟩
  .simp[execOp,e2,uP]
  .simp only[Ab];exact⟨ow,how,xX,⟨_,rfl⟩,λ_=>⟨h2,by rw[hrw];exact hl,b,hb,by rw[qd]⟩⟩⟩
end Go.Abs
namespace Go.Abs
open Go
def SF (F:Nat->Prop)(w:World):World->Prop:=λw'=>∀b,F b->w'.heap[b]?=w.heap[b]?
section
variable {P : Program} {k : Nat} {ops : Array Oper} {Q : Exit -> St -> Prop} {N f i : Nat} {tm listed' : Array Bool} {s s' : St} {o : Oper}
def AY (P:Program)(k:Nat)(ops:Array Oper)(Q:Exit->St->Prop)(N f:Nat)(tm:Array Bool)(s:St):Prop:=
 s.n=N/\∀F0 os0 w0 F os a w,Rel F os s a w->Ext F0 os0 w0 F os w k->wpAnyH P .any ops (OS k Q F0 os0 w0) (SF F0 w0) f tm a w
def bU (P:Program)(k:Nat)(ops:Array Oper)(Q:Exit->St->Prop)(N f:Nat)(tm:Array Bool)(s:St)(i:Nat):Prop:=
 ∀F0 os0 w0 F os a w,Rel F os s a w->Ext F0 os0 w0 F os w k->wpOp P ops (OS k Q F0 os0 w0) i (λa' w'=>SF F0 w0 w'/\wpAnyH P .any ops (OS k Q F0 os0 w0) (SF F0 w0) f (tm.setIfInBounds i true) a' w') a w
def gP (P:Program)(k:Nat)(ops:Array Oper)(Q:Exit->St->Prop)(N f:Nat)(tm:Array Bool)(s:St):List Nat->Prop
 | []=>True
 |i::r=>bU P k ops Q N f tm s i/\gP P k ops Q N f tm s r
theorem gP.get:∀{l:List Nat},gP P k ops Q N f tm s l->∀i∈l,bU P k ops Q N f tm s i
 |j::r,h,i,hi=>by
  rcases pK.1 hi with rfl|hi
  .exact h.1
  .exact gP.get h.2 i hi
theorem AY.all (rs:List Nat)(hn:s.n=N)(hr:Region.ready .any ops tm=rs)(uq:rs≠[])(h:gP P k ops Q N f tm s rs):AY P k ops Q N (f+1) tm s:=
 ⟨hn,λF0 os0 w0 F os a w hrel he=>wpAnyH_all hr uq λi hi=>h.get i hi F0 os0 w0 F os a w hrel he⟩
theorem Si (hn:s.n=N)(hr:Region.ready .any ops tm=[])(h:Q .normal s):AY P k ops Q N f tm s:=
 ⟨hn,λ_ _ _ F os a w hrel he=>wpAnyH_done hr ⟨s,F,os,⟨rfl,h⟩,hrel,he⟩ f⟩
theorem Mw (hw:Wk k s s')(h:AY P k ops Q N f tm s')(hn:s.n=N):AY P k ops Q N f tm s:=
 ⟨hn,λF0 os0 w0 F os a w hrel he=>by
  obtain⟨F1,vD,h1,e1⟩:=hw F os a w hrel;exact h.2 F0 os0 w0 F1 vD a w h1 (he.trans e1)⟩
theorem ZR (h:tm=listed')(ha:AY P k ops Q N f tm s):AY P k ops Q N f listed' s:=h▸ha
theorem VG (h :∀A:Nat->Array Bool->St->Prop,(∀f l s,A f l s↔AY P k ops Q N f l s)->A f tm s):AY P k ops Q N f tm s:=
 h (AY P k ops Q N) (λ_ _ _=>Iff.rfl)
theorem bU.of (ho:ops[i]?=some o)(hg:Ou o i=true)(hd:(ops.toList.all λo=>Cy s.n o.dst)=true)
  (h:AO P k (ops.extract 0 (i+1)) (λe s'=>e=.normal/\AY P k ops Q N f (tm.setIfInBounds i true) s') ((ops.toList.take i).map (·.dst)) [o] s):bU P k ops Q N f tm s i:=by
 intro F0 os0 w0 F os a w hrel he;have hi:i<ops.size:=(px.1 ho).1;have hex:∀j,(ops.extract 0 (i+1))[j]?=if j<i+1 then ops[j]? else none:=λj=>by
  rw[Array.getElem?_extract];split<;>split<;>simp_all<;>omega
 have h1:=h (λj=>by
   have hlen:((ops.toList.take i).map (·.dst)).length=i:=by simp;omega
   rw[hlen,hex];cases j with
   |zero=>simp[ho]
   |succ j=>rw[pJ (by omega)];simp) (λj d hj=>by
   simp only[pB,pn]at hj;split at hj
   .rw[hex,pI (by omega)];simpa using hj
   .cases hj) (λo' uw=>by
   obtain⟨j,hj⟩:=pY.1 uw;rw[qw,hex]at hj;split at hj
   .exact pG.1 hd o' (ov (i:=j) (by simpa using hj))
   .cases hj) F os a w hrel (λe a' w'=>e=.normal/\SF F0 w0 w'/\wpAnyH P .any ops (OS k Q F0 os0 w0) (SF F0 w0) f (tm.setIfInBounds i true) a' w') (by
   rintro e a' w' ⟨s',F',os',⟨rfl,hax⟩,vg,he'⟩;exact⟨rfl,(he.trans he').Ix,hax.2 F0 os0 w0 F' os' a' w' vg (he.trans he')⟩)
 have hy:Region.wanted o (yielded (ops.extract 0 (i+1)) a.tmps)=Region.wanted o (yielded ops a.tmps):=by
  unfold Region.wanted;unfold Ou at hg;cases hgd:o.guard with
  |none=>rfl
  |some p=>
   obtain⟨j,want⟩:=p;rw[hgd]at hg;simp only[pP]at hg;simp only[yielded,hex,pI hg]
 unfold wpList at h1;unfold wpOp;simp only[ho];rw[hy]at h1;split at h1
 .rename_i hw;rw[pI hw];rcases h1 with h1|⟨_,a1,w1,h1,_⟩
  .refine .inl (Oper.wp_mono (λa' w' h'=>?_) (PG (λc a' w' h'=>?_) (λh'=>?_) h1))
   .exact h'.2
   .exact nomatch h'.1
   .obtain⟨_,_,h2,_⟩:=h';exact nomatch h2
  .exact nomatch h1
 .rename_i hw;rw[pJ hw];exact h1.2
theorem V4 (i:Nat){v:AV}(hn:s.n=N)(ho:ops[i]?=some o)(hs:Region.noSelect ops=true)(hf:Region.free .any ops tm i=true)(hr:(Region.ready .any ops tm).contains i=true)(hd:Cy s.n o.dst=true)(hh:Pd P s o v)
  (h:AY P k ops Q N f (tm.setIfInBounds i true) (s.put o.dst v)):AY P k ops Q N (f+1) tm s:=
 ⟨hn,λF0 os0 w0 F os a w hrel he=>by
  obtain⟨hg,hh⟩:=hh;obtain⟨u,hu,hv⟩:=hh F os a w hrel;refine wpAnyH_take ho hs hf hr (λc a w ⟨_,_,_,hp,_⟩=>nomatch hp.1) (.inl ⟨by unfold Region.wanted;rw[hg],λw' _=>hu w'⟩) he.Ix ?_;exact h.2 F0 os0 w0 F os _ w (hrel.put hd hv) he⟩
def AZ (P:Program)(k:Nat)(ops:Array Oper)(Q:Exit->St->Prop)(N f:Nat)(tm:Array Bool)(s:St):Prop:=
 s.n=N/\∀F os a w,Rel F os s a w->wpAnyH P .any ops (OS k Q F os w) (SF F w) f tm a w
theorem Xl {f':Nat}(hf:f=f')(hl:tm=listed')(h:AZ P k ops Q N f' listed' s):AZ P k ops Q N f tm s:=hf▸hl▸h
theorem Xv (h:AY P k ops Q N f tm s):AZ P k ops Q N f tm s:=
 ⟨h.1,λF os a w hr=>h.2 F os w F os a w hr (Ext.refl F os w k)⟩
theorem Qh {id:Nat}(hm:P.follows .mixedOrders=true)(h:AZ P k ops Q s.n ops.size (Array.replicate ops.size false) s):AW P k (.region id ops true) Q s:=by
 intro F os a w hr;obtain⟨hr1,he1⟩:=hr.drew (k:=k);refine rn (wp_region_held hm (h.2 F os a w.drew hr1)) ?_;rintro e a' w' ⟨s',F',os',⟨rfl,hq⟩,h1,h2⟩;exact⟨s',F',os',hq,h1,he1.trans h2⟩
def RX (P:Program)(s:St)(o:Oper)(v:AV):Prop:=
 o.guard=none/\∀F os a w,Rel F os s a w->∃u,(∀w',SF F w w'->(execOp a.eval o).run P w'=.ok (.value u) w')/\Ab F w os v u
theorem Fa {v:AV}(h:Pd P s o v):RX P s o v:=⟨h.1,λF os a w hr=>let ⟨u,h1,h2⟩:=h.2 F os a w hr;⟨u,λw' _=>h1 w',h2⟩⟩
theorem DX (i:Nat){v:AV}(hn:s.n=N)(ho:ops[i]?=some o)(hs:Region.noSelect ops=true)(hf:Region.free .any ops tm i=true)(hr:(Region.ready .any ops tm).contains i=true)(hd:Cy s.n o.dst=true)(hh:RX P s o v)
  (h:AZ P k ops Q N f (tm.setIfInBounds i true) (s.put o.dst v)):AZ P k ops Q N (f+1) tm s:=
 ⟨hn,λF os a w hrel=>by
  obtain⟨hg,hh⟩:=hh;obtain⟨u,hu,hv⟩:=hh F os a w hrel;refine wpAnyH_take ho hs hf hr (λc a w ⟨_,_,_,hp,_⟩=>nomatch hp.1) (.inl ⟨by unfold Region.wanted;rw[hg],hu⟩) (λ_ _=>rfl) ?_;exact h.2 F os _ w (hrel.put hd hv)⟩
end
section
variable {P : Program} {n : Nat} {e : Nat -> AV} {st : List Row} {t : Tmp} {ty : TypeId} {ps : String} {ed : Array Edge} {x : Operand}
theorem NN {off yF j f:Nat}{tt:TypeId}{cs:List AV}(hf:IH P tt f=some j)(h:St.ev ⟨n,e,st⟩ x=.C9 cs off)(ho:off+j=yF):Pd P ⟨n,e,st⟩ ⟨some t,.fieldAddr tt x f,ty,ps,ed,none⟩ (.C9 cs yF):=
 ⟨rfl,λF os a w hr=>by
  subst ho;have h1:=hr.ev x;rw[h]at h1;unfold IH at hf;split at hf<;>try (cases hf;done)
  rename_i fs hu;split at hf<;>try (cases hf;done)
  rename_i g1 hg;split at hf<;>try (cases hf;done)
  rename_i i1 hi;split at hf
  .cases hf
  rename_i hz;simp only[pC]at hf;have uP:∀b off w',(Instr.fieldAt tt (.pointer (some ⟨b,off,none⟩)) f).run P w'=.ok (.pointer (some ⟨b,off+j,none⟩)) w':=λb off w'=>by
   simp[Instr.fieldAt,qQ hu,hg,Instr.sureAddr,fieldPlace,sizeOf,typeInfo,hi,hz,Ce,hf]
  simp only[Ab]at h1;obtain⟨b,o',e2,hb,hc⟩:=h1;refine⟨.pointer (some ⟨b,o'+off+j,none⟩),λw'=>?_,?_⟩
  .simp[execOp,e2,uP]
  .simp only[Ab];exact⟨b,o',by rw[qd],hb,hc⟩⟩
theorem PZ {off sz:Nat}{tt:TypeId}{cs:List AV}{c:AV}(hti:Dc P tt=some (false,sz))(h:St.ev ⟨n,e,st⟩ x=.C9 cs off)(hc:cs[off]?=some c):RX P ⟨n,e,st⟩ ⟨some t,.load tt x,ty,ps,ed,none⟩ c:=
 ⟨rfl,λF os a w hr=>by
  have h1:=hr.ev x;rw[h]at h1;simp only[Ab]at h1;obtain⟨b,o',e2,hb,vq⟩:=h1;obtain⟨d,i,hud,hi,e1,e3⟩:=Js hti;obtain⟨u,hu1,xB,hu3⟩:=L7 (os:=os) vq off c hc;refine⟨u,λw' hw'=>?_,hu3⟩;have xW:=Lr (w:=w') hud;rw[<- e1]at xW;have vK:w'.cell? ⟨b,o'+off,none⟩=some u:=by rw[<- hu1];exact rY (hw' b hb)
  simp[execOp,e2,Instr.loadAt,Instr.sureAddr,loadVar,xW,vK]⟩
theorem Vs {off sz:Nat}{tt:TypeId}{cs:List AV}{c:AV}(hti:Dc P tt=some (true,sz))(h:St.ev ⟨n,e,st⟩ x=.C9 cs off)(hl:off+sz<=cs.length)(hc:.agg ((cs.drop off).take sz)=c):RX P ⟨n,e,st⟩ ⟨some t,.load tt x,ty,ps,ed,none⟩ c:=
 ⟨rfl,λF os a w hr=>by
  subst hc;have h1:=hr.ev x;rw[h]at h1;simp only[Ab]at h1;obtain⟨b,o',e2,hb,vq⟩:=h1;obtain⟨d,i,hud,hi,e1,e3⟩:=Js hti;have hx:=L7 (os:=os) vq;have hch:∃f:Nat->Value,∀j,j<sz->w.cell? ((⟨b,o'+off,none⟩:Addr).add j)=some (f j)/\∀c,cs[off+j]?=some c->Ab F w os c (f j):=
   ⟨λj=>(w.cell? ((⟨b,o'+off,none⟩:Addr).add j)).getD undef,λj hj=>by
    have uU:off+j<cs.length:=by omega
    obtain⟨u,hu1,_,xB⟩:=hx (off+j) cs[off+j] (pF uU);have hu1':w.cell? ((⟨b,o'+off,none⟩:Addr).add j)=some u:=by rw[Ce,<- hu1,qd]
    simp only[hu1',rK];refine⟨oz,λc hc=>?_⟩;rw[pF uU,pC]at hc;exact hc▸xB⟩
  obtain⟨f,hf⟩:=hch;refine⟨.agg ((List.range sz).map f).toArray,λw' hw'=>?_,?_⟩
  .have xW:=Lr (w:=w') hud;rw[<- e1]at xW;have ue:(sizeOf tt).run P w'=.ok i.size w':=by simp[sizeOf,typeInfo,hi]
   have hlc:=run_loadCells (P:=P) w' ⟨b,o'+off,none⟩ sz f (λj hj=>by
    rw[<- (hf j hj).1,Ce];exact rY (hw' b hb))
   simp only at e3;simp[execOp,e2,Instr.loadAt,Instr.sureAddr,loadVar,xW,ue,<- e3,hlc]
  .simp only[Ab];refine⟨_,rfl,Db (by simp;omega) λj c u hc hu=>?_⟩;simp only[pn,qH]at hc;split at hc
   .rename_i hj;simp only[pB,rR hj,qF,pC]at hu;subst hu;exact (hf j hj).2 c hc
   .cases hc⟩
end
section
variable {P : Program} {k : Nat} {α : Type} {l : List α} {enc : α -> List AV}
variable {ops : Array Oper} {Q : Exit -> St -> Prop} {ds : List (Option Tmp)} {r : List Oper} {n : Nat} {e : Nat -> AV} {st st' : List Row} {ty : TypeId} {ps : String} {ed : Array Edge} {v : AV} {gd : Option (Nat × Bool)} {T : TypeId} {x y : Operand} {ag : Bool} {sz id g size off : Nat} {el : TypeId} {cs cs' : List AV} {c : α} {i : Int}
end
end Go.Abs
namespace Go.Abs
open Go
end Go.Abs
namespace Go.Abs
open Go
def Un (size:Nat):Nat->List (Nat×AV)->List (List AV)->Prop
 |_,[],[]=>True
 |k,(i,v)::r,c::cs=>i=k/\J9 v=some c/\c.length=size/\Un size (k+1) r cs
 |_,_,_=>False
theorem Un.len {size:Nat}:∀{k:Nat} {pv:List (Nat×AV)} {css:List (List AV)},Un size k pv css->pv.length=css.length/\∀c∈css,c.length=size
 |_,[],[],_=>⟨rfl,by simp⟩
 |k,(i,v)::r,c::cs,h=>by
  obtain⟨h1,h2⟩:=Un.len h.2.2.2;refine⟨by simp[h1],λx hx=>?_⟩;rcases pK.1 hx with rfl|hx
  .exact h.2.2.1
  .exact h2 x hx
theorem V0 {size:Nat}:∀(pv:List (Nat×AV)) (css:List (List AV)) (k:Nat) (pre rest:List AV),pre.length=k*size->rest.length=pv.length*size->Un size k pv css->Md (λi=>some (i*size,size)) (pre++rest) pv=some (pre++css.flatten)
 | [],[],k,pre,rest,_,h2,_=>by
  have:rest=[]:=qM (by simpa using h2);subst this;rfl
 |(i,v)::r,c::cs,k,pre,rest,h1,h2,h=>by
  obtain⟨rfl,hv,hc,hr⟩:=h;rw[po,pt,Nat.one_mul]at h2;have uU:size<=rest.length:=by omega
  unfold Md;simp only[hv];rw[pI ⟨hc,by rw[pU];omega⟩];have hs:HL (pre++rest) (i*size) c=(pre++c)++rest.drop size:=by
   unfold HL;rw[<- h1,List.take_left,hc,List.drop_append,rS (by omega),qS,show pre.length+size-pre.length=size by omega]
  rw[hs,V0 r cs (i+1) (pre++c) (rest.drop size) (by rw[pU,pt];omega) (by rw[rb];omega) hr];simp
theorem Vy {size:Nat}:∀(css:List (List AV)),(∀c∈css,c.length=size)->chunk size css.length css.flatten=css
 | [],_=>rfl
 |c::cs,h=>by
  have hc:=h c (by simp);show (c++cs.flatten).take size::chunk size cs.length ((c++cs.flatten).drop size)=_;rw[<- hc,List.take_left,List.drop_left,hc,Vy cs λx hx=>h x (by simp[hx])]
theorem Wk.pk {k n:Nat}{e:Nat->AV}{st st':List Row}{L:List (Nat×AV)}(sel:List Nat)(hk:sel.take k=List.range k)(vu:sel.Nodup)(uU:sel.all (·<st.length)=true)(hp:CE st sel=st')(hs:SR sel st' st')(h:ME (λt=>Jn sel (e t)) L):
  Wk k ⟨n,e,st⟩ ⟨n,AP L,st'⟩:=N1 sel hk vu uU hp hs h
section
variable {P : Program} {k : Nat} {α : Type} {l : List α} {enc : α -> List AV} {ops : Array Oper} {Q : Exit -> St -> Prop} {ds : List (Option Tmp)} {r : List Oper} {n : Nat} {e : Nat -> AV} {st st' : List Row} {ty : TypeId} {ps : String} {ed : Array Edge} {t : Tmp} {gd : Option (Nat × Bool)} {T : TypeId} {bytes size m : Nat} {el : TypeId} {zz : List AV}
theorem lh {len:Nat}{parts:Array (Nat×Operand)}{pv:List (Nat×AV)}(hg:GO ds gd e)(he:DB P T=some ⟨el,size,bytes,zz⟩)(hle:len*size<=16777216)(hp:(parts.toList.map λp=>(p.1,St.ev ⟨n,e,st⟩ p.2))=pv)
  (hz:zz.length=size) (hf:Un size 0 pv (l.map enc)) (hln:len=l.length) (hm:st.length=m) (uV:st++[⟨0,el,size,l.map enc⟩]=st') (hk:AO P k ops Q (ds++[some t]) r ⟨n,DQ e t (.own m 0 l.length),st'⟩) :
  AO P k ops Q ds (⟨some t,.buildSlice T len parts,ty,ps,ed,gd⟩::r) ⟨n,e,st⟩:=by
 obtain⟨h1,h2⟩:=hf.len;have hl:(l.map enc).length=len:=by rw[pR,hln]
 have ha:=V0 pv (l.map enc) 0 [] (List.replicate len zz).flatten (by simp) (by rw[h1,hl];simp[hz]) hf;rw[qS,qS]at ha;refine So (cs:=(l.map enc).flatten) hg he hle hp ha ?_ hln hm uV hk;rw[<- hl];exact Vy _ h2
end
end Go.Abs
namespace Go.Abs
open Go
section
variable {P : Program} {k : Nat} {ops : Array Oper} {Q : Exit -> St -> Prop} {ds : List (Option Tmp)} {r : List Oper} {n : Nat} {e : Nat -> AV} {st st' : List Row} {ty : TypeId} {ps : String} {ed : Array Edge} {gd : Option (Nat × Bool)} {T : TypeId} {x y : Operand} {size id g sz : Nat} {el : TypeId} {α : Type} {l : List α} {enc : α -> List AV} {c : α} {i : Int} {v : AV} {cs x0 : List AV} {ag : Bool}
end
end Go.Abs
namespace Go.Abs
open Go
structure MS where
 n:Nat
 e:Nat->AV
 x:Row
 z:List Row
def MS.st (R:List Row)(m:MS):St:=⟨m.n,m.e,m.x::(R++m.z)⟩
def MS.put (m:MS)(d:Option Tmp)(v:AV):MS:=match d with
 |some d=>{ m with e:=DQ m.e d v }
 |none=>m
theorem PA (R:List Row)(m:MS)(d:Option Tmp)(v:AV):(m.put d v).st R=(m.st R).put d v:=by cases d<;>rfl
theorem Nz (m:MS)(d:Option Tmp)(v:AV):(m.put d v).x=m.x:=by cases d<;>rfl
theorem N3 (m:MS)(d:Option Tmp)(v:AV):(m.put d v).z=m.z:=by cases d<;>rfl
theorem N6 (m:MS)(d:Option Tmp)(v:AV):(m.put d v).n=m.n:=by cases d<;>rfl
def MS.ev (m:MS)(x:Operand):AV:=St.ev ⟨m.n,m.e,[]⟩ x
theorem Vl (R:List Row)(m:MS)(x:Operand):(m.st R).ev x=m.ev x:=by cases x<;>rfl
inductive Kind where
 |q
 |l (x y:Row)
 |a (row:Row)
def Kind.D:Kind->Row->List Row->Prop
 |.q,_,_=>True
 |.l x0 _,x,_=>x=x0
 |.a _,_,z=>z=[]
def Kind.fx:Kind->Row->Row
 |.l _ y,_=>y
 |_,x=>x
def Kind.fz:Kind->List Row->List Row
 |.a row,_=>[row]
 |_,z=>z
def Vr (o:Oper):Bool:=match o.op with
 |.call ⟨.value _,_,_⟩=>true
 |_=>false
def Vd (o:Oper):Bool:=match o.op with
 |.alloc _=>true
 |_=>false
def Kind.fits:Kind->Oper->Prop
 |.q,_=>True
 |.l ..,o=>Vr o=true
 |.a _,o=>Vd o=true
def MS.go (m:MS)(kd:Kind):MS:=⟨m.n,m.e,kd.fx m.x,kd.fz m.z⟩
section
variable {P : Program} {k : Nat} {ops : Array Oper} {md : Region.Mode} {R : List Row}
def oc (P:Program)(k:Nat)(o:Oper)(s s':St):Prop:=
 ∀(F:Nat->Prop) (os:List Own) (a:Act) (w:World),Rel F os s a w->∀(next:Act->World->Prop) (Q:Exit->Act->World->Prop),
  (∀a' w',Step k s.n F os w (·=s') a' w'->next a' w')->o.wp P a w next Q
def fW (P:Program)(k:Nat)(R:List Row)(o:Oper)(n:Nat)(ev:Operand->AV)(kd:Kind)(v:AV):Prop:=
 ∀x z e,kd.D x z->(∀y∈o.op.operands,MS.ev ⟨n,e,x,z⟩ y=ev y)->Cy n o.dst=true->oc P k o (MS.st R ⟨n,e,x,z⟩) (MS.st R ((MS.go ⟨n,e,x,z⟩ kd).put o.dst v))
def oL (P:Program)(k:Nat)(R:List Row)(o:Oper)(m m':MS):Prop:=
 ∃kd v,Kind.fits kd o/\kd.D m.x m.z/\m'=(m.go kd).put o.dst v/\fW P k R o m.n m.ev kd v
def MT (P:Program)(k:Nat)(R:List Row)(ops:Array Oper)(o:Oper)(m m':MS):Prop:=
 (GG ops o (m.st R)=some true/\oL P k R o m m')∨(GG ops o (m.st R)=some false/\m'=m.put o.dst .un)
def YY (P:Program)(k:Nat)(R:List Row)(ops:Array Oper)(i:Nat)(K:MS->Prop)(m:MS):Prop:=
 match ops[i]? with
 |none=>K m
 |some o=>∃m',MT P k R ops o m m'/\K m'
theorem Xs {m:MS}{d:Option Tmp}{v:AV}{x:Operand}(h :∀t,d=some t->x≠.tmp t):(m.put d v).ev x=m.ev x:=by
 cases d with
 |none=>rfl
 |some d=>
  cases x with
  |tmp t=>
   have uq:t≠d:=λe=>h d rfl (e▸rfl);simp[MS.ev,MS.put,St.ev,DQ,uq]
  |_=>rfl
theorem NA (m:MS){x y:Option Tmp}(v u:AV)(h :∀d,x=some d->y≠some d):(m.put x v).put y u=(m.put y u).put x v:=by
 cases x with
 |none=>rfl
 |some d=>
  cases y with
  |none=>rfl
  |some e=>
   have uq:d≠e:=λhe=>h d rfl (he▸rfl);simp only[MS.put,MS.mk.injEq,true_and,and_true];funext t;simp only[DQ];by_cases h1:t=d
   .subst h1;simp[uq]
   .by_cases h2:t=e
    .subst h2;simp[h1]
    .simp[h1,h2]
theorem Wr (m:MS)(kd:Kind)(d:Option Tmp)(v:AV):(m.put d v).go kd=(m.go kd).put d v:=by cases d<;>rfl
theorem XX {o:Oper}{m:MS}:GG ops o (m.st R)=GG ops o ⟨m.n,m.e,[]⟩:=rfl
theorem H2 {oi:Oper}{m:MS}{d:Option Tmp}{u:AV}{kd:Kind}(hd :∀t,d=some t->t ∉ oi.looksAt ops):GG ops oi (((m.go kd).put d u).st R)=GG ops oi (m.st R):=by
 rw[XX,XX];unfold GG;cases hg:oi.guard with
 |none=>rfl
 |some p=>
  obtain⟨j,want⟩:=p;dsimp only;cases ht:(ops[j]?).bind (·.dst) with
  |none=>rfl
  |some t=>
   dsimp only;have:((m.go kd).put d u).e t=m.e t:=Xs (m:=m.go kd) (x:=.tmp t) λt' ht' e=>hd t' ht' (by
    cases e;exact qZ _ (by simp[hg,ht]))
   rw[this]
theorem L9 {oi:Oper}{m:MS}{d:Option Tmp}{u:AV}(hd :∀t,d=some t->t ∉ oi.looksAt ops):∀x∈oi.op.operands,(m.put d u).ev x=m.ev x:=λx hx=>
 Xs λt ht hxt=>hd t ht (by
  subst hxt;exact qN _ (qg.2 ⟨.tmp t,by simpa using hx,rfl⟩))
theorem fW.congr {o:Oper}{n:Nat}{ev ev':Operand->AV}{kd:Kind}{v:AV}(h:fW P k R o n ev kd v)(he :∀y∈o.op.operands,ev' y=ev y):fW P k R o n ev' kd v:=
 λx z e hD ho hd=>h x z e hD (λy hy=>(ho y hy).trans (he y hy)) hd
theorem eQ {ki kj:Kind}{oi oj:Oper}(hi:ki.fits oi)(hj:kj.fits oj)(hf:¬ (Vr oi=true/\Vr oj=true))(ha:¬ (Vd oi=true/\Vd oj=true)){x:Row}{z:List Row}(h1:ki.D x z)(h2:kj.D (ki.fx x) (ki.fz z)):
  kj.D x z/\ki.D (kj.fx x) (kj.fz z)/\ki.fx (kj.fx x)=kj.fx (ki.fx x)/\ki.fz (kj.fz z)=kj.fz (ki.fz z):=by
 cases ki with
 |q=>exact⟨h2,oz,rfl,rfl⟩
 |l x0 y=>
  cases kj with
  |q=>exact⟨oz,h1,rfl,rfl⟩
  |l x1 y1=>exact absurd ⟨hi,hj⟩ hf
  |a row=>exact⟨h2,h1,rfl,rfl⟩
 |a row=>
  cases kj with
  |q=>exact⟨oz,h1,rfl,rfl⟩
  |l x1 y1=>exact⟨h2,h1,rfl,rfl⟩
  |a row1=>exact absurd ⟨hi,hj⟩ ha
theorem jc {oi oj:Oper}{m mi mij:MS}(hap:oi.apart ops oj=true)(hf:¬ (Vr oi=true/\Vr oj=true))(ha:¬ (Vd oi=true/\Vd oj=true))(hi:MT P k R ops oi m mi)(hj:MT P k R ops oj mi mij):
  ∃mj,MT P k R ops oj m mj/\MT P k R ops oi mj mij:=by
 obtain⟨h1,h2,h3⟩:=Oper.apart_spec hap;have hq:∀(m:MS),m.go .q=m:=λm=>rfl;rcases hi with ⟨wi,ki,vi,fi,di,rfl,gi⟩|⟨wi,rfl⟩<;>rcases hj with ⟨wj,kj,vj,fj,dj,rfl,gj⟩|⟨wj,rfl⟩
 .rw[H2 h1]at wj;rw[Nz,N3]at dj;obtain⟨e1,e2,e3,e4⟩:=eQ fi fj hf ha di dj;refine⟨(m.go kj).put oj.dst vj,.inl ⟨wj,kj,vj,fj,e1,rfl,?_⟩,.inl ⟨by rw[H2 h3];exact wi,ki,vi,fi,by rw[Nz,N3];exact e2,?_,?_⟩⟩
  .rw[N6]at gj;exact gj.congr λy hy=>(L9 (m:=m.go ki) (u:=vi) h1 y hy).symm
  .rw[Wr,Wr,<- NA _ vi vj h2];congr 2;simp only[MS.go,e3,e4]
  .rw[N6];exact gi.congr λy hy=>L9 (m:=m.go kj) h3 y hy
 .rw[H2 h1]at wj;refine⟨m.put oj.dst .un,.inr ⟨wj,rfl⟩,.inl ⟨by have:=H2 (R:=R) (m:=m) (kd:=.q) (u:=.un) h3;rw[hq]at this;rw[this];exact wi,ki,vi,fi,by rw[Nz,N3];exact di,?_,?_⟩⟩
  .rw[Wr,<- NA _ vi .un h2]
  .rw[N6];exact gi.congr λy hy=>L9 h3 y hy
 .have h5:=H2 (R:=R) (m:=m) (kd:=.q) (u:=.un) h1;rw[hq]at h5;rw[h5]at wj;rw[Nz,N3]at dj;refine⟨(m.go kj).put oj.dst vj,.inl ⟨wj,kj,vj,fj,dj,rfl,?_⟩,.inr ⟨by rw[H2 h3];exact wi,?_⟩⟩
  .rw[N6]at gj;exact gj.congr λy hy=>(L9 h1 y hy).symm
  .rw[Wr,<- NA _ .un vj h2]
 .have h5:=H2 (R:=R) (m:=m) (kd:=.q) (u:=.un) h1;have h6:=H2 (R:=R) (m:=m) (kd:=.q) (u:=.un) h3;rw[hq]at h5 h6;rw[h5]at wj;exact⟨m.put oj.dst .un,.inr ⟨wj,rfl⟩,.inr ⟨by rw[h6];exact wi,by rw[<- NA _ .un .un h2]⟩⟩
def anyM (P:Program)(k:Nat)(R:List Row)(md:Region.Mode)(ops:Array Oper)(n:Nat)(L:Array Bool->MS->Prop):Nat->Array Bool->MS->Prop
 |0,tm,s=>L tm s
 |f+1,tm,s=>Region.ready md ops tm≠[]/\∀i∈Region.ready md ops tm,i<n/\YY P k R ops i (anyM P k R md ops n L f (tm.setIfInBounds i true)) s
theorem ZD {F:Nat->Prop}{os:List Own}{a:Act}{w:World}{i:Nat}{K:MS->Prop}{m:MS}(vL :∀o∈ops.toList,Cy m.n o.dst=true)(hr:Rel F os (m.st R) a w)(h:YY P k R ops i K m){next:Act->World->Prop}{Q:Exit->Act->World->Prop}
  (hn :∀a' w',Step k m.n F os w (λs=>∃m',s=m'.st R/\K m') a' w'->next a' w'):wpOp P ops Q i next a w:=by
 unfold YY at h;unfold wpOp;split
 .rename_i ho;simp only[ho]at h;exact hn a w ⟨m.st R,F,os,rfl,⟨m,rfl,h⟩,hr,Ext.refl _ _ _ _⟩
 .rename_i o ho;simp only[ho]at h;obtain⟨m',hy,hK⟩:=h;have zU:=vL o (by have:=ov (l:=ops.toList) (i:=i) (by simpa using ho);exact this);rcases hy with ⟨hw,kd,v,_,hD,rfl,hg⟩|⟨hw,rfl⟩
  .rw[pI (N4 hr vL hw)];refine .inl (hg m.x m.z m.e hD (λ_ _=>rfl) zU F os a w hr next Q ?_);rintro a' w' ⟨s',F',os',h1,rfl,h3,h4⟩;exact hn a' w' ⟨_,F',os',h1,⟨_,rfl,hK⟩,h3,h4⟩
  .rw[pJ (by rw[N4 hr vL hw];simp)];exact hn _ w ⟨_,F,os,by rw[PA];cases o.dst<;>rfl,⟨_,rfl,hK⟩,by rw[PA];exact hr.un zU,Ext.refl _ _ _ _⟩
theorem Qu {n g N:Nat}{L:Array Bool->MS->Prop}{Q':Exit->Act->World->Prop}{F0:Nat->Prop}{os0:List Own}{w0:World}(vL :∀o∈ops.toList,Cy N o.dst=true)
  (hL :∀tm (m:MS) F os a w,m.n=N->L tm m->Rel F os (m.st R) a w->Ext F0 os0 w0 F os w k->wpAny P md ops Q' g tm a w) :
  ∀(f:Nat) (tm:Array Bool) (m:MS) F os a w,m.n=N->anyM P k R md ops n L f tm m->Rel F os (m.st R) a w->Ext F0 os0 w0 F os w k->wpAny P md ops Q' (f+g) tm a w
 |0,tm,s,F,os,a,w,hn,h,hr,he=>by rw[qO];exact hL _ _ _ _ _ _ hn h hr he
 |f+1,tm,s,F,os,a,w,hn,h,hr,he=>by
  rw[show f+1+g=(f+g)+1 by omega];refine⟨λh0=>absurd h0 h.1,λi hi=>?_⟩;refine ZD (k:=k) (by rw[hn];exact vL) hr (h.2 i hi).2 ?_;rintro a' w' ⟨s',F',os',h1,⟨m',rfl,h2⟩,h3,h4⟩;exact Qu vL hL f _ m' F' os' a' w' (by rw[<- hn];exact h1) h2 h3 (he.trans h4)
def Jc (ops:Array Oper)(i:Nat):Bool:=match ops[i]? with|some o=>Vr o|none=>false
def RR (ops:Array Oper)(i:Nat):Bool:=match ops[i]? with|some o=>Vd o|none=>false
def ja (md:Region.Mode)(ops:Array Oper)(j i:Nat):Bool:=match ops[j]? with|some o=>o.after.any λe=>Region.binds md e&&e.on==i|none=>false
def Qn (md:Region.Mode)(ops:Array Oper)(n:Nat):Bool:=
 (List.range n).all λj=>(List.range j).all λi=>(!(RR ops i&&RR ops j))&&(!(Jc ops i&&Jc ops j) || ((List.range j).any λm=>decide (i<m)&&Jc ops m) || ja md ops j i)
theorem Qk {n:Nat}(h:Qn md ops n=true){i j:Nat}(zW:i<j)(hj:j<n):¬ (RR ops i=true/\RR ops j=true)/\
  (Jc ops i=true->Jc ops j=true->(∃m,i<m/\m<j/\Jc ops m=true)∨∀oj,ops[j]?=some oj->∃e∈oj.after,Region.binds md e=true/\e.on=i):=by
 unfold Qn at h;have h1:=pG.1 (pG.1 h j (rE.2 hj)) i (rE.2 zW);rw[pZ]at h1;refine⟨λ⟨a,b⟩=>?_,λa b=>?_⟩
 .simp[a,b]at h1
 .have h2:=h1.2;simp only[a,b,sH,qC,Bool.false_or,sJ,rZ,rE,pZ,pP]at h2;rcases h2 with ⟨m,hm,h3,h4⟩|h2
  .exact .inl ⟨m,h3,hm,h4⟩
  .refine .inr λoj xK=>?_;simp only[ja,xK,Array.any_eq_true']at h2;obtain⟨e,he,hb⟩:=h2;simp only[pZ,beq_iff_eq]at hb;exact⟨e,he,hb⟩
theorem aX {n:Nat}(h:Qn md ops n=true){tm:Array Bool}(inv:HeadInv md ops n tm):∀(d i j:Nat),j-i=d->i<j->j<n->Jc ops i=true->Jc ops j=true->
  tm.getD j false=true->tm.getD i false=true:=by
 intro d
 induction d using Nat.strongRecOn with
 |_ d ih=>
  intro i j hd zW hj hi hfj hl;rcases (Qk h zW hj).2 hi hfj with ⟨m,h1,h2,h3⟩|h1
  .have hm:=ih (j-m) (by omega) m j rfl h2 hj h3 hfj hl;exact ih (m-i) (by omega) i m rfl h1 (by omega) hi h3 hm
  .obtain⟨oj,xK⟩ :∃oj,ops[j]?=some oj:=by
    unfold Jc at hfj;split at hfj
    .rename_i o ho;exact⟨o,ho⟩
    .cases hfj
   obtain⟨e,he,hb,rfl⟩:=h1 oj xK;exact inv.closed j oj xK hl e he hb
theorem dC {n:Nat}(h:Qn md ops n=true){tm:Array Bool}(inv:HeadInv md ops n tm){i j:Nat}(zW:i<j)(hj:j<n)(hi:Jc ops i=true)(hfj:Jc ops j=true)
  (hr:j∈Region.ready md ops tm):tm.getD i false=true:=by
 obtain⟨_,oj,xK,vd⟩:=sD.1 hr;have key:∀(d i:Nat),j-i=d->i<j->Jc ops i=true->tm.getD i false=true:=by
  intro d
  induction d using Nat.strongRecOn with
  |_ d ih=>
   intro i hd zW hi;rcases (Qk h zW hj).2 hi hfj with ⟨m,h1,h2,h3⟩|h1
   .exact aX h inv _ i m rfl h1 (by omega) hi h3 (ih (j-m) (by omega) m rfl h2 h3)
   .obtain⟨e,he,hb,rfl⟩:=h1 oj xK;exact vd e he hb
 exact key _ i rfl zW hi
theorem bl {n i:Nat}{oi:Oper}{L:Array Bool->MS->Prop}(hwt:Qn md ops n=true)(hi:ops[i]?=some oi)
  (vx :∀tm,HeadInv md ops n tm->∀i,i<n->tm.getD i true=false->∀t,n<=t->t ∉ Region.ready md ops tm) (vQ:i<n)
  (zC :∀tm s,L tm s->∀j∈Region.ready md ops tm,n<=j) :
  ∀(f:Nat) (tm:Array Bool) (m mi:MS),HeadInv md ops n tm->(∀j,j<i->tm.getD j true=true)->
   (∀j oj,ops[j]?=some oj->j≠i->tm.getD j true=false->(∀e∈oj.after,Region.binds md e=true->e.on≠i)->oi.apart ops oj=true)->
   i∈Region.ready md ops tm->MT P k R ops oi m mi->
   anyM P k R md ops n L f (tm.setIfInBounds i true) mi->anyM P k R md ops n L (f+1) tm m:=by
 have xb:∀{K:MS->Prop} {m mi:MS},MT P k R ops oi m mi->K mi->YY P k R ops i K m:=λ{K m mi} hy h=>by
  unfold YY;simp only[hi];exact⟨mi,hy,h⟩
 intro f
 induction f with
 |zero=>
  intro tm m mi inv hlow _ hr hy H;have we:=(sD.1 hr).1;refine⟨λh=>(by rw[h]at hr;cases hr),λj hj=>?_⟩;have hjn:j<n:=by
   rcases rG j n with h|h
   .exact h
   .exact absurd hj (vx _ inv i vQ we j h)
  refine⟨hjn,?_⟩;by_cases wX:j=i
  .subst wX;exact xb hy H
  .have:=zC _ _ H j (sA hj wX);omega
 |succ f ih=>
  intro tm m mi inv hlow xJ hr hy H;have we:=(sD.1 hr).1;refine⟨λh=>(by rw[h]at hr;cases hr),λj hj=>?_⟩;have hjn:j<n:=by
   rcases rG j n with h|h
   .exact h
   .exact absurd hj (vx _ inv i vQ we j h)
  refine⟨hjn,?_⟩;by_cases wX:j=i
  .subst wX;exact xb hy H
  .have h1:=(H.2 j (sA hj wX)).2;obtain⟨yC,oj,xK,vd⟩:=sD.1 hj;have hnot:∀e∈oj.after,Region.binds md e=true->e.on≠i:=λe he hb heq=>by
    have h1:=vd e he hb;rw[heq,getD_both we]at h1;cases h1
   have uU:i<j:=by
    rcases qk i j with h|h|h
    .exact h
    .exact absurd h.symm wX
    .have:=hlow j h;rw[yC]at this;cases this
   have hfn:¬ (Vr oi=true/\Vr oj=true):=λ⟨h1,h2⟩=>by
    have:=dC hwt inv uU hjn (by simp[Jc,hi,h1]) (by simp[Jc,xK,h2]) hj;rw[getD_both we]at this;cases this
   have hal:¬ (Vd oi=true/\Vd oj=true):=λ⟨h1,h2⟩=>
    (Qk hwt uU hjn).1 ⟨by simp[RR,hi,h1],by simp[RR,xK,h2]⟩
   unfold YY at h1;simp only[xK]at h1;obtain⟨mij,hmt,hK⟩:=h1;obtain⟨mj,g1,g2⟩:=jc (xJ j oj xK wX yC hnot) hfn hal hy hmt;unfold YY;simp only[xK];refine⟨mj,g1,ih (tm.setIfInBounds j true) mj mij (inv.set hj hjn) (λq hq=>?_) ?_ (sA hr (qv wX)) g2 ?_⟩
   .rw[sZ true (by omega)];exact hlow q hq
   .intro k ok hk hki we hno;refine xJ k ok hk hki ?_ hno;by_cases hjk:j=k
    .subst hjk;exact yC
    .rw[sZ true hjk]at we;exact we
   .rw[sG _ _ wX];exact hK
def JC (P:Program)(k:Nat)(R:List Row):List (Option Tmp)->List Oper->(MS->Prop)->MS->Prop
 |_,[],K,m=>K m
 |ds,o::r,K,m=>Jf ds o (m.st R) (∃m',oL P k R o m m'/\JC P k R (ds++[o.dst]) r K m') (JC P k R (ds++[o.dst]) r K (m.put o.dst .un))
theorem ZY {n g:Nat}{K:MS->Prop}(hwt:Qn md ops n=true)(vx :∀tm,HeadInv md ops n tm->∀i,i<n->tm.getD i true=false->∀t,n<=t->t ∉ Region.ready md ops tm):
  ∀(l:List Oper) (ds:List (Option Tmp)) (tm:Array Bool) (m:MS),(∀(j:Nat),j<l.length->l[j]?=ops[ds.length+j]?)->(∀(j:Nat) d,ds[j]?=some d->(ops[j]?).map (·.dst)=some d)->ds.length+l.length=n->HeadInv md ops n tm->
  (∀j,j<ds.length->tm.getD j true=true)->
  Region.lexHead md ops g l.length ds.length tm=true->JC P k R ds l K m->
  anyM P k R md ops n (λlisted' s'=>Region.seqB md ops g n listed'=true/\K s') l.length tm m
 | [],ds,tm,s,_,_,hk,_,_,hB,h=>by
  have:ds.length=n:=by simpa using hk
  subst this;exact⟨by simpa [Region.lexHead] using hB,h⟩
 |o::l,ds,tm,s,hl,yB,hk,inv,hlow,hB,h=>by
  have h0:ops[ds.length]?=some o:=by simpa using (hl 0 (by simp)).symm
  simp only[po,Region.lexHead,pZ]at hB;obtain⟨⟨hr,hf⟩,hB'⟩:=hB;have hkn:ds.length<n:=by simp only[po]at hk;omega
  have vg:ds.length∈Region.ready md ops tm:=by simpa using hr
  have yD :∀(j:Nat) d,(ds++[o.dst])[j]?=some d->(ops[j]?).map (·.dst)=some d:=λj d hj=>by
   rcases qk j ds.length with h1|h1|h1
   .rw[pM h1]at hj;exact yB j d hj
   .subst h1;rw[J1,pC]at hj;rw[h0];simp[hj]
   .rw[qA (by simp;omega)]at hj;cases hj
  have hlow' :∀j,j<(ds++[o.dst]).length->(tm.setIfInBounds ds.length true).getD j true=true:=λj hj=>by
   simp only[pU,po,qi]at hj;by_cases hjd:ds.length=j
   .subst hjd;rcases rG ds.length tm.size with h5|h5
    .simp[h5]
    .simp[sP h5]
   .rw[sZ true hjd];exact hlow j (by omega)
  have vl:∀s',JC P k R (ds++[o.dst]) l K s'->anyM P k R md ops n (λlisted' s'=>Region.seqB md ops g n listed'=true/\K s') l.length (tm.setIfInBounds ds.length true) s':=λs' hs'=>
   ZY hwt vx l (ds++[o.dst]) _ s' (λj hj=>by
    have:=hl (j+1) (by simp;omega);simp only[py]at this;rw[this];congr 1;simp;omega) yD (by simp only[po,pU,qi]at hk⊢;omega) (inv.set vg hkn) hlow' (by simpa using hB') hs'
  have xc:∀m',MT P k R ops o s m'->JC P k R (ds++[o.dst]) l K m'->anyM P k R md ops n (λlisted' s'=>Region.seqB md ops g n listed'=true/\K s') (l.length+1) tm s:=λm' hy hK=>
   bl hwt h0 vx hkn (λlisted' s' hL=>seqB_ready hL.1) l.length tm s m' inv hlow (tF h0 hf) vg hy (vl _ hK)
  simp only[JC]at h;rcases Xb yB h with ⟨hw,m',h1,h2⟩|⟨hw,h1⟩
  .exact xc m' (.inl ⟨hw,h1⟩) h2
  .exact xc _ (.inr ⟨hw,rfl⟩) h1
theorem AW.eE {id n:Nat}{e:Nat->AV}{x:Row}{Q:Exit->St->Prop}(R:List Row)(m:Nat)(hm:P.follows .mixedOrders=true)(hB:Region.lexTailB .any ops m=true)(hw:Qn .any ops m=true)(hd:(ops.toList.all λo=>Cy n o.dst)=true)
  (h:JC P k R [] (ops.toList.take m) (λs'=>AO P k ops Q ((ops.toList.take m).map (·.dst)) (ops.toList.drop m) (s'.st R)) ⟨n,e,x,[]⟩):AW P k (.region id ops true) Q ⟨n,e,x::R⟩:=by
 simp only[Region.lexTailB,pZ,pP]at hB;obtain⟨⟨⟨⟨_,hn⟩,hs⟩,hc⟩,hlex⟩:=hB;intro F os a w hr;have hr0:Rel F os (MS.st R ⟨n,e,x,[]⟩) a w:=by simpa [MS.st] using hr
 obtain⟨hr1,he1⟩:=hr0.drew (k:=k);refine tA hm ?_;have yi:(ops.toList.take m).length=m:=by simp;omega
 have hdl:(ops.toList.drop m).length=ops.size-m:=by simp
 have H:=ZY (md:=.any) (ops:=ops) (n:=m) (g:=ops.size-m) (k:=k) (R:=R) (P:=P) (K:=λs'=>AO P k ops Q ((ops.toList.take m).map (·.dst)) (ops.toList.drop m) (s'.st R)) hw
  (λtm inv i hi we t ht=>tail_waits hs hc hn inv _ i rfl hi we t ht) (ops.toList.take m) [] _ _ (λj hj=>by
   rw[yi]at hj;rw[pn,pI hj];simp) (by simp) (by simpa using yi) (U6 _) (by simp) (by rw[yi];exact hlex) h
 have:=Qu (k:=k) (g:=ops.size-m) (N:=n) (R:=R) (Q':=K0 k Q F os w) (F0:=F) (os0:=os) (w0:=w) (λo ho=>pG.1 hd o ho) (λtm s' F' os' a' w' hn' hL vg he=>by
  have h1:=hL.2 (λj=>by
    rw[pR,yi,qH];simp) (λj d hj=>by
    simp only[pB,pn]at hj;split at hj
    .simpa using hj
    .cases hj) (by show∀o∈ops.toList,Cy s'.n o.dst=true;rw[hn'];exact λo ho=>pG.1 hd o ho) F' os' a' w' vg (K0 k Q F os w) λ_ _ _ hp=>K0.trans he hp
  have h2:=wpAny_of_seq (md:=.any) (Q':=K0 k Q F os w) (ops.toList.drop m) m tm a' w' (λj=>by simp[qH]) (by rw[hdl];exact hL.1) h1;rwa [hdl]at h2) _ _ _ F os a w.drew rfl H hr1 he1
 rw[yi,show m+(ops.size-m)=ops.size by omega]at this;exact this
end
section
variable {P : Program} {k : Nat} {R : List Row} {ds : List (Option Tmp)} {r : List Oper} {K : MS -> Prop} {n : Nat} {e : Nat -> AV} {x0 : Row} {z0 : List Row} {t : Tmp} {op : Op} {ty : TypeId} {ps : String} {ed : Array Edge} {gd : Option (Nat × Bool)} {v : AV}
theorem GO.elim {o:Oper}{A B:Prop}{s:St}(hg:GO ds gd s.env)(ho:o.guard=gd)(h:Jf ds o s A B):A:=by
 unfold Jf at h;rw[ho]at h;cases gd with
 |none=>exact h
 |some q=>
  obtain⟨jj,want⟩:=q;obtain⟨tg,hj,ht⟩:=hg;simp only[hj,ht,cC]at h;exact h.1 rfl
theorem F8 (hg:GO ds gd e)(h :∀x z,EK P ds [⟨some t,op,ty,ps,ed,gd⟩] (λs'=>s'.env t=v) ⟨n,e,x::(R++z)⟩)(hk:JC P k R (ds++[some t]) r K ⟨n,DQ e t v,x0,z0⟩):
  JC P k R ds (⟨some t,op,ty,ps,ed,gd⟩::r) K ⟨n,e,x0,z0⟩:=by
 refine GO.guard (e:=e) hg ⟨_,⟨.q,v,oz,oz,rfl,?_⟩,hk⟩;intro x z e' _ ho hd F os a w hr next Q hn
 have h1:=h x z;unfold EK at h1;have h2:=GO.elim (s:=⟨n,e,x::(R++z)⟩) hg rfl h1;obtain⟨v',hv,h3⟩:=YM h2;have hvv:v'=v:=by simpa [EK,St.put,DQ] using hv
 subst hvv;have h4:Ly P ⟨some t,op,ty,ps,ed,gd⟩ (MS.st R ⟨n,e',x,z⟩) (·=v'):=PL (s:=⟨n,e,x::(R++z)⟩) rfl (λy hy=>by
  have:=ho y hy;rw[Vl,this];cases y<;>rfl) h3
 exact Zl (k:=k) hr hd h4 (by rw[PA]at hn;exact hn)
theorem FU {K':St->Prop}{st:List Row}(uV:x0::(R++z0)=st)(h:K' ⟨n,e,st⟩):JC P k R ds [] (λm=>K' (m.st R)) ⟨n,e,x0,z0⟩:=by
 subst uV;exact h
theorem cK {T:TypeId}{zz:List AV}{m:Nat}(hz:IK P T=some zz)(hm:R.length+1=m)(hk:JC P k R (ds++[some t]) r K ⟨n,DQ e t (.ptr m 0 0 0),x0,[⟨0,T,zz.length,[zz]⟩]⟩):
  JC P k R ds (⟨some t,.alloc T,ty,ps,ed,none⟩::r) K ⟨n,e,x0,[]⟩:=by
 subst hm;refine⟨_,⟨.a ⟨0,T,zz.length,[zz]⟩,.ptr (R.length+1) 0 0 0,rfl,rfl,rfl,?_⟩,hk⟩;intro x z e' hz0 ho hd F os a w hr next Q hn
 have hz0:z=[]:=hz0;subst hz0;refine Lx (k:=k) (K:=(·=MS.st R ((MS.go ⟨n,e',x,[]⟩ (.a ⟨0,T,zz.length,[zz]⟩)).put (some t) (.ptr (R.length+1) 0 0 0)))) hr hd ?_ hn;refine Ak _ hz ?_;simp[MS.st,MS.go,MS.put,St.put,Kind.fx,Kind.fz]
theorem VS {sel:List Nat}{A z:List Row}(h:sel.all (·<A.length)=true):CE (A++z) sel=CE A sel:=by
 unfold CE
 induction sel with
 |nil=>rfl
 |cons i l ih=>
  simp only[rQ,pZ,pP]at h;rw[rB,rB,pM h.1,ih h.2]
theorem WS {sel:List Nat}{rs A z:List Row}(h:sel.all (·<A.length)=true):FX sel rs 0 (A++z)=FX sel rs 0 A++z:=by
 apply qj;intro i;rw[NC,qO];by_cases hi:i<A.length
 .rw[pM hi,pM (by rw[Kg];exact hi),NC,qO]
 .rw[pN (by omega),pN (by rw[Kg];omega),Kg];have hx:idx sel i=none:=by
   cases hx:idx sel i with
   |none=>rfl
   |some p=>
    have:=ov (Oc hx);have:=pG.1 h i this;simp at this;omega
  rw[hx];cases z[i-A.length]?<;>rfl
theorem jm {f:FuncId}{vI:Array Operand}{ts:Array TypeId}{args uf:List AV}{rowsP rows0 rows1 rows1':List Row}{v v':AV}{y0:Row}(sel:List Nat)(hg:GO ds gd e)(hb:Cq P f=true)(hc:BJ P f uf rows0 λr st=>r=v/\st=rows1)(ha:vI.toList.map (St.ev ⟨n,e,[]⟩)++[]=args)(vu:sel.Nodup)(uU:sel.all (·<R.length+1)=true)
  (hp:CE (x0::R) sel=rowsP) (hs:SR sel rowsP rows0) (hf:args.map (Jn sel)=uf) (hlen:rows1.length=sel.length) (h1 :∀N,UN sel N rows1 rows1') (hv :∀N,Q0 sel N v=v') (wU:FX sel rows1' 0 (x0::R)=y0::R)
  (hk:JC P k R (ds++[some t]) r K ⟨n,DQ e t v',y0,z0⟩):JC P k R ds (⟨some t,.call ⟨.value (.func f),vI,ts⟩,ty,ps,ed,gd⟩::r) K ⟨n,e,x0,z0⟩:=by
 subst ha;subst hp;refine GO.guard (e:=e) hg ⟨_,⟨.l x0 y0,v',rfl,rfl,rfl,?_⟩,hk⟩;intro x z e' hx ho hd F os a w hr next Q hn
 have hx:x=x0:=hx;subst hx;refine Lx (k:=k) (K:=(·=MS.st R ((MS.go ⟨n,e',x,z⟩ (.l x y0)).put (some t) v'))) hr hd ?_ hn;show Cq P f=true/\callThen P k (MS.st R ⟨n,e',x,z⟩) f (vI.toList.map (MS.st R ⟨n,e',x,z⟩).ev++[]) (some t) _;have hev:vI.toList.map (MS.st R ⟨n,e',x,z⟩).ev=vI.toList.map (St.ev ⟨n,e,[]⟩):=Ts (f:=f) (ts:=ts) (s0:=MS.st R ⟨n,e',x,z⟩) (s1:=⟨n,e,[]⟩) λy hy=>by rw[Vl];exact ho y hy
 rw[hev];refine⟨hb,Ld λhle=>?_⟩;have xk:(MS.st R ⟨n,e',x,z⟩).st=(x::R)++z:=rfl;have hlt':sel.all (·<(x::R).length)=true:=by simpa using uU
 have hpick:CE (MS.st R ⟨n,e',x,z⟩).st sel=CE (x::R) sel:=by rw[xk];exact VS hlt'
 obtain⟨e1,e3⟩:=hs.spec (st0:=(MS.st R ⟨n,e',x,z⟩).st) hle (λrow tv=>by
  rw[<- hpick]at tv;obtain⟨i,_,hi⟩:=qg.1 tv;exact ov hi)
 refine L8 (rows2:=[]) sel (by simpa using hc) vu (λi hi=>by
   have:=pG.1 hlt' i hi;rw[xk,pU];simp only[pP]at this;omega) (by rw[hpick];exact e1) e3 hf hlen (λrow tv=>by
  rw[qR]at tv;exact (h1 _).leaf row tv) λ_=>?_
 rw[(h1 _).spec,hv,xk,WS hlt',wU];simp[MS.st,MS.go,MS.put,St.put,Kind.fx,Kind.fz]
end
end Go.Abs
namespace Go.Abs
open Go
def nJ (e:Nat->AV):List (Nat×AV)->List AV
 | []=>[]
 |(t,_)::r=>e t::nJ e r
def mO:List (Nat×AV)->List AV
 | []=>[]
 |(_,v)::r=>v::mO r
theorem ME.same {e:Nat->AV}:∀{L:List (Nat×AV)},nJ e L=mO L->ME e L
 | [],_=>trivial
 |(t,v)::r,h=>by
  simp only[nJ,mO,rp]at h;obtain⟨h1,h2⟩:=h;subst h1;exact⟨.rfl,ME.same h2⟩
section
variable {P : Program} {k : Nat} {R : List Row} {ds : List (Option Tmp)} {r : List Oper} {K : MS -> Prop} {n : Nat} {e : Nat -> AV} {x0 : Row} {z0 : List Row} {t : Tmp} {op : Op} {ty : TypeId} {ps : String} {ed : Array Edge} {gd : Option (Nat × Bool)}
theorem BL (v:AV)(hg:GO ds gd e)(hl:Kk op=false)(hq :∀x z,AQ P ⟨n,e,x::(R++z)⟩ op v)(hk:JC P k R (ds++[some t]) r K ⟨n,DQ e t v,x0,z0⟩):
  JC P k R ds (⟨some t,op,ty,ps,ed,gd⟩::r) K ⟨n,e,x0,z0⟩:=
 F8 hg (λx z=>Io hg hl (hq x z) (Av (by simp[DQ]))) hk
theorem nr {f:FuncId}{vI:Array Operand}{ts:Array TypeId}{args uf:List AV}{rows0 rows1:List Row}{v v':AV}{y0:Row}(sel:List Nat)(hg:GO ds gd e)(hb:Cq P f=true)(hc:BJ P f uf rows0 λr st=>r=v/\st=rows1)(ha:vI.toList.map (St.ev ⟨n,e,[]⟩)++[]=args)(vu:sel.Nodup)(uU:sel.all (·<R.length+1)=true)
  (hp:CE (x0::R) sel=rows0) (hs:SR sel rows0 rows0) (hf:args.map (Jn sel)=uf) (hlen:rows1.length=sel.length) (h1 :∀N,UN sel N rows1 rows1) (hv :∀N,Q0 sel N v=v') (wU:FX sel rows1 0 (x0::R)=y0::R)
  (hk:JC P k R (ds++[some t]) r K ⟨n,DQ e t v',y0,z0⟩):JC P k R ds (⟨some t,.call ⟨.value (.func f),vI,ts⟩,ty,ps,ed,gd⟩::r) K ⟨n,e,x0,z0⟩:=
 jm sel hg hb hc ha vu uU hp hs hf hlen h1 hv wU hk
end
section
variable {P : Program} {k : Nat} {s : St} {ops : Array Oper} {Q : Exit -> St -> Prop} {ds : List (Option Tmp)} {r : List Oper} {n : Nat} {e : Nat -> AV} {st st' : List Row} {ty : TypeId} {ps : String} {ed : Array Edge} {d : Option Tmp} {v v' : AV} {gd : Option (Nat × Bool)}
variable {f : FuncId} {vI : Array Operand} {ts : Array TypeId} {args uf : List AV} {rows0 rows1 : List Row}
theorem QK (sel:List Nat)(hg:GO ds gd e)(hb:Cq P f=true)(hc:BJ P f uf rows0 λr st=>r=v/\st=rows1)(ha:vI.toList.map (St.ev ⟨n,e,st⟩)++[]=args)(vu:sel.Nodup)(uU:sel.all (·<st.length)=true)
  (hp:CE st sel=rows0) (hs:SR sel rows0 rows0) (hf:args.map (Jn sel)=uf) (hlen:rows1.length=sel.length) (h1:UN sel st.length rows1 rows1) (h2:UN sel st.length [] []) (hv:Q0 sel st.length v=v') (wU:FX sel rows1 0 st=st')
  (hk:AO P k ops Q (ds++[d]) r (St.put ⟨n,e,st'⟩ d v')):AO P k ops Q ds (⟨d,.call ⟨.value (.func f),vI,ts⟩,ty,ps,ed,gd⟩::r) ⟨n,e,st⟩:=
 G6 (rows2:=[]) (rows2':=[]) sel hg hb (by simpa using hc) ha vu uU hp hs hf hlen h1 h2 hv (by simpa using wU) hk
end
def oQ:Nat->Nat->List Bool
 |0,_=>[]
 |n+1,m=>(m % 2==1)::oQ n (m / 2)
def bm (n m:Nat):Array Bool:=⟨oQ n m⟩
end Go.Abs
