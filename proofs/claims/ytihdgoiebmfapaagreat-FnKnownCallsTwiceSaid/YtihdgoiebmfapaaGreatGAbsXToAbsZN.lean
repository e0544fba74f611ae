import Derived.Test.YtihdgoiebmfapaaGreatAbsW
import Derived.Lib.AppendZerosOnto
import Derived.OrdersHeld
set_option linter.all false
namespace Go.Abs
open Go
def Og:AV->Bool
 | .int ..|.bool _|.str _|.zc|.P2|.Px|.dv ..=>true
 | _=>false
def R9 (xs:List (List AV)):Prop:=∀x∈xs,∀c∈x,Og c=true
theorem WW {F S:Nat->Prop}{w:World}{os:List Own}{c:AV}{u:Value}(hc:Og c=true)(hd :∀e s ys,c≠.dv e s ys)(h:Ae F w os c u):EG S w c u:=by
 cases c<;>simp only[Og,fh]at hc<;>simp only[Ae]at h<;>simp only[EG]<;>first|exact h|exact absurd rfl (hd _ _ _)
theorem Nv {F S:Nat->Prop}{w:World}{os:List Own}{c:AV}{u:Value}(h:EG S w c u):Ae F w os c u/\c.kept=true/\Og c=true:=by
 cases c<;>simp only[EG]at h
 case dv=>
  refine⟨?_,rfl,rfl⟩;simp only[Ae];rcases h.2 with ⟨_,a,rfl⟩|⟨b,cap,cur,rfl,_⟩<;>exact⟨_,_,_,rfl⟩
 all_goals first|exact h.elim|exact⟨by simp only[Ae];exact h,rfl,rfl⟩
theorem VU {w:World}{cur:Array Value}{D:Nat->Nat->Prop}(mZ :∀j j' b,D j b->D j' b->j=j'):∀(x:List AV) (o j0:Nat),(∀(j:Nat) c,x[j]?=some c->∃u,cur[o+j]?=some u/\EG (D (j0+j)) w c u)->
  KI (λb=>∃j,j0<=j/\D j b) w x cur o
 | [],_,_,_=>by simp[KI]
 | c::r,o,j0,h=>by
  simp only[KI];obtain⟨u,h1,h2⟩:=h 0 c rfl;refine⟨D j0,λb=>∃j,j0+1<=j/\D j b,λb hb=>⟨j0,gA _,hb⟩,λb ⟨j,hj,hb⟩=>⟨j,by omega,hb⟩,λb hb ⟨j,hj,mE⟩=>by have:=mZ _ _ _ hb mE;omega,⟨u,h1,h2⟩,?_⟩;exact VU mZ r (o+1) (j0+1) λj c hc=>by
   obtain⟨u,h1,h2⟩:=h (j+1) c (by simpa using hc);exact⟨u,by rw[<- h1];congr 1;omega,by rw[show j0+1+j=j0+(j+1) by omega];exact h2⟩
theorem Vl {w:World}{cur:Array Value}{size:Nat}{D:Nat->Nat->Nat->Prop}(mZ :∀i j i' j' b,D i j b->D i' j' b->i=i'/\j=j'):∀(xs:List (List AV)) (o i0:Nat),(∀x∈xs,x.length=size)->
  (∀(i:Nat) x,xs[i]?=some x->∀(j:Nat) c,x[j]?=some c->∃u,cur[o+i*size+j]?=some u/\EG (D (i0+i) j) w c u)->KV (λb=>∃i j,i0<=i/\D i j b) w xs cur o
 | [],_,_,_,_=>by simp[KV]
 | x::r,o,i0,hs,h=>by
  simp only[KV];refine⟨λb=>∃j,0<=j/\D i0 j b,λb=>∃i j,i0+1<=i/\D i j b,λb ⟨j,_,hb⟩=>⟨i0,j,gA _,hb⟩,λb ⟨i,j,hi,hb⟩=>⟨i,j,by omega,hb⟩,λb ⟨j,_,hb⟩ ⟨i,j',hi,mE⟩=>by have:=(mZ _ _ _ _ _ hb mE).1;omega,?_,?_⟩
  ·exact VU (D:=D i0) (λj j' b h1 h2=>(mZ _ _ _ _ _ h1 h2).2) x o 0 λj c hc=>by
    obtain⟨u,h1,h2⟩:=h 0 x rfl j c hc;exact⟨u,by rw[<- h1];congr 1;omega,by simpa using h2⟩
  ·rw[hs x (by simp)];exact Vl mZ r (o+size) (i0+1) (λx hx=>hs x (by simp[hx])) λi y hy j c hc=>by
    obtain⟨u,h1,h2⟩:=h (i+1) y (by simpa using hy) j c hc;exact⟨u,by rw[<- h1];congr 1;rw[gU];omega,by rw[show i0+1+i=i0+(i+1) by omega];exact h2⟩
theorem TZ {w:World}{cur:Array Value}:∀{x:List AV} {S:Nat->Prop} {o:Nat},KI S w x cur o->∃D:Nat->Nat->Prop,(∀j b,D j b->S b)/\(∀j j' b,D j b->D j' b->j=j')/\
  ∀(j:Nat) c,x[j]?=some c->∃u,cur[o+j]?=some u/\EG (D j) w c u
 | [],_,_,_=>⟨λ_ _=>False,λ_ _ h=>h.elim,λ_ _ _ h=>h.elim,λj c h=>by simp at h⟩
 | c::r,S,o,h=>by
  simp only[KI]at h;obtain⟨S1,S2,h1,h2,h3,⟨u,h4,h5⟩,h6⟩:=h;obtain⟨D,d1,d2,d3⟩:=TZ h6;refine⟨λj=>match j with|0=>S1|j+1=>D j,λj b hb=>?_,λj j' b hb mE=>?_,λj c' hc=>?_⟩
  ·cases j with
   | zero=>exact h1 b hb
   | succ j=>exact h2 b (d1 j b hb)
  ·cases j with
   | zero=>
    cases j' with
    | zero=>rfl
    | succ j'=>exact absurd (d1 j' b mE) (h3 b hb)
   | succ j=>
    cases j' with
    | zero=>exact absurd (d1 j b hb) (h3 b mE)
    | succ j'=>rw[d2 j j' b hb mE]
  ·cases j with
   | zero=>simp only[gQ,ff]at hc;subst hc;exact⟨u,h4,h5⟩
   | succ j=>
    obtain⟨u',g1,g2⟩:=d3 j c' (by simpa using hc);exact⟨u',by rw[<- g1];congr 1;omega,g2⟩
theorem Tm {w:World}{cur:Array Value}{size:Nat}:∀{xs:List (List AV)} {S:Nat->Prop} {o:Nat},(∀x∈xs,x.length=size)->KV S w xs cur o->∃D:Nat->Nat->Nat->Prop,(∀i j b,D i j b->S b)/\
  (∀i j i' j' b,D i j b->D i' j' b->i=i'/\j=j')/\∀(i:Nat) x,xs[i]?=some x->∀(j:Nat) c,x[j]?=some c->∃u,cur[o+i*size+j]?=some u/\EG (D i j) w c u
 | [],_,_,_,_=>⟨λ_ _ _=>False,λ_ _ _ h=>h.elim,λ_ _ _ _ _ h=>h.elim,λi x h=>by simp at h⟩
 | x::r,S,o,hs,h=>by
  simp only[KV]at h;obtain⟨S1,S2,h1,h2,h3,h4,h5⟩:=h;obtain⟨E,e1,e2,e3⟩:=TZ h4;obtain⟨D,d1,d2,d3⟩:=Tm (λx hx=>hs x (by simp[hx])) h5;refine⟨λi=>match i with|0=>E|i+1=>D i,λi j b hb=>?_,λi j i' j' b hb mE=>?_,λi y hy j c hc=>?_⟩
  ·cases i with
   | zero=>exact h1 b (e1 j b hb)
   | succ i=>exact h2 b (d1 i j b hb)
  ·cases i with
   | zero=>
    cases i' with
    | zero=>exact⟨rfl,e2 j j' b hb mE⟩
    | succ i'=>exact absurd (d1 i' j' b mE) (h3 b (e1 j b hb))
   | succ i=>
    cases i' with
    | zero=>exact absurd (d1 i j b hb) (h3 b (e1 j' b mE))
    | succ i'=>
     obtain⟨q1,q2⟩:=d2 i j i' j' b hb mE;exact⟨by rw[q1],q2⟩
  ·cases i with
   | zero=>
    simp only[gQ,ff]at hy;subst hy;obtain⟨u,g1,g2⟩:=e3 j c hc;exact⟨u,by rw[<- g1];congr 1;omega,g2⟩
   | succ i=>
    obtain⟨u,g1,g2⟩:=d3 i y (by simpa using hy) j c hc;rw[hs x (by simp)]at g1;exact⟨u,by rw[<- g1];congr 1;rw[gU];omega,g2⟩
variable {P : Program} {F : Nat -> Prop} {os : List Own} {s : St} {a : Act} {w : World} {k : Nat}
theorem SW {p:Own}(h:Lb F w os p)(hd:R9 p.row.xs){v:Value}(hv:(p.Fa=none/\∃a,v=.slice a p.row.xs.length 0)∨∃b,p.Fa=some b/\v=.slice (some ⟨b,0,none⟩) p.row.xs.length p.cap):
  EG p.owns w (.dv p.row.elem p.row.size p.row.xs) v:=by
 simp only[EG];refine⟨h.pos,?_⟩;rcases hv with ⟨hb,a,rfl⟩|⟨b,hb,rfl⟩
 ·have:=(h.none hb).1;exact .inl ⟨this,a,by rw[this];rfl⟩
 ·obtain⟨_,cur,lj,lr,hle,nU,lk⟩:=h.some b hb;obtain⟨D,d1,d2,d3⟩:=h.deep;refine .inr ⟨b,p.cap,cur,rfl,hle,nU,.inl hb,lj,lr,λx hx=>(h.lens x hx).1,?_⟩;have:=Vl (w:=w) (cur:=cur) (size:=p.row.size) d2 p.row.xs 0 0 (λx hx=>(h.lens x hx).1) (λi x hx j c hc=>by
   simp only[iJ];by_cases hdv :∃e s ys,c=.dv e s ys
   ·obtain⟨e,s,ys,rfl⟩:=hdv;exact d3 b hb cur _ _ lj i x j e s ys hx hc
   ·obtain⟨u,g1,g2⟩:=lk i x hx j c hc;exact⟨u,g1,WW (hd x (fc hx) c (fc hc)) (λe s ys e'=>hdv ⟨e,s,ys,e'⟩) g2⟩)
  exact OU (λc ⟨i,j,_,hc⟩=>⟨.inr (d1 i j c hc),λe=>(h.mo c (d1 i j c hc)).2.2 (by rw[hb,e])⟩) (λ_ _=>rfl) _ _ _ this
theorem Nj {id m g gm size sz n i j nn:Nat}{el nv:TypeId}{xs ys:List (List AV)}{x:List AV}{e:Nat->AV}{st st':List Row}(lQ:st[id]?=some ⟨g,el,size,xs⟩)(hx:xs[i]?=some x)(hc:x[j]?=some (.own m gm n))
  (hm:st[m]?=some ⟨gm,nv,sz,ys⟩) (hn:n=ys.length) (lv:id≠m) (oP:k<=m) (hd:R9 ys) (lp:(st.set id ⟨g,el,size,xs.set i (x.set j (.dv nv sz ys))⟩).set m ⟨gm+1,nv,sz,[]⟩=st') :
  Wk k ⟨nn,e,st⟩ ⟨nn,e,st'⟩:=λF os a w hr=>by
 subst lp;subst hn;obtain⟨o,ho,hor⟩:=hr.row lQ;obtain⟨p,hp,rb⟩:=hr.row hm;have lU:=hr.rows id o ho;have re:=hr.rows m p hp;have lp:os.map Own.row=st:=hr.st;have oz:o.row.xs=xs:=by rw[hor]
 have zO:p.row.xs=ys:=by rw[rb]
 let o':Own:={ o with row:={ o.row with xs:=xs.set i (x.set j (.dv nv sz ys)) },more:=λb=>o.more b∨p.owns b }
 let p':Own:=⟨{ p.row with gen:=p.row.gen+1,xs:=[] },none,0,FP⟩
 have nQ:i<xs.length:=(fe.1 hx).1;have oh:j<x.length:=(fe.1 hc).1;have rI:=(fe.1 ho).1;have ry:=(fe.1 hp).1;have mZ:∀b,o.owns b->¬ p.owns b:=λb h1 h2=>lv (hr.inj id m o p b ho hp h1 h2);have lW:∀(q:Nat) (oq:Own),((os.set id o').set m p')[q]?=some oq->(q≠id/\q≠m/\os[q]?=some oq)∨(q=id/\oq=o')∨(q=m/\oq=p'):=λq oq hq=>by
  by_cases e:q=m
  ·subst e;rw[fv (by simpa using ry),ff]at hq;exact .inr (.inr ⟨rfl,hq.symm⟩)
  ·rw[gJ (iT e)]at hq;by_cases e2:q=id
   ·subst e2;rw[fv rI,ff]at hq;exact .inr (.inl ⟨rfl,hq.symm⟩)
   ·rw[gJ (iT e2)]at hq;exact .inl ⟨e2,e,hq⟩
 have mK:FF os ((os.set id o').set m p'):=λq oq hq=>by
  by_cases e:q=m
  ·subst e;rw[hp]at hq;cases hq;exact⟨p',fv (by simpa using ry),Nat.le_succ _,rfl,λe=>by simp[p']at e⟩
  ·rw[gJ (iT e)];by_cases e2:q=id
   ·subst e2;rw[ho]at hq;cases hq;exact⟨o',fv rI,gA _,rfl,λ_=>⟨rfl,rfl,by simp[o',oz]⟩⟩
   ·rw[gJ (iT e2)];exact⟨oq,hq,gA _,rfl,λ_=>⟨rfl,rfl,rfl⟩⟩
 have lY:∀y v,Ae F w os y v->Ae F w ((os.set id o').set m p') y v:=λy v h=>Dc (λ_ h=>h) (λ_ _=>rfl) os _ mK y v h;have rJ:∀b,o'.owns b->o.owns b∨p.owns b:=λb hb=>by
  rcases hb with hb|hb|hb
  ·exact .inl (.inl hb)
  ·exact .inl (.inr hb)
  ·exact .inr hb
 have tm:∀b,¬ p'.owns b:=λb hb=>by
  rcases hb with hb|hb
  ·simp[p']at hb
  ·exact hb
 obtain⟨bo,qJ⟩ :∃b,o.Fa=some b:=by
  cases hb:o.Fa with
  | none=>have:=(lU.none hb).1;rw[oz]at this;rw[this]at nQ;simp at nQ
  | some b=>exact⟨b,rfl⟩
 obtain⟨po,cur,lj,lr,hle,nU,lk⟩:=lU.some bo qJ;obtain⟨uv,hu1,nt⟩:=lk i x (by rw[oz];exact hx) j _ hc;have huv:(p.Fa=none/\∃a,uv=.slice a p.row.xs.length 0)∨∃b,p.Fa=some b/\uv=.slice (some ⟨b,0,none⟩) p.row.xs.length p.cap:=by
  simp only[Ae]at nt;obtain⟨q,hq,_,_,hv⟩:=nt;rw[hp]at hq;cases hq;have:=(hv (by rw[rb])).2;rw[zO]at this⊢;simpa only[iS,jy,kO] using this
 have zP:EG p.owns w (.dv nv sz ys) uv:=by
  have:=SW re (by rw[zO];exact hd) huv;rw[rb]at this;exact this
 refine⟨F,(os.set id o').set m p',⟨?_,λt=>lY _ _ (hr.env t),hr.size,λq oq hq=>?_,λq q' oq rz b hq qp hb mE=>?_,hr.GG,hr.defers⟩,⟨rfl,rfl,rfl,gA _,λ_ h=>h,λ_ _=>rfl,λb _ h1 h2=>⟨rfl,h1,λoq xF hb=>?_⟩,λq oq _ hq=>mK q oq hq⟩⟩
 ·rw[iX,iX,lp];simp only[o',p',hor,rb]
 ·rcases lW q oq hq with ⟨_,_,h⟩|⟨_,rfl⟩|⟨_,rfl⟩
  ·have h0:=hr.rows q oq h;refine⟨h0.pos,h0.lens,h0.none,λb hb=>?_,h0.mo,h0.deep⟩;obtain⟨e1,cur,e2,e3,e4,e5,e6⟩:=h0.some b hb;exact⟨e1,cur,e2,e3,e4,e5,λi' y hy j' c hc=>by obtain⟨u,f1,f2⟩:=e6 i' y hy j' c hc;exact⟨u,f1,lY _ _ f2⟩⟩
  ·refine⟨lU.pos,λy hy=>?_,(λhn=>by simp only[o']at hn;rw[qJ]at hn;cases hn),λb hb=>?_,λb hb=>?_,?_⟩
   ·rcases gp hy with hy|rfl
    ·exact lU.lens y (by rw[oz];exact hy)
    ·have h0:=lU.lens x (by rw[oz];exact fc hx);refine⟨by rw[kQ];exact h0.1,λc mq=>?_⟩;rcases gp mq with h|rfl
     ·exact h0.2 c h
     ·rfl
   ·simp only[o']at hb;rw[qJ]at hb;cases hb;refine⟨po,cur,lj,lr,by simpa [o',oz] using hle,nU,λi' y hy j' c oI=>?_⟩;simp only[o']at hy⊢;by_cases hi:i'=i
    ·subst hi;rw[fv nQ,ff]at hy;subst hy;by_cases hj:j'=j
     ·subst hj;rw[fv oh,ff]at oI;subst oI;exact⟨uv,hu1,(Nv zP).1⟩
     ·rw[gJ (iT hj)]at oI;obtain⟨u,f1,f2⟩:=lk i' x (by rw[oz];exact hx) j' c oI;exact⟨u,f1,lY _ _ f2⟩
    ·rw[gJ (iT hi)]at hy;obtain⟨u,f1,f2⟩:=lk i' y (by rw[oz];exact hy) j' c oI;exact⟨u,f1,lY _ _ f2⟩
   ·rcases hb with hb|hb
    ·exact lU.mo b hb
    ·exact⟨re.nF hb,re.lt hb,λe=>mZ b (.inl e) hb⟩
   ·obtain⟨D,d1,d2,d3⟩:=lU.deep;refine⟨λi' j' b=>if i'=i/\j'=j then p.owns b else D i' j' b,λi' j' b hb=>?_,λi1 j1 i2 j2 b h1 h2=>?_,λb hb om zQ l mI i' y j' e2 s2 zs hy oI=>?_⟩
    ·simp only at hb;split at hb
     ·exact .inr hb
     ·exact .inl (d1 i' j' b hb)
    ·simp only at h1 h2;split at h1<;>split at h2
     ·rename_i q1 q2;exact⟨q1.1.trans q2.1.symm,q1.2.trans q2.2.symm⟩
     ·exact absurd h1 (mZ b (.inr (d1 _ _ _ h2)))
     ·exact absurd h2 (mZ b (.inr (d1 _ _ _ h1)))
     ·exact d2 _ _ _ _ _ h1 h2
    ·simp only[o']at hb hy⊢;rw[qJ]at hb;cases hb;rw[lj]at mI;cases mI;by_cases pz:i'=i/\j'=j
     ·obtain⟨rfl,rfl⟩:=pz;rw[fv nQ,ff]at hy;subst hy;rw[fv oh,ff]at oI;cases oI;exact⟨uv,hu1,by simpa using zP⟩
     ·have hold:∃y0,o.row.xs[i']?=some y0/\y0[j']?=some (.dv e2 s2 zs):=by
       rw[oz];by_cases hi:i'=i
       ·subst hi;rw[fv nQ,ff]at hy;subst hy;have hj:j'≠j:=λe=>pz ⟨rfl,e⟩;rw[gJ (iT hj)]at oI;exact⟨x,hx,oI⟩
       ·rw[gJ (iT hi)]at hy;exact⟨y,hy,oI⟩
      obtain⟨y0,sL,nO⟩:=hold;obtain⟨u,f1,f2⟩:=d3 bo qJ cur _ _ lj i' y0 j' e2 s2 zs sL nO;exact⟨u,f1,by simpa only[pz,gM] using f2⟩
  ·exact⟨re.pos,by simp[p'],by simp[p'],by simp[p'],λb hb=>hb.elim,Ef (by simp[p'])⟩
 ·rcases lW q oq hq with ⟨q1,q2,h⟩|⟨rfl,rfl⟩|⟨_,rfl⟩<;>rcases lW q' rz qp with ⟨q1',q2',h'⟩|⟨rfl,rfl⟩|⟨_,rfl⟩
  ·exact hr.inj q q' oq rz b h h' hb mE
  ·rcases rJ b mE with e|e
   ·exact hr.inj q _ oq o b h ho hb e
   ·exact absurd (hr.inj q m oq p b h hp hb e) q2
  ·exact absurd mE (tm b)
  ·rcases rJ b hb with e|e
   ·exact hr.inj _ q' o rz b ho h' e mE
   ·exact absurd (hr.inj m q' p rz b hp h' e mE).symm q2'
  ·rfl
  ·exact absurd mE (tm b)
  ·exact absurd hb (tm b)
  ·exact absurd hb (tm b)
  ·exact absurd hb (tm b)
 ·obtain⟨q,hq⟩:=gG.1 xF;rcases lW q oq hq with ⟨_,_,h⟩|⟨_,rfl⟩|⟨_,rfl⟩
  ·exact h2 oq (fc h) hb
  ·rcases rJ b hb with e|e
   ·exact h2 o (fc ho) e
   ·exact h2 p (fc hp) e
  ·exact tm b hb
end Go.Abs
namespace Go.Abs
open Go
variable {P : Program} {F : Nat -> Prop} {os : List Own} {s : St} {a : Act} {w : World} {k : Nat}
theorem Vv {S:Nat->Prop}{el sz:Nat}{ys:List (List AV)}{u:Value}(hS :∀b,S b->¬ F b/\b<w.heap.size)(h:EG S w (.dv el sz ys) u):
  ∃p:Own,p.row=⟨0,el,sz,ys⟩/\(∀b,p.owns b->S b)/\(∀os,Lb F w os p)/\((p.Fa=none/\∃a,u=.slice a ys.length 0)∨∃b,p.Fa=some b/\u=.slice (some ⟨b,0,none⟩) ys.length p.cap):=by
 simp only[EG]at h;obtain⟨hp,h⟩:=h;rcases h with ⟨rfl,a,rfl⟩|⟨b,cap,cur,rfl,h2,h3,h4,h5,h6,h7,h8⟩
 ·refine⟨⟨⟨0,el,sz,[]⟩,none,0,FP⟩,rfl,λb hb=>?_,λos=>⟨hp,by simp,by simp,by simp,λb hb=>hb.elim,Ef (by simp)⟩,.inl ⟨rfl,a,rfl⟩⟩;rcases hb with hb|hb
  ·cases hb
  ·exact hb.elim
 ·obtain⟨D,d1,d2,d3⟩:=Tm h7 h8;refine⟨⟨⟨0,el,sz,ys⟩,some b,cap,λc=>S c/\c≠b⟩,rfl,λc hc=>?_,λos=>⟨hp,λx hx=>⟨h7 x hx,λc hc=>?_⟩,by simp,λb' mE=>?_,λc hc=>⟨(hS c hc.1).1,(hS c hc.1).2,λe=>hc.2 (by simpa using e.symm)⟩,⟨D,d1,d2,λb' mE om zQ l mI i x j e s zs hx hc=>?_⟩⟩,.inr ⟨b,rfl,rfl⟩⟩
  ·rcases hc with hc|hc
   ·cases hc;exact h4
   ·exact hc.1
  ·obtain⟨i,hi⟩:=gG.1 hx;obtain⟨j,hj⟩:=gG.1 hc;obtain⟨u,_,g2⟩:=d3 i x hi j c hj;exact (Nv (F:=F) (os:=os) g2).2.1
  ·simp only[ff]at mE;subst mE;refine⟨(hS _ h4).1,cur,h5,h6,h2,h3,λi x hx j c hc=>?_⟩;obtain⟨u,g1,g2⟩:=d3 i x hx j c hc;exact⟨u,by simpa using g1,(Nv g2).1⟩
  ·simp only[ff]at mE;subst mE;rw[h5]at mI;cases mI;obtain⟨u,g1,g2⟩:=d3 i x hx j _ hc;exact⟨u,by simpa using g1,g2⟩
theorem Nu {id m g size sz n i j nn:Nat}{el nv:TypeId}{xs ys:List (List AV)}{x:List AV}{e:Nat->AV}{st st':List Row}(lQ:st[id]?=some ⟨g,el,size,xs⟩)(hx:xs[i]?=some x)(hc:x[j]?=some (.dv nv sz ys))
  (hm:st.length=m) (hn:n=ys.length) (lp:st.set id ⟨g,el,size,xs.set i (x.set j (.own m 0 n))⟩++[⟨0,nv,sz,ys⟩]=st'):Wk k ⟨nn,e,st⟩ ⟨nn,e,st'⟩:=λF os a w hr=>by
 subst lp;subst hn;subst hm;obtain⟨o,ho,hor⟩:=hr.row lQ;have lU:=hr.rows id o ho;have lp:os.map Own.row=st:=hr.st;have hol:os.length=st.length:=by rw[<- lp];simp
 have oz:o.row.xs=xs:=by rw[hor]
 have nQ:i<xs.length:=(fe.1 hx).1;have oh:j<x.length:=(fe.1 hc).1;have rI:=(fe.1 ho).1;obtain⟨bo,qJ⟩ :∃b,o.Fa=some b:=by
  cases hb:o.Fa with
  | none=>have:=(lU.none hb).1;rw[oz]at this;rw[this]at nQ;simp at nQ
  | some b=>exact⟨b,rfl⟩
 obtain⟨po,cur,lj,lr,hle,nU,lk⟩:=lU.some bo qJ;obtain⟨D,d1,d2,d3⟩:=lU.deep;obtain⟨uv,hu1,nt⟩:=d3 bo qJ cur _ _ lj i x j nv sz ys (by rw[oz];exact hx) hc;obtain⟨p,rb,hpo,re,vC⟩:=Vv (F:=F) (λb hb=>⟨(lU.mo b (d1 _ _ _ hb)).1,(lU.mo b (d1 _ _ _ hb)).2.1⟩) nt
 let o':Own:={ o with row:={ o.row with xs:=xs.set i (x.set j (.own st.length 0 ys.length)) },more:=λb=>o.more b/\¬ D i j b }
 have lW:∀(q:Nat) (oq:Own),(os.set id o'++[p])[q]?=some oq->(q≠id/\q<os.length/\os[q]?=some oq)∨(q=id/\oq=o')∨(q=os.length/\oq=p):=λq oq hq=>by
  rcases iH q os.length with h|h|h
  ·rw[ft (by simpa using h)]at hq;by_cases e2:q=id
   ·subst e2;rw[fv rI,ff]at hq;exact .inr (.inl ⟨rfl,hq.symm⟩)
   ·rw[gJ (iT e2)]at hq;exact .inl ⟨e2,h,hq⟩
  ·subst h;rw[fw (by simp)]at hq;simp at hq;exact .inr (.inr ⟨rfl,hq.symm⟩)
  ·rw[hH (by simp;omega)]at hq;cases hq
 have vD:(os.set id o'++[p])[st.length]?=some p:=by
  rw[fw (by simp;omega)];simp[hol]
 have mK:FF os (os.set id o'++[p]):=λq oq hq=>by
  have hql:=(fe.1 hq).1;rw[ft (by simpa using hql)];by_cases e2:q=id
  ·subst e2;rw[ho]at hq;cases hq;exact⟨o',fv rI,gA _,rfl,λ_=>⟨rfl,rfl,by simp[o',oz]⟩⟩
  ·rw[gJ (iT e2)];exact⟨oq,hq,gA _,rfl,λ_=>⟨rfl,rfl,rfl⟩⟩
 have lY:∀y v,Ae F w os y v->Ae F w (os.set id o'++[p]) y v:=λy v h=>Dc (λ_ h=>h) (λ_ _=>rfl) os _ mK y v h;have tC :∀b,o'.owns b->o.owns b:=λb hb=>by
  rcases hb with hb|hb
  ·exact .inl hb
  ·exact .inr hb.1
 have tD:∀b,p.owns b->o.owns b:=λb hb=>.inr (d1 _ _ _ (hpo b hb));have mZ:∀b,o'.owns b->¬ p.owns b:=λb h1 h2=>by
  have h3:=hpo b h2;rcases h1 with h1|h1
  ·exact (lU.mo b (d1 _ _ _ h3)).2.2 h1
  ·exact h1.2 h3
 have rC:Ae F w (os.set id o'++[p]) (.own st.length 0 ys.length) uv:=by
  simp only[Ae];refine⟨p,vD,gK _,?_,λ_=>⟨by rw[rb];exact gA _,by rw[rb];simpa only[iS,jy,kO] using vC⟩⟩;rcases vC with ⟨_,a,rfl⟩|⟨b,_,rfl⟩<;>exact⟨_,_,_,rfl⟩
 refine⟨F,os.set id o'++[p],⟨?_,λt=>lY _ _ (hr.env t),hr.size,λq oq hq=>?_,λq q' oq rz b hq qp hb mE=>?_,hr.GG,hr.defers⟩,⟨rfl,rfl,rfl,gA _,λ_ h=>h,λ_ _=>rfl,λb _ h1 h2=>⟨rfl,h1,λoq xF hb=>?_⟩,λq oq _ hq=>mK q oq hq⟩⟩
 ·rw[iD,iX,lp];simp only[o',hor,gP,iQ,rb]
 ·rcases lW q oq hq with ⟨_,_,h⟩|⟨_,rfl⟩|⟨_,rfl⟩
  ·have h0:=hr.rows q oq h;refine⟨h0.pos,h0.lens,h0.none,λb hb=>?_,h0.mo,h0.deep⟩;obtain⟨e1,cur,e2,e3,e4,e5,e6⟩:=h0.some b hb;exact⟨e1,cur,e2,e3,e4,e5,λi' y hy j' c hc=>by obtain⟨u,f1,f2⟩:=e6 i' y hy j' c hc;exact⟨u,f1,lY _ _ f2⟩⟩
  ·refine⟨lU.pos,λy hy=>?_,(λhn=>by simp only[o']at hn;rw[qJ]at hn;cases hn),λb hb=>?_,λb hb=>lU.mo b hb.1,?_⟩
   ·rcases gp hy with hy|rfl
    ·exact lU.lens y (by rw[oz];exact hy)
    ·have h0:=lU.lens x (by rw[oz];exact fc hx);refine⟨by rw[kQ];exact h0.1,λc mq=>?_⟩;rcases gp mq with h|rfl
     ·exact h0.2 c h
     ·rfl
   ·simp only[o']at hb;rw[qJ]at hb;cases hb;refine⟨po,cur,lj,lr,by simpa [o',oz] using hle,nU,λi' y hy j' c oI=>?_⟩;simp only[o']at hy⊢;by_cases hi:i'=i
    ·subst hi;rw[fv nQ,ff]at hy;subst hy;by_cases hj:j'=j
     ·subst hj;rw[fv oh,ff]at oI;subst oI;exact⟨uv,hu1,rC⟩
     ·rw[gJ (iT hj)]at oI;obtain⟨u,f1,f2⟩:=lk i' x (by rw[oz];exact hx) j' c oI;exact⟨u,f1,lY _ _ f2⟩
    ·rw[gJ (iT hi)]at hy;obtain⟨u,f1,f2⟩:=lk i' y (by rw[oz];exact hy) j' c oI;exact⟨u,f1,lY _ _ f2⟩
   ·refine⟨λi' j' b=>if i'=i/\j'=j then False else D i' j' b,λi' j' b hb=>?_,λi1 j1 i2 j2 b h1 h2=>?_,λb hb om zQ l mI i' y j' e2 s2 zs hy oI=>?_⟩
    ·simp only at hb;split at hb
     ·exact hb.elim
     ·rename_i pz;exact⟨d1 i' j' b hb,λh=>pz (d2 _ _ _ _ _ hb h)⟩
    ·simp only at h1 h2;split at h1<;>split at h2<;>first|exact h1.elim|exact h2.elim|exact d2 _ _ _ _ _ h1 h2
    ·simp only[o']at hb hy⊢;rw[qJ]at hb;cases hb;rw[lj]at mI;cases mI;have hold:(¬ (i'=i/\j'=j))/\∃y0,o.row.xs[i']?=some y0/\y0[j']?=some (.dv e2 s2 zs):=by
      rw[oz];by_cases hi:i'=i
      ·subst hi;rw[fv nQ,ff]at hy;subst hy;by_cases hj:j'=j
       ·subst hj;rw[fv oh,ff]at oI;cases oI
       ·rw[gJ (iT hj)]at oI;exact⟨λh=>hj h.2,x,hx,oI⟩
      ·rw[gJ (iT hi)]at hy;exact⟨λh=>hi h.1,y,hy,oI⟩
     obtain⟨pz,y0,sL,nO⟩:=hold;obtain⟨u,f1,f2⟩:=d3 bo qJ cur _ _ lj i' y0 j' e2 s2 zs sL nO;exact⟨u,f1,by simpa only[pz,gM] using f2⟩
  ·exact re _
 ·rcases lW q oq hq with ⟨q1,q2,h⟩|⟨rfl,rfl⟩|⟨rfl,rfl⟩<;>rcases lW q' rz qp with ⟨q1',q2',h'⟩|⟨rfl,rfl⟩|⟨rfl,rfl⟩
  ·exact hr.inj q q' oq rz b h h' hb mE
  ·exact hr.inj q _ oq o b h ho hb (tC b mE)
  ·exact absurd (hr.inj q id oq o b h ho hb (tD b mE)) q1
  ·exact hr.inj _ q' o rz b ho h' (tC b hb) mE
  ·rfl
  ·exact absurd mE (mZ b hb)
  ·exact absurd (hr.inj id q' o rz b ho h' (tD b hb) mE).symm q1'
  ·exact absurd hb (mZ b mE)
  ·rfl
 ·obtain⟨q,hq⟩:=gG.1 xF;rcases lW q oq hq with ⟨_,_,h⟩|⟨_,rfl⟩|⟨_,rfl⟩
  ·exact h2 oq (fc h) hb
  ·exact h2 o (fc ho) (tC b hb)
  ·exact h2 o (fc ho) (tD b hb)
variable {α β : Type} {l : List α} {enc : α -> List AV}
def hole (l:List α)(enc:α->List AV)(i:Int)(x:List AV):List (List AV):=(l.map enc).set i.toNat x
theorem X3 {i:Int}{u:α}{x:List AV}(h:x=enc u):hole l enc i x=(Sh.put l i u).map enc:=by subst h;exact W2
theorem Ft {i:Int}{u:α}{x:List AV}(h:Sh.get l i=some u):(hole l enc i x)[i.toNat]?=some x:=by
 have:=(Sh.get_some h).2.2;have h0:=(Sh.get_some h).1;exact fv (by simp;omega)
theorem R8 {i:Int}{x y:List AV}:(hole l enc i x).set i.toNat y=hole l enc i y:=by unfold hole;rw[List.set_set]
theorem Hq {id m g size sz nn j:Nat}{el nv:TypeId}{i:Int}{c:α}{ys:List β}{encY:β->List AV}{x x':List AV}{e:Nat->AV}{st st':List Row}(lQ:st[id]?=some ⟨g,el,size,l.map enc⟩)(hi:Sh.get l i=some c)(hx:enc c=x)(hc:x[j]?=some (.dv nv sz (ys.map encY)))
  (hm:st.length=m) (oO:x.set j (.own m 0 ys.length)=x') (lp:st.set id ⟨g,el,size,hole l enc i x'⟩++[⟨0,nv,sz,ys.map encY⟩]=st'):Wk k ⟨nn,e,st⟩ ⟨nn,e,st'⟩:=by
 subst lp;subst oO;subst hx;exact Nu lQ (CS hi) hc hm (n:=ys.length) (by simp) rfl
theorem Wk.take {id m g gm size sz nn j n:Nat}{el nv:TypeId}{i:Int}{c:α}{ys:List β}{encY:β->List AV}{x x':List AV}{e:Nat->AV}{st st':List Row}(lQ:st[id]?=some ⟨g,el,size,hole l enc i x⟩)(hi:Sh.get l i=some c)(hc:x[j]?=some (.own m gm n))
  (hm:st[m]?=some ⟨gm,nv,sz,ys.map encY⟩) (hn:n=ys.length) (lv:id≠m) (oP:k<=m) (hd :∀y,(encY y).all Og=true) (oO:x.set j (.dv nv sz (ys.map encY))=x') (lp:(st.set id ⟨g,el,size,hole l enc i x'⟩).set m ⟨gm+1,nv,sz,[]⟩=st') :
  Wk k ⟨nn,e,st⟩ ⟨nn,e,st'⟩:=by
 subst lp;subst oO;refine Nj lQ (Ft hi) hc hm (by simpa using hn) lv oP (λy hy c hc=>?_) (by rw[R8]);obtain⟨z,_,rfl⟩:=gC.1 hy;exact fk.1 (hd z) c hc
theorem RI {id g size nn:Nat}{el:TypeId}{i:Int}{u:α}{x:List AV}{e:Nat->AV}{st st':List Row}(lQ:st[id]?=some ⟨g,el,size,hole l enc i x⟩)(hx:x=enc u)(lp:st.set id ⟨g,el,size,(Sh.put l i u).map enc⟩=st'):Wk k ⟨nn,e,st⟩ ⟨nn,e,st'⟩:=by
 rw[X3 hx]at lQ;have:st.set id ⟨g,el,size,(Sh.put l i u).map enc⟩=st:=by
  obtain⟨h1,h2⟩:=fe.1 lQ;rw[<- h2];exact jq h1
 rw[this]at lp;exact Fj lp
section
variable {ops : Array Oper} {Q : Exit -> St -> Prop} {ds : List (Option Tmp)} {r : List Oper} {n : Nat} {e : Nat -> AV} {st st' : List Row} {ty : TypeId} {ps : String} {ed : Array Edge} {t : Tmp} {v : AV} {gd : Option (Nat × Bool)} {T : TypeId} {x y : Operand} {ag : Bool} {sz id g size : Nat} {el : TypeId} {cs : List AV} {c : α} {i : Int}
end
end Go.Abs
namespace Go.Abs
open Go
variable {P : Program} {F : Nat -> Prop} {os : List Own} {s : St} {a : Act} {w : World} {k : Nat}
section
variable {α : Type} {l : List α} {enc : α -> List AV}
variable {ops : Array Oper} {Q : Exit -> St -> Prop} {ds : List (Option Tmp)} {r : List Oper} {n : Nat} {e : Nat -> AV} {st st' : List Row} {ty : TypeId} {ps : String} {ed : Array Edge} {t : Tmp} {T : TypeId} {x y : Operand} {m bytes size : Nat} {el : TypeId} {zz : List AV} {u : α} {j : Int} {kk pL : IntKind}
end
end Go.Abs
namespace Go.Abs
open Go
variable {P : Program} {F : Nat -> Prop} {os : List Own} {s : St} {a : Act} {w : World} {k : Nat}
variable {α β : Type} {l : List α} {enc : α -> List AV}
theorem Hg {id g size nn:Nat}{el:TypeId}{i:Int}{c:α}{x:List AV}{e:Nat->AV}{st st':List Row}(lQ:st[id]?=some ⟨g,el,size,hole l enc i x⟩)(hi:Sh.get l i=some c)(hx:x=enc c)(lp:st.set id ⟨g,el,size,l.map enc⟩=st'):Wk k ⟨nn,e,st⟩ ⟨nn,e,st'⟩:=by
 have h2:hole l enc i x=l.map enc:=by
  subst hx;unfold hole;have:=CS (enc:=enc) hi;obtain⟨h1,h2⟩:=fe.1 this;rw[<- h2];exact jq h1
 rw[h2]at lQ;have:st.set id ⟨g,el,size,l.map enc⟩=st:=by
  obtain⟨h1,h2⟩:=fe.1 lQ;rw[<- h2];exact jq h1
 rw[this]at lp;exact Fj lp
end Go.Abs
namespace Go.Abs
open Go
theorem Ob {α:Type}{l l':List α}{c:α}{b:Nat}(h:Sh.app l [c] b=some l'):Sh.get l' (Sh.len l)=some c:=by
 unfold Sh.app at h;split at h
 ·simp only[ff]at h;subst h;unfold Sh.get Sh.len;rw[fq (jb _)];simp
 ·cases h
section
variable {P : Program} {k : Nat} {α : Type} {l l' : List α} {enc : α -> List AV} {c : α}
variable {ops : Array Oper} {Q : Exit -> St -> Prop} {ds : List (Option Tmp)} {r : List Oper} {n : Nat} {e : Nat -> AV} {st st' : List Row} {ty : TypeId} {ps : String} {ed : Array Edge} {t : Tmp} {gd : Option (Nat × Bool)} {T : TypeId} {x y : Operand} {bytes size id g m q gq size' : Nat} {el nv : TypeId} {zz cs : List AV}
theorem Q1 (hg:GO ds gd e)(he:Dt P T=some ⟨el,size,bytes,zz⟩)(hx:St.ev ⟨n,e,st⟩ x=.own id g m)(hr:st[id]?=some ⟨g,el,size,l.map enc⟩)(hm:m=l.length)(hy:St.ev ⟨n,e,st⟩ y=.own q gq 1)(hq:st[q]?=some ⟨gq,nv,size',[cs]⟩)
  (mQ:cs.all AV.leaf=true) (nP:cs.length=size) (ha:Sh.app l [c] bytes=some l') (lp:st.set id ⟨g+1,el,size,hole l' enc (Sh.len l) cs⟩=st') (hk:AO P k ops Q (ds++[some t]) r ⟨n,Em e t (.own id (g+1) l'.length),st'⟩) :
  AO P k ops Q ds (⟨some t,.call ⟨.builtin .append,#[x,y],#[T,T]⟩,ty,ps,ed,gd⟩::r) ⟨n,e,st⟩:=by
 subst lp;subst hm;refine Lz hg ?_;rw[UZ];refine⟨rfl,?_⟩;rw[hx,hy];unfold Sh.app at ha;split at ha
 ·rename_i h;simp only[ff]at ha;subst ha;refine Am _ he (Am _ hq ⟨rfl,λz hz c hc=>?_,rfl,λz hz=>?_,Am _ hr ⟨rfl,(gI _).symm,rfl,rfl,by simpa using h.1,by simpa using h.2,?_⟩⟩)
  ·simp only[gB]at hz;subst hz;exact fk.1 mQ c hc
  ·simp only[List.take_one,List.head?_cons,Option.toList_some,gB]at hz;subst hz;exact nP
  ·have e1:(l.map enc).take l.length=l.map enc:=by rw[<- gI (f:=enc) (as:=l),iR]
   have e3:List.map enc l++[cs]=hole (l++[c]) enc (Sh.len l) cs:=by simp[hole,Sh.len]
   simp only[e1,List.take_one,List.head?_cons,Option.toList_some,e3,List.length_singleton];rw[show l.length+1=(l++[c]).length by simp];exact hk
 ·cases ha
end
end Go.Abs
namespace Go.Abs
open Go
variable {P : Program} {F : Nat -> Prop} {os : List Own} {s : St} {a : Act} {w : World} {k : Nat}
def N7 (id g:Nat)(xs:List (List AV)):AV->AV
 | .own mG g' n=>if mG=id/\g'=g then (if n=xs.length then .sl (Jw xs) else .E2) else .own mG g' n
 | v=>v
def bt (id g:Nat)(xs:List (List AV)):AV->AV
 | .agg cs=>.agg (cs.map (N7 id g xs))
 | .Dm cs=>.Dm (cs.map (N7 id g xs))
 | v=>N7 id g xs v
theorem Wk.bD {id:Nat}{row:Row}(oT:k<=id)(lQ:s.st[id]?=some row)(hp:R9 row.xs):
  Wk k s ⟨s.n,λt=>bt id row.gen row.xs (s.env t),s.st.set id { row with gen:=row.gen+1,xs:=[] }⟩:=λF os a w hr=>by
 obtain⟨o,ho,rfl⟩:=hr.row lQ;have lU:=hr.rows id o ho;refine⟨λb=>F b∨o.owns b,os.set id ⟨{ o.row with gen:=o.row.gen+1,xs:=[] },none,0,FP⟩,?_,?_⟩
 case refine_2=>
  refine⟨rfl,rfl,rfl,gA _,λ_ h=>.inl h,λ_ _=>rfl,λb _ h1 h2=>⟨rfl,λh=>h.elim h1 (λe=>h2 o (fc ho) e),λo' lz=>?_⟩,λi oi hi nm=>⟨oi,?_,gA _,rfl,λ_=>⟨rfl,rfl,rfl⟩⟩⟩
  ·rcases gp lz with h|rfl
   ·exact h2 o' h
   ·intro hh;rcases hh with hh|hh
    ·simp at hh
    ·exact hh
  ·rw[gJ (by omega)];exact nm
 have hF:∀b,F b->(λb=>F b∨o.owns b) b:=λ_ h=>.inl h;have mK:FF os (os.set id ⟨{ o.row with gen:=o.row.gen+1,xs:=[] },none,0,FP⟩):=FF.set ho (by simp) rfl (λe=>by simp at e);have lY:∀x v,Ae F w os x v->Ae (λb=>F b∨o.owns b) w (os.set id ⟨{ o.row with gen:=o.row.gen+1,xs:=[] },none,0,FP⟩) x v:=λx v h=>
  Dc hF (λ_ _=>rfl) os _ mK x v h
 have h1:∀x v,Ae F w os x v->Ae (λb=>F b∨o.owns b) w (os.set id ⟨{ o.row with gen:=o.row.gen+1,xs:=[] },none,0,FP⟩) (N7 id o.row.gen o.row.xs x) v:=λx v h=>by
  cases x with
  | own mG g' n=>
   simp only[N7];split
   ·rename_i sN;obtain⟨rfl,rfl⟩:=sN;split
    ·rename_i pw;subst pw;simp only[Ae]at h;obtain⟨o',lz,_,_,h⟩:=h;rw[ho]at lz;cases lz;obtain⟨_,hv⟩:=h rfl;have hD:=SW lU hp (v:=v) (by simpa only[iS,jy,kO] using hv);have:=(SJ (F:=λb=>F b∨o.owns b) (λb hb=>.inr hb) _ _ hD).1;simp only[OR,Ae]at this⊢;exact this
    ·simp[Ae]
   ·exact lY _ _ h
  | _=>exact lY _ _ h
 have hL:∀xs us,Br F w os xs us->Br (λb=>F b∨o.owns b) w (os.set id ⟨{ o.row with gen:=o.row.gen+1,xs:=[] },none,0,FP⟩) (xs.map (N7 id o.row.gen o.row.xs)) us:=λxs us h=>
  DV (by simp[BW h]) λi x u hx hu=>by
   simp only[fg,fp]at hx;obtain⟨y,hy,rfl⟩:=hx;obtain⟨u',e1,e2⟩:=CJ h i y hy;rw[hu]at e1;cases e1;exact h1 _ _ e2
 have lW:∀(i:Nat) (oi:Own),(os.set id ⟨{ o.row with gen:=o.row.gen+1,xs:=[] },none,0,FP⟩)[i]?=some oi->(i≠id/\os[i]?=some oi)∨(i=id/\oi=⟨{ o.row with gen:=o.row.gen+1,xs:=[] },none,0,FP⟩):=λi oi hi=>by
  by_cases e:i=id
  ·subst e;rw[fv (fe.1 ho).1,ff]at hi;exact .inr ⟨rfl,hi.symm⟩
  ·rw[gJ (iT e)]at hi;exact .inl ⟨e,hi⟩
 refine⟨by rw[iX,hr.st],λt=>?_,hr.size,λi oi hi=>?_,λi j oi oj b hi hj nD nE=>?_,λb hb=>?_,hr.defers⟩
 ·have:=hr.env t;simp only;generalize s.env t=x at this⊢;cases x with
  | agg cs=>simp only[bt,Ae]at this⊢;obtain⟨us,e,h⟩:=this;exact⟨us,e,hL _ _ h⟩
  | Dm cs=>simp only[bt,Ae]at this⊢;obtain⟨us,e,h⟩:=this;exact⟨us,e,hL _ _ h⟩
  | _=>exact h1 _ _ this
 ·rcases lW i oi hi with ⟨lv,h⟩|⟨_,rfl⟩
  ·have nL:=hr.rows i oi h;refine⟨nL.pos,nL.lens,nL.none,λb hb=>?_,λb hb=>⟨λhF=>hF.elim (nL.mo b hb).1 (λns=>lv (hr.inj i id oi o b h ho (.inr hb) ns)),(nL.mo b hb).2⟩,nL.deep⟩;obtain⟨e1,cur,e2,e3,e4,e5,e6⟩:=nL.some b hb;refine⟨λhF=>hF.elim e1 (λns=>lv (hr.inj i id oi o b h ho (.inl hb) ns)),cur,e2,e3,e4,e5,λi' x hx j c hc=>?_⟩;obtain⟨u,f1,f2⟩:=e6 i' x hx j c hc;exact⟨u,f1,lY _ _ f2⟩
  ·exact⟨lU.pos,by simp,by simp,by simp,λb hb=>hb.elim,Ef (by simp)⟩
 ·rcases lW i oi hi with ⟨lv,h⟩|⟨h,rfl⟩<;>rcases lW j oj hj with ⟨qz,h'⟩|⟨h',rfl⟩
  ·exact hr.inj i j oi oj b h h' nD nE
  ·exact nE.elim (λe=>by simp at e) λe=>e.elim
  ·exact nD.elim (λe=>by simp at e) λe=>e.elim
  ·omega
 ·rcases hb with hb|hb|hb
  ·exact hr.GG b hb
  ·obtain⟨_,cur,lj,_⟩:=lU.some b hb;exact (gk.1 lj).1
  ·exact (lU.mo b hb).2.1
variable {α : Type} {l : List α} {enc nG : α -> List AV} {n id g m size : Nat} {e : Nat -> AV} {st st' : List Row} {L : List (Nat × AV)} {el : TypeId} {xs : List (List AV)}
theorem YZ (h:m=l.length)(hu :∀x,Hs (enc x)=nG x):N7 id g (l.map enc) (.own id g m)=.sl (l.map nG):=by
 subst h;simp only[N7,and_self,gb,gI];rw[Hb,iP];congr 1;exact gO λx _=>hu x
theorem le.N7 (h:m=l.length)(hu :∀x,Hs (enc x)=nG x):le (Abs.N7 id g (l.map enc) (.own id g m)) (.sl (l.map nG)):=le.of (YZ h hu)
theorem Li (h :∀x,(enc x).all Og=true):R9 (l.map enc):=λx hx c hc=>by
 obtain⟨y,_,rfl⟩:=gC.1 hx;exact fk.1 (h y) c hc
theorem T1 (lQ:st[id]?=some ⟨g,el,size,xs⟩)(oT:k<=id)(hp:R9 xs)(h:ME (λt=>Abs.bt id g xs (e t)) L)(lp:st.set id ⟨g+1,el,size,[]⟩=st'):Wk k ⟨n,e,st⟩ ⟨n,Aa L,st'⟩:=by
 subst lp;exact (Wk.bD (s:=⟨n,e,st⟩) oT lQ hp).trans (Ag h)
end Go.Abs
namespace Go.Abs
open Go
variable {P : Program} {F : Nat -> Prop} {os : List Own} {s : St} {a : Act} {w : World} {k : Nat}
def dF (x:AV):AV:=bif flat x then x else .E2
theorem aR {F':Nat->Prop}{w':World}(hF :∀b,F b->F' b)(hw :∀b,F b->w'.heap[b]?=w.heap[b]?)(os':List Own){x:AV}{v:Value}(h:Ae F w os x v):Ae F' w' os' (dF x) v:=by
  unfold dF;cases hf:flat x with
  | false=>simp[Ae]
  | true=>exact I1 hf os' (Dc hF hw [] [] (by simp) x v (I1 hf [] h))
def cU (x:AV):AV:=bif flat x then x else match x with
  | .ptr (id+1) g i off=>.ptr (id+1) g i off
  | _=>.E2
theorem ae {F':Nat->Prop}{w':World}(hF :∀b,F b->F' b)(hw :∀b,F b->w'.heap[b]?=w.heap[b]?){o o':Own}{nW:List Own}{x:AV}{v:Value}(h:Ae F w (o::nW) x v):Ae F' w' (o'::nW) (cU x) v:=by
  unfold cU;cases hf:flat x with
  | true=>exact I1 hf _ (Dc hF hw [] [] (by simp) x v (I1 hf [] h))
  | false=>
    cases x<;>simp only[cond_false]<;>try simp[Ae]
    rename_i id g i off;cases id with
    | zero=>simp[Ae]
    | succ id=>
      simp only[Ae,gZ]at h⊢;exact h
theorem Q3 {P:Program}{ops:Array Oper}{md:Region.Mode}{Q Q':Exit->Act->World->Prop}(hp :∀c a w,Q (.panic c) a w->Q' (.panic c) a w)(qX:LetsOut Q->LetsOut Q')(hn :∀a w,Q .normal a w->Q' .normal a w):
    ∀(fuel:Nat) {lK:Array Bool} {a:Act} {w:World},wpAny P md ops Q fuel lK a w->wpAny P md ops Q' fuel lK a w
  | 0,_,_,_,h=>⟨h.1,hn _ _ h.2⟩
  | fuel+1,lK,a,w,h=>by
    refine⟨λh0=>hn _ _ (h.1 h0),λi hi=>?_⟩;have:=h.2 i hi;unfold wpOp at this⊢;split
    · rename_i ho;simp only[ho]at this;exact Q3 hp qX hn fuel this
    · rename_i o ho;simp only[ho]at this;split
      · rename_i hw;rw[fq hw]at this;exact this.imp (λh=>Nq hp qX (Oper.wp_mono (λa w h=>Q3 hp qX hn fuel h) h)) λh=>⟨h.1,qX h.2⟩
      · rename_i hw;rw[fr hw]at this;exact Q3 hp qX hn fuel this
def Y4 (row oY:Row)(Q:Exit->St->Prop):Exit->St->Prop:=λex s'=>(∃r,s'.st=oY::r)/\Q ex ⟨s'.n,λt=>dF (s'.env t),[row]⟩
theorem QZ {xs:List (List AV)}(hp:Dz xs){o:Own}(lU:Lb F w os o)(hx:o.row.xs=xs):∀x∈xs,∀c∈x,c.leaf=true:=λx hm c hc=>by
  have h1:=hp x hm c hc;have h2:=(lU.lens x (by rw[hx];exact hm)).2 c hc;cases c<;>simp_all [simple,AV.leaf,AV.kept]
theorem Zi {Q:Exit->St->Prop}{o:Own}{nW:List Own}{g:Nat}{el:TypeId}{size b0:Nat}{xs ys:List (List AV)}(hp:Dz (xs++ys))(lQ:o.row=⟨g,el,size,xs⟩)(tl:o.Fa=some b0)(po:¬ F b0){w1:World}(ht:HN w w1 (some b0))
    {e:Exit} {a':Act} {w':World} (h:KF 1 (Y4 ⟨g,el,size,xs⟩ ⟨g,el,size,xs++ys⟩ Q) F (⟨⟨g,el,size,xs++ys⟩,some b0,o.cap,o.more⟩::nW) w1 e a' w') (hold :∀b,F b->b<w.heap.size):KF 1 Q F (o::nW) w e a' w':=by
  obtain⟨s',F',os',⟨⟨rst',lp⟩,hQ⟩,hR,hE⟩:=h;have mK:∃o' sA,os'=o'::sA/\o'.row=⟨g,el,size,xs++ys⟩:=by
    have:=hR.st;rw[lp]at this;cases os' with
    | nil=>cases this
    | cons o' sA=>
      simp only[gP,jD]at this;exact⟨o',sA,rfl,this.1⟩
  obtain⟨o',sA,rfl,hrow'⟩:=mK;obtain⟨o2,e2,_,_,e3⟩:=hE.Xe 0 _ (by omega) rfl;simp only[gQ,ff]at e2;subst e2;obtain⟨e4,e5,_⟩:=e3 (by rw[hrow']);dsimp only at e4 e5;have rK:=hR.rows 0 o' rfl;have mQ:=QZ hp rK (by rw[hrow']);have hF:∀b,F b->w1.heap[b]?=w.heap[b]?:=λb hb=>ht.GG b (hold b hb) (λe=>po (by cases e;exact hb));refine⟨_,F',[{ o' with row:=⟨g,el,size,xs⟩ }],hQ,⟨rfl,λt=>aR (λ_ h=>h) (λ_ _=>rfl) _ (hR.env t),hR.size,λi oi hi=>?_,λi j oi oj b hi hj nD nE=>?_,hR.GG,hR.defers⟩,?_⟩
  · match i,hi with
    | 0,hi=>
      simp only[gQ,ff]at hi;subst hi;refine⟨by have:=rK.pos;rw[hrow']at this;exact this,λx hx=>?_,λhn=>(by rw[e4]at hn;cases hn),λb hb=>?_,λb hb=>rK.mo b hb,Ef λx hx c hc=>mQ x (gz _ hx) c hc⟩
      · have:=rK.lens x (by rw[hrow'];exact gz _ hx);rw[hrow']at this;exact this
      · obtain⟨h1,cur,h2,h3,h4,h5,h6⟩:=rK.some b hb;rw[hrow']at h2 h3 h4 h6;refine⟨h1,cur,h2,h3,by simp only[gV]at h4⊢;omega,h5,λi x hx j c hc=>?_⟩;obtain⟨u,f1,f2⟩:=h6 i x (by simp only at hx⊢;rw[ft (fe.1 hx).1];exact hx) j c hc;exact⟨u,f1,FW (hp x (gz _ (fc hx)) c (fc hc)) _ f2⟩
  · match i,j,hi,hj with
    | 0,0,_,_=>rfl
  · refine⟨hE.sys.trans ht.sys,hE.tape.trans ht.tape,hE.output.trans ht.output,jx ht.size hE.size,hE.OF,λb hb=>(hE.Ir b hb).trans (hF b hb),λb hb h1 h2=>?_,λi oi hi nm=>?_⟩
    · have lv:b≠b0:=λe=>h2 o (by simp) (.inl (by rw[e];exact tl));have hnm:¬ o.more b:=λhm=>h2 o (by simp) (.inr hm);obtain⟨f1,f2,f3⟩:=hE.other b (iG hb ht.size) h1 (λq hq ns=>by
        rcases fu.1 hq with rfl|hq
        · rcases ns with ns|ns
          · simp only[ff]at ns;exact lv ns.symm
          · exact hnm ns
        · exact h2 q (by simp[hq]) ns)
      refine⟨f1.trans (ht.GG b hb (λe=>lv (by cases e;rfl))),f2,λq hq ns=>?_⟩;simp only[gB]at hq;subst hq;exact f3 o' (by simp) ns
    · match i,nm with
      | 0,nm=>
        simp only[gQ,ff]at nm;subst nm;exact⟨_,rfl,by rw[lQ];exact gA _,by rw[lQ],λ_=>⟨by rw[tl];exact e4,e5,by rw[lQ]⟩⟩
      | _+1,_=>omega
theorem WN {t ty:TypeId}{ei:YB}{g:Nat}{xs:List (List AV)}{ys:List (List AV)}{y:AV}{ux ud:Value}(hr:Rel F os s a w){pO:List Row}(lp:s.st=⟨g,ei.e,ei.size,xs⟩::pO)(tE :∀row∈pO,Dz row.xs)(he:Dt P t=some ei)
    (hd:Ae F w os (.own 0 g xs.length) ud) (hx:Ae F w os y ux) (rV:EL s.st y ys) (wF :∀z∈ys,z.length=ei.size) (hp:Dz (xs++ys)) (lv:ys≠[]) (hb:(xs.length+ys.length)*ei.bytes<=140737488355328) (hm:xs.length+ys.length<=9223372036854775807) :
    ∃o nW u w',os=o::nW/\o.row=⟨g,ei.e,ei.size,xs⟩/\(Builtin.append_ #[t,t] ty #[ud,ux]).run P w=.ok u w'/\
      ((∃b0,o.Fa=some b0/\¬ F b0/\HN w w' (some b0)/\Rel F (⟨⟨g,ei.e,ei.size,xs++ys⟩,some b0,o.cap,o.more⟩::nW) ⟨s.n,λt=>cU (s.env t),⟨g,ei.e,ei.size,xs++ys⟩::pO⟩ a w'/\
          u=.slice (some ⟨b0,0,none⟩) (xs.length+ys.length) o.cap)∨
       (∃cap,Rel F (os++[⟨⟨0,ei.e,ei.size,xs++ys⟩,some w.heap.size,cap,FP⟩]) { s with st:=s.st++[⟨0,ei.e,ei.size,xs++ys⟩] } a w'/\Ext F os w F (os++[⟨⟨0,ei.e,ei.size,xs++ys⟩,some w.heap.size,cap,FP⟩]) w' k/\
          u=.slice (some ⟨w.heap.size,0,none⟩) (xs.length+ys.length) cap)):=by
  obtain⟨inf,z,hu,hi,hz,nz,mH,lr,hby,_,_⟩:=Ht he;obtain⟨nb,h,hys',pt,⟨ad,c,rfl,hsrc⟩⟩:=T9 (size:=ei.size) (K:=λz=>z=ys) hr (rV _ ⟨wF,rfl⟩) hx;subst h;have mK:∃o nW,os=o::nW/\o.row=⟨g,ei.e,ei.size,xs⟩/\nW.map Own.row=pO:=by
    have:=hr.st;rw[lp]at this;cases os with
    | nil=>cases this
    | cons o nW=>
      simp only[gP,jD]at this;exact⟨o,nW,rfl,this.1,this.2⟩
  obtain⟨o,nW,rfl,lQ,hros⟩:=mK;have pt:∀y∈nb,∀c∈y,c.leaf=true:=by
    rcases pt with e|h
    · exact absurd e lv
    · exact h
  have zR:0<nb.length:=jv.2 lv;have qN:∃b off,ad=some ⟨b,off,none⟩/\∃us:List Value,us.length=nb.length*inf.size/\(∀(j:Nat) u,us[j]?=some u->w.cell? ((⟨b,off,none⟩:Addr).add j)=some u)/\(∀u∈us,u.oneCell'=true)/\GU F w (o::nW) ei.size us nb:=by
    rcases hsrc with e|⟨b,off,rfl,hc⟩
    · exact absurd e lv
    · obtain⟨us,h1,h2,h3,h4⟩:=PK hys' hc;exact⟨b,off,rfl,us,by rw[h1,lr],h2,h3,h1,λi y hy j c hc=>by obtain⟨u,e1,_,e2⟩:=h4 i y hy j c hc;exact⟨u,e1,e2⟩⟩
  obtain⟨b,off,rfl,us,oo,mJ,qU,hrep⟩:=qN;have lU:=hr.rows 0 o rfl;have xG:=QZ (xs:=xs) (λx hx=>hp x (gz _ hx)) lU (by rw[lQ]);have mU:∀x∈xs++nb,x.length=ei.size/\∀c∈x,c.leaf=true:=λx hx=>by
    rcases gS.1 hx with h|h
    · have:=(lU.lens x (by rw[lQ];exact h)).1;rw[lQ]at this;exact⟨this,xG x h⟩
    · exact⟨hys' x h,pt x h⟩
  have sU:∀(cap:Nat) (mW:List Value),GU F w (o::nW) ei.size mW xs->xs.length+nb.length<=cap->cap<=maxLen->
      Rel F ((o::nW)++[⟨⟨0,ei.e,ei.size,xs++nb⟩,some w.heap.size,cap,FP⟩]) { s with st:=s.st++[⟨0,ei.e,ei.size,xs++nb⟩] } a (w.drew.alloc (.cells (mW.toArray++us.toArray++Builtin.zeroCells z.cells (cap-(xs.length+nb.length))) ei.e))/\
      Ext F (o::nW) w F ((o::nW)++[⟨⟨0,ei.e,ei.size,xs++nb⟩,some w.heap.size,cap,FP⟩]) (w.drew.alloc (.cells (mW.toArray++us.toArray++Builtin.zeroCells z.cells (cap-(xs.length+nb.length))) ei.e)) k:=λcap mW hold oS nU=>by
    obtain⟨e1,e2⟩:=NW (F:=F) (w:=w) (os:=o::nW) (z:=z) (size:=ei.size) (n:=xs.length) (m:=nb.length) (cap:=cap) (by rw[nz,lr]) rfl rfl hold hrep oS;have:=hr.NZ (k:=k) (.inr rfl) (cur:=_) (e:=ei.e) (size:=ei.size) (cap:=cap) (xs:=xs++nb) (by omega) mU e1 (by simpa using oS) nU (λi x hx j c hc=>e2 i x hx j c hc);exact⟨this.1,this.2.1⟩
  have ob:=grownCap_ge w (xs.length+nb.length);have rD:=je w (xs.length+nb.length);simp only[Ae]at hd;obtain⟨o',lz,_,_,hd⟩:=hd;simp only[gQ,ff]at lz;subst lz;obtain⟨_,hd⟩:=hd (by rw[lQ]);rw[lQ]at hd;simp only[iS,jy,kO]at hd;rcases hd with ⟨pb,a0,rfl⟩|⟨b0,JH,rfl⟩
  · have pw:=(lU.none pb).1;rw[lQ]at pw;dsimp only at pw;subst pw;have ln:(Builtin.append_ #[t,t] ty #[.slice a0 0 0,.slice (some ⟨b,off,none⟩) nb.length c]).run P w=.ok (.slice (some ⟨w.heap.size,0,none⟩) (0+nb.length) (grownCap w (0+nb.length) 0 ei.e))
        (w.drew.alloc (.cells (([]:List Value).toArray++us.toArray++Builtin.zeroCells z.cells (grownCap w (0+nb.length) 0 ei.e-(0+nb.length))) ei.e)):=by
      cases a0 with
      | none=>
        have:=run_append_nil (P:=P) w t ty ei.e inf z hu hi hz ⟨b,off,none⟩ nb.length c us oo mJ (by omega) (by simp at hm;omega) (by rw[<- hby];simp at hb;omega);simpa using this
      | some a0=>
        have:=ja (P:=P) w t ty ei.e inf z hu hi hz a0 0 0 [] (by simp) (by simp) ⟨b,off,none⟩ nb.length c us oo mJ (by omega) (by omega) (jl (by simp at hm;omega) (by rw[<- hby];simpa using hb));simpa using this
    have qW:=sU (grownCap w (0+nb.length) 0 ei.e) [] (by simp[GU]) (by simpa using ob 0 ei.e) (by simpa using rD 0 ei.e (by simp[maxLen]at hm⊢;omega));exact⟨o,nW,_,_,rfl,lQ,ln,.inr ⟨_,qW.1,qW.2,rfl⟩⟩
  · obtain⟨po,cur,lj,nP,qm,qO,lk⟩:=lU.some b0 JH;rw[lQ]at lj nP qm lk;dsimp only at lj nP qm lk;by_cases hroom:xs.length+nb.length<=o.cap
    · have mr:xs.length*inf.size+us.length<=cur.size:=by rw[oo,nP,lr,<- gU];exact gW _ hroom
      have ln:=run_append_room (P:=P) w t ty ei.e inf hu hi b0 xs.length o.cap cur lj ⟨b,off,none⟩ nb.length c us oo mJ qU hroom mr;have hT:=HN.setRow w b0 (cur.toList.take (xs.length*inf.size)++us++cur.toList.drop (xs.length*inf.size+us.length)).toArray;have hF:∀g,F g->(w.setRow b0 (cur.toList.take (xs.length*inf.size)++us++cur.toList.drop (xs.length*inf.size+us.length)).toArray).heap[g]?=w.heap[g]?:=λg hg=>hT.GG g (hr.GG g hg) (λe=>po (by cases e;exact hg));refine⟨o,nW,_,_,rfl,lQ,ln,.inl ⟨b0,JH,po,hT,⟨by simp only[gP,hros],λt=>ae (λ_ h=>h) hF (hr.env t),hr.size,λi oi hi=>?_,λi j oi oj b hi hj nD nE=>?_,λg hg=>iG (hr.GG g hg) hT.size,hr.defers⟩,rfl⟩⟩
      · match i,hi with
        | 0,hi=>
          simp only[gQ,ff]at hi;subst hi;have mq:∀c u,simple c=true->Ae F w (o::nW) c u->∀os',Ae F (w.setRow b0 (cur.toList.take (xs.length*inf.size)++us++cur.toList.drop (xs.length*inf.size+us.length)).toArray) os' c u:=λc u hc h os'=>
            FW hc os' (Dc (λ_ h=>h) hF [] [] (by simp) c u (FW hc [] h))
          refine⟨by have:=lU.pos;rw[lQ]at this;exact this,λx hx=>⟨(mU x hx).1,λc hc=>Dr ((mU x hx).2 c hc)⟩,λhn=>(by cases hn),λb' mE=>?_,λg hg=>⟨(lU.mo g hg).1,by simpa using (lU.mo g hg).2.1,by rw[<- JH];exact (lU.mo g hg).2.2⟩,Ef λx hx c hc=>(mU x hx).2 c hc⟩;simp only[ff]at mE;subst mE;refine⟨po,_,kE w b0 cur _ _ _ lj,?_,by simpa using hroom,qO,λi y hy j c hc=>?_⟩
          · simp only[jL,gV,iz,jH,iw]at mr⊢;rw[<- nP];omega
          · simp only at hy⊢;rw[Jj mr];by_cases mX:i<xs.length
            · rw[ft mX]at hy;obtain⟨u,f1,f2⟩:=lk i y hy j c hc;have oh:j<ei.size:=by rw[<- (mU y (gz _ (fc hy))).1];exact (fe.1 hc).1
              have:(i+1)*ei.size<=xs.length*ei.size:=gW _ mX;rw[gU]at this;refine⟨u,?_,mq c u (hp y (gz _ (fc hy)) c (fc hc)) f2 _⟩;rw[fq (by rw[<- lr];omega)];exact f1
            · rw[fw (by omega)]at hy;obtain⟨u,f1,f2⟩:=hrep.2 _ y hy j c hc;refine⟨u,?_,mq c u (hp y (jB _ (fc hy)) c (fc hc)) f2 _⟩;have lh:=(fe.1 f1).1;have h3:xs.length*ei.size<=i*ei.size:=gW _ (by omega);rw[Nat.sub_mul]at f1 lh;rw[fr (by rw[<- lr];omega),fq (by rw[<- lr];omega),<- f1];congr 1;rw[<- lr];omega
        | i+1,hi=>
          simp only[gZ]at hi;have nm:=hr.rows (i+1) oi (by simpa using hi);have zS:Dz oi.row.xs:=tE oi.row (by rw[<- hros];exact jU (fc hi));have xH:=QZ zS nm rfl;have hni:∀b,oi.owns b->b≠b0:=λb hb e=>by
            have:=hr.inj (i+1) 0 oi o b (by simpa using hi) rfl hb (.inl (by rw[e];exact JH));omega
          refine⟨nm.pos,nm.lens,nm.none,λb hb=>?_,λb hb=>⟨(nm.mo b hb).1,iG (nm.mo b hb).2.1 hT.size,(nm.mo b hb).2.2⟩,Ef xH⟩;obtain⟨f1,om,f2,f3,f4,f5,f6⟩:=nm.some b hb;refine⟨f1,om,?_,f3,f4,f5,λi' x hx j c hc=>?_⟩
          · rw[hT.GG b (nm.lt (.inl hb)) (λe=>hni b (.inl hb) (by cases e;rfl))];exact f2
          · obtain⟨u,g1,g2⟩:=f6 i' x hx j c hc;have oV:=zS x (fc hx) c (fc hc);exact⟨u,g1,FW oV _ (Dc (λ_ h=>h) hF [] [] (by simp) c u (FW oV [] g2))⟩
      · have key:∀(i:Nat) oi b,((⟨⟨g,ei.e,ei.size,xs++nb⟩,some b0,o.cap,o.more⟩:Own)::nW)[i]?=some oi->oi.owns b->∃qd,(o::nW)[i]?=some qd/\qd.owns b:=λi oi b hi hb=>by
          cases i with
          | zero=>
            simp only[gQ,ff]at hi;subst hi;exact⟨o,rfl,hb.imp (λhb=>by rw[JH];exact hb) id⟩
          | succ i=>exact⟨oi,hi,hb⟩
        obtain⟨qd,q1,q2⟩:=key i oi b hi nD;obtain⟨uz,q3,q4⟩:=key j oj b hj nE;exact hr.inj i j qd uz b q1 q3 q2 q4
    · have hold:∀(i:Nat) y,xs[i]?=some y->Ln F w (o::nW) b0 (0+i*ei.size) y:=λi y hy=>by
        have:=hr.PQ (id:=0) (o:=o) rfl JH (i:=i) (x:=y) (by rw[lQ];exact hy);rw[lQ]at this;simpa using this
      obtain⟨mW,h1,h2,_,h4⟩:=PK (λx hx=>(mU x (gz _ hx)).1) hold;have ln:=ja (P:=P) w t ty ei.e inf z hu hi hz ⟨b0,0,none⟩ xs.length o.cap mW (by rw[h1,lr]) h2 ⟨b,off,none⟩ nb.length c us oo mJ (by omega) (by omega) (jl (by omega) (by rw[<- hby];exact hb));have qW:=sU (grownCap w (xs.length+nb.length) o.cap ei.e) mW ⟨h1,λi y hy j c hc=>by obtain⟨u,f1,_,f2⟩:=h4 i y hy j c hc;exact⟨u,f1,f2⟩⟩ (ob o.cap ei.e) (rD o.cap ei.e (by simp[maxLen];omega));exact⟨o,nW,_,_,rfl,lQ,ln,.inr ⟨_,qW.1,qW.2,rfl⟩⟩
section
variable {P : Program} {ops : Array Oper} {Q : Exit -> St -> Prop} {n N f i : Nat} {lK listed' : Array Bool} {e : Nat -> AV} {ty : TypeId} {p : String} {ed : Array Edge} {t : Tmp} {α : Type} {l l2 l' : List α} {enc : α -> List AV} {x y : Operand} {g m size bytes : Nat} {el : TypeId} {zz : List AV} {T : TypeId} {pO : List Row} {k : Nat}
theorem CO (h:lK=listed'){s:St}(ha:AX P k ops Q N f lK s):AX P k ops Q N f listed' s:=h▸ha
theorem AX.two (row oY:Row){s:St}(h :∀A A':Nat->Array Bool->St->Prop,(∀f l s,A f l s↔AX P k ops Q N f l s)->(∀f l s,A' f l s↔AX P k ops (Y4 row oY Q) N f l s)->A f lK s):AX P k ops Q N f lK s:=
  h (AX P k ops Q N) (AX P k ops (Y4 row oY Q) N) (λ_ _ _=>Iff.rfl) (λ_ _ _=>Iff.rfl)
theorem Jh {s:St}(h :∀A:Nat->Array Bool->St->Prop,(∀f l s,A f l s↔AX P k ops Q N f l s)->A f lK s):AX P k ops Q N f lK s:=
  h (AX P k ops Q N) (λ_ _ _=>Iff.rfl)
theorem Jk {ys:AV}(ho:ops[i]?=some ⟨some t,.call ⟨.builtin .append,#[x,y],#[T,T]⟩,ty,p,ed,none⟩)(qZ:DM n (some t)=true)(he:Dt P T=some ⟨el,size,bytes,zz⟩)(tE :∀row∈pO,Dz row.xs)(hx:St.ev ⟨n,e,⟨g,el,size,l.map enc⟩::pO⟩ x=.own 0 g m)(hm:m=l.length)(hy:St.ev ⟨n,e,⟨g,el,size,l.map enc⟩::pO⟩ y=ys)(rV:EL (⟨g,el,size,l.map enc⟩::pO) ys (l2.map enc))
    (rZ:l2.isEmpty=false) (hs :∀a,(enc a).length=size) (hp :∀l:List α,Dz (l.map enc)) (ha:Sh.app l l2 bytes=some l')
    (h1:AX P 1 ops (Y4 ⟨g,el,size,l.map enc⟩ ⟨g,el,size,l'.map enc⟩ Q) N f (lK.setIfInBounds i true) ⟨n,Em (λt=>cU (e t)) t (.own 0 g l'.length),⟨g,el,size,l'.map enc⟩::pO⟩)
    (h2:AX P 1 ops Q N f (lK.setIfInBounds i true) ⟨n,Em e t (.own (pO.length+1) 0 l'.length),⟨g,el,size,l.map enc⟩::(pO++[⟨0,el,size,l'.map enc⟩])⟩) :
    IZ P 1 ops Q N f lK ⟨n,e,⟨g,el,size,l.map enc⟩::pO⟩ i:=by
  subst hm;unfold Sh.app at ha;split at ha
  case isFalse=>cases ha
  rename_i vE;simp only[ff]at ha;subst ha;intro F0 os0 w0 F os a w hr tn;have vF:=hr.ev x;rw[hx]at vF;have vG:=hr.ev y;rw[hy]at vG;have xI:=hp (l++l2);rw[iD]at xI h1 h2;obtain⟨o,nW,u,w',rfl,lQ,ln,hA⟩:=WN (k:=1) (ty:=ty) (ei:=⟨el,size,bytes,zz⟩) (g:=g) (xs:=l.map enc) (ys:=l2.map enc) hr rfl tE he (by simpa using vF) vG rV
    (λz hz=>by obtain⟨q,_,rfl⟩:=gC.1 hz;exact hs q) xI (by intro e;rw[List.map_eq_nil_iff]at e;rw[e]at rZ;cases rZ) (by simpa using vE.1) (by simpa using vE.2)
  unfold wpOp;simp only[ho];rw[fq (by rfl)];refine .inl ?_;unfold Oper.wp;simp only[execOp,resolve,invoke,builtin,gr,hY,gl,kK,gP,iQ,ln,Oper.upon];rcases hA with ⟨b0,JH,po,hT,hR,rfl⟩|⟨cap,hR,hE,rfl⟩
  · have h3:=h1.2 F _ w' F _ _ w' (hR.put (d:=some t) qZ (v:=.own 0 g (l++l2).length) (u:=.slice (some ⟨b0,0,none⟩) ((l.map enc).length+(l2.map enc).length) o.cap) (by
      simp only[Ae];exact⟨_,rfl,gA _,⟨_,_,_,rfl⟩,λ_=>⟨by simp,.inr ⟨b0,rfl,by simp⟩⟩⟩)) (Ext.refl _ _ _ _)
    refine Q3 (λc a'' uM hp=>?_) (λhl=>?_) (λa'' uM hp=>?_) _ h3
    · obtain⟨_,_,_,h4,_⟩:=hp;exact nomatch h4.1
    · obtain⟨_,_,h4,_⟩:=hl;exact nomatch h4
    obtain⟨s',F',os',⟨h4,h5⟩,h6,h7⟩:=hp;obtain⟨s2,F2,os2,h8,h9,h10⟩:=Zi (Q:=λe s=>e=.normal/\Q e s) xI lQ JH po hT ⟨s',F',os',⟨h5.1,h4,h5.2⟩,h6,h7⟩ hr.GG;exact⟨s2,F2,os2,h8,h9,tn.trans h10⟩
  · refine h2.2 F0 os0 w0 F _ _ w' ?_ (tn.trans hE);have hlen:nW.length=pO.length:=by
      have:=hr.st;simp only[gP,jD]at this;rw[<- this.2,gI]
    refine hR.put (d:=some t) qZ (v:=.own (pO.length+1) 0 (l++l2).length) ?_;simp only[Ae];exact⟨⟨⟨0,el,size,l.map enc++l2.map enc⟩,some w.heap.size,cap,FP⟩,by rw[<- hlen];simp,gA _,⟨_,_,_,rfl⟩,λ_=>⟨by simp,.inr ⟨_,rfl,by simp⟩⟩⟩
end
section
variable {P : Program} {ds : List (Option Tmp)} {r : List Oper} {KS : St -> Prop} {n : Nat} {e : Nat -> AV} {st : List Row} {ty : TypeId} {ps : String} {ed : Array Edge} {t : Tmp} {gd : Option (Nat × Bool)} {α : Type} {l l' : List α} {enc : α -> List AV} {x : Operand} {size bytes : Nat} {el T : TypeId} {zz : List AV}
theorem YL {lo hi:Option Operand}{i j:Int}(hg:GO ds gd e)(he:Dt P T=some ⟨el,size,bytes,zz⟩)(hx:St.ev ⟨n,e,st⟩ x=.sl (l.map enc))(h1:R6 (lo.map (St.ev ⟨n,e,st⟩)) 0=some i)(h2:R6 (hi.map (St.ev ⟨n,e,st⟩)) l.length=some j)(hs :∀a,(enc a).length=size)(hl:Sh.sl l i j=some l')
    (hk:Dy P (ds++[some t]) r KS ⟨n,Em e t (.sl (l'.map enc)),st⟩):Dy P ds (⟨some t,.slice T x lo hi none,ty,ps,ed,gd⟩::r) KS ⟨n,e,st⟩:=by
  refine aE hg rfl (λs0 e1 e2 hd k F os a w hr next Q hn=>?_) hk;refine KH (k:=k) (K:=(·=s0.put (some t) (.sl (l'.map enc)))) hr hd ?_ hn;show TO P s0.st T (s0.ev x) (lo.map s0.ev) (hi.map s0.ev) (Option.map s0.ev none) (λv st=>({ s0 with st:=st }:St).put (some t) v=s0.put (some t) (.sl (l'.map enc)));have ex:s0.ev x=St.ev ⟨n,e,st⟩ x:=e2 x (by simp[Op.operands]);have elo:lo.map s0.ev=lo.map (St.ev ⟨n,e,st⟩):=by
    cases lo with
    | none=>rfl
    | some y=>simp only[gu];rw[e2 y (by simp[Op.operands])]
  have ehi:hi.map s0.ev=hi.map (St.ev ⟨n,e,st⟩):=by
    cases hi with
    | none=>rfl
    | some y=>simp only[gu];rw[e2 y (by simp[Op.operands])]
  rw[ex,elo,ehi,hx];unfold Sh.sl at hl;split at hl
  · rename_i h;simp only[ff]at hl;subst hl;refine Am _ he (Am _ h1 (Am _ (by rw[gI];exact h2) ⟨h.1,h.2.1,by simpa using h.2.2,λz hz=>?_,?_⟩))
    · obtain⟨q,_,rfl⟩:=gC.1 hz;exact hs q
    · rw[List.map_drop,List.map_take]
  · cases hl
theorem T7 {f:FuncId}{mT:Array Operand}{ts:Array TypeId}{args mB:List AV}{rowsP rows0 rows1 rows1':List Row}{v v':AV}(sel:List Nat)(hg:GO ds gd e)(hb:D1 P f=true)(hc:Ac P f mB rows0 λr st=>r=v/\st=rows1)(ha:mT.toList.map (St.ev ⟨n,e,st⟩)++[]=args)(mh:sel.Nodup)(lh:sel.all (·<st.length)=true)
    (hp:CT st sel=rowsP) (hs:SR sel rowsP rows0) (hf:args.map (Je sel)=mB) (hlen:rows1.length=sel.length) (h1:UN sel st.length rows1 rows1') (hv:Rn sel st.length v=v') (nM:Fs sel rows1' 0 st=st)
    (hk:Dy P (ds++[some t]) r KS ⟨n,Em e t v',st⟩):Dy P ds (⟨some t,.call ⟨.value (.func f),mT,ts⟩,ty,ps,ed,gd⟩::r) KS ⟨n,e,st⟩:=by
  subst ha;subst hv;subst hp;refine aE hg rfl (λs0 e1 e2 hd k F os a w hr next Q hn=>?_) hk;refine KH (k:=k) (K:=(·=s0.put (some t) (Rn sel st.length v))) hr hd ?_ hn;show D1 P f=true/\callThen P k s0 f (mT.toList.map s0.ev++[]) (some t) _;rw[Qt e2];refine⟨hb,Js λhle=>?_⟩;subst e1;obtain⟨e1,e3⟩:=hs.spec (st0:=s0.st) hle (λrow lQ=>by
    obtain⟨i,_,hi⟩:=hU.1 lQ;exact fc hi)
  refine Kg (rows2:=[]) sel (by simpa using hc) mh (λi hi=>by simpa using fk.1 lh i hi) e1 e3 hf hlen (λrow lQ=>by
    rw[iK]at lQ;exact h1.leaf row lQ) λ_=>?_
  simp only[h1.spec,iQ,iK,nM]
end
end Go.Abs
namespace Go.Abs
open Go
section
variable {P : Program} {k : Nat} {ops : Array Oper} {Q : Exit -> St -> Prop} {ds : List (Option Tmp)} {r : List Oper} {n : Nat} {e : Nat -> AV} {st st' : List Row} {ty : TypeId} {p : String} {ed : Array Edge} {t : Tmp} {x y : Operand} {size bytes m : Nat} {el T Tn : TypeId} {zz : List AV} {α : Type} {enc : α -> List AV} {u : α} {l' : List α} {kk : IntKind} {j : Int} {v : AV} {o : Oper}
theorem Xz (hn:o.guard=none)(h :∀F os a w,Rel F os ⟨n,e,st⟩ a w->∃z w' F' os',(execOp a.eval o).run P w=.ok (.value z) w'/\Rel F' os' ⟨n,e,st'⟩ a w'/\Ae F' w' os' v z/\Ext F os w F' os' w' k)
  (hk:AO P k ops Q (ds++[o.dst]) r (St.put ⟨n,e,st'⟩ o.dst v)):AO P k ops Q ds (o::r) ⟨n,e,st⟩:=by
 intro hl ou mO F os a w hr Q' hQ;have ho:ops[ds.length]?=some o:=by have:=hl 0;simpa using this.symm
 have qZ:DM n o.dst=true:=mO o (by have:=fc (l:=ops.toList) (i:=ds.length) (by simpa using ho);exact this);have oa :∀(j:Nat),r[j]?=ops[(ds++[o.dst]).length+j]?:=λj=>by
  have:=hl (j+1);simp only[gZ]at this;rw[this];congr 1;simp;omega
 have pU :∀(j:Nat) d,(ds++[o.dst])[j]?=some d->(ops[j]?).map (·.dst)=some d:=λj d hj=>by
  rcases iH j ds.length with h1|h1|h1
  ·rw[ft h1]at hj;exact ou j d hj
  ·subst h1;rw[JR,ff]at hj;rw[ho];simp[hj]
  ·rw[hH (by simp;omega)]at hj;cases hj
 obtain⟨z,w',F',os',h1,h2,h3,h4⟩:=h F os a w hr;unfold wpList;rw[fq (by unfold Region.wanted;rw[hn])];refine .inl ?_;unfold Oper.wp;rw[h1];simp only[Oper.upon];refine hk oa pU (by cases o.dst<;>exact mO) F' os' _ w' (h2.put qZ h3) Q' λ_ _ _ hp=>hQ _ _ _ (hp.trans h4)
theorem Xi (hs:DI P T=true)(hx:St.ev ⟨n,e,st⟩ x=.zc)(hk:AO P k ops Q (ds++[some t]) r ⟨n,Em e t (i64 0),st⟩):
  AO P k ops Q ds (⟨some t,.call ⟨.builtin .cap,#[x],#[T]⟩,ty,p,ed,none⟩::r) ⟨n,e,st⟩:=by
 refine Xz rfl (st':=st) (v:=i64 0) (λF os a w hr=>?_) hk;have h1:=hr.ev x;rw[hx]at h1;simp only[Ae]at h1;obtain⟨ad,h1⟩:=h1;unfold DI at hs;split at hs
 case h_2=>cases hs
 rename_i el hu;refine⟨.int .i64 0,w,F,os,?_,hr,by simp[Ae],Ext.refl _ _ _ _⟩;simp only[execOp,resolve,invoke,builtin,gr,hY,gl,kK,gP,iQ,h1,Builtin.cap_];simp[gy hu,goInt]
theorem cG {hi:Option Operand}(he:Dt P T=some ⟨el,size,bytes,zz⟩)(hx:St.ev ⟨n,e,st⟩ x=.zc)(h2:R6 (hi.map (St.ev ⟨n,e,st⟩)) 0=some 0)
  (hk:AO P k ops Q (ds++[some t]) r ⟨n,Em e t .zc,st⟩):AO P k ops Q ds (⟨some t,.slice T x none hi none,ty,p,ed,none⟩::r) ⟨n,e,st⟩:=by
 refine Lz AH ?_;rw[Rv];simp only[kR];rw[hx];exact Am _ he (Am _ rfl (Am _ h2 ⟨rfl,rfl,hk⟩))
theorem bE {kn:IntKind}(he:Dt P T=some ⟨el,size,bytes,zz⟩)(hn:P.underlying Tn=some (.int kn))(hx:St.ev ⟨n,e,st⟩ x=.zc)(hy:St.ev ⟨n,e,st⟩ y=.int kk j)(h0:decide (0<j)=true)(hz:enc u=zz)(hj:Sh.mk u j bytes=some l')(hm:st.length=m)(lp:st++[⟨0,el,size,l'.map enc⟩]=st')
  (hk:AO P k ops Q (ds++[some t]) r ⟨n,Em e t (.own m 0 l'.length),st'⟩):AO P k ops Q ds (⟨some t,.call ⟨.builtin .append,#[x,y],#[T,Tn]⟩,ty,p,ed,none⟩::r) ⟨n,e,st⟩:=by
 subst hm;subst lp;subst hz;unfold Sh.mk at hj;split at hj
 case isFalse=>cases hj
 rename_i vE;simp only[ff]at hj;subst hj;refine Xz rfl (st':=st++[(⟨0,el,size,(List.replicate j.toNat u).map enc⟩:Row)]) (v:=.own st.length 0 (List.replicate j.toNat u).length) (λF os a w hr=>?_) hk;have h1:=hr.ev x;rw[hx]at h1;simp only[Ae]at h1;obtain⟨ad,h1⟩:=h1;have h2:=hr.ev y;rw[hy]at h2;simp only[Ae]at h2;obtain⟨inf,z,hu,hi,hz,nz,mH,lr,hby,hzz,mQ⟩:=Ht he;dsimp only at hu hi nz mH lr hby hzz mQ;have wo:0<j:=iF h0;obtain⟨q,rfl⟩:=gv (Int.le_of_lt wo);rw[ie];have wM:0<q:=by omega
 have vH:q*inf.bytes<=281474976710656:=by
  have h9:((q*bytes:Nat):Int)<=281474976710656:=by rw[kP];exact vE.2.1
  rw[<- hby];omega
 have hold:(Builtin.firstCells inf.size 0 (.slice ad 0 0)).run P w.drew=.ok ([]:List Value).toArray w.drew:=by
  cases ad with
  | none=>exact run_firstCells_none w.drew inf.size 0 0 0
  | some ad=>exact run_firstCells_some w.drew inf.size 0 ad 0 0 [] (by simp) (by simp)
 have mr:Builtin.nextslicecap (0+q) 0*inf.bytes<=281474976710656:=by rw[iJ,nextslicecap_zero wM];exact vH
 have ln:=Lib.run_append_grow_zeros (P:=P) w T Tn ty el inf z kk kn hu hn hi hz ad 0 0 [] hold q wM (by omega) (by omega) (by omega) vH mr;rw[iJ]at ln;have ob:=grownCap_ge w q 0 el;have hle:=je w q 0 el (by unfold maxLen;omega);have xJ:∀i,i<z.cells.size->∃c',z.cells[i]?=some c':=λi hi=>⟨_,iC hi⟩;have oJ:=hr.NZ (k:=k) (.inr rfl) (cur:=([]:List Value).toArray++Builtin.zeroCells z.cells q++Builtin.zeroCells z.cells (grownCap w q 0 el-q)) (e:=el) (size:=size) (cap:=grownCap w q 0 el) (xs:=(List.replicate q u).map enc)
  (by omega) (λx hx=>by
   rw[kA]at hx;rw[List.eq_of_mem_replicate hx,hzz];refine⟨by simp[nz,lr],λc hc=>mQ c (by rw[hzz];exact hc)⟩)
  (by
   simp only[Array.size_append,jL,iM,size_zeroCells,nz,lr,iJ,<- gU];congr 1;omega)
  (by rw[gI,List.length_replicate];omega) hle (λi x hx jj c hc=>by
   rw[kA]at hx;have hi:i<q:=by
    have:=(fe.1 hx).1;simpa using this
   have oO:x=enc u:=List.eq_of_mem_replicate (fc hx);subst oO;rw[hzz]at hc;simp only[fg,fp,il]at hc;obtain⟨c',hc1,rfl⟩:=hc;have oh:jj<z.cells.size:=(gk.1 hc1).1;refine⟨c',?_,LM F w os c'⟩;have lh:i*size+jj<q*size:=by
    have:(i+1)*size<=q*size:=gW _ hi;rw[gU]at this;omega
   rw[Array.append_assoc,show (([]:List Value).toArray++(Builtin.zeroCells z.cells q++Builtin.zeroCells z.cells (grownCap w q 0 el-q)))=(Builtin.zeroCells z.cells q++Builtin.zeroCells z.cells (grownCap w q 0 el-q)) by simp];rw[ic (by rw[size_zeroCells,nz,<- lr];exact lh)];unfold Builtin.zeroCells;rw[Array.getElem?_map,Array.getElem?_range];rw[fq (by rw[nz,<- lr];exact lh)];simp only[gu,ff];have pS:(i*size+jj) % z.cells.size=jj:=by
    rw[nz,<- lr,kN,Nat.mul_add_mod];exact jQ (by omega)
   rw[pS];simp[Array.getElem!_eq_getD,Array.getD,oh,(gk.1 hc1).2])
 refine⟨.slice (some ⟨w.heap.size,0,none⟩) q (grownCap w q 0 el),_,F,_,?_,oJ.1,?_,oJ.2.1⟩
 ·simp only[execOp,resolve,invoke,builtin,gr,hY,gl,kK,gP,iQ,h1,h2];rw[ln];simp
 ·simp only[Ae];have hlen:st.length=os.length:=hr.len;exact⟨_,by rw[hlen];exact JR _ _,gA _,⟨_,_,_,rfl⟩,λ_=>⟨by simp,.inr ⟨_,rfl,by simp⟩⟩⟩
end
section
variable {P : Program} {ds : List (Option Tmp)} {r : List Oper} {KS : St -> Prop} {n : Nat} {e : Nat -> AV} {st : List Row} {ty : TypeId} {ps : String} {ed : Array Edge} {t : Tmp} {gd : Option (Nat × Bool)} {α : Type} {l : List α} {enc : α -> List AV} {u : α} {x y : Operand} {size bytes : Nat} {el T : TypeId} {zz : List AV} {kk pL : IntKind} {j : Int}
theorem eo (hg:GO ds gd e)(he:Dt P T=some ⟨el,size,bytes,zz⟩)(hx:St.ev ⟨n,e,st⟩ x=.int kk j)(hy:St.ev ⟨n,e,st⟩ y=.int pL j)(hz:enc u=zz)(hl:Sh.mk u j bytes=some l)(xD:Dz (l.map enc))
  (hk:Dy P (ds++[some t]) r KS ⟨n,Em e t (.sl (l.map enc)),st⟩):Dy P ds (⟨some t,.makeSlice T x y,ty,ps,ed,gd⟩::r) KS ⟨n,e,st⟩:=by
 subst hz;refine aE hg rfl (λs0 e1 e2 hd k F os a w hr next Q hn=>?_) hk;have ex:s0.ev x=.int kk j:=(e2 x (by simp[Op.operands])).trans hx;have ey:s0.ev y=.int pL j:=(e2 y (by simp[Op.operands])).trans hy;have vF:=hr.ev x;have vG:=hr.ev y;rw[ex]at vF;rw[ey]at vG;unfold Sh.mk at hl;split at hl
 case isFalse=>cases hl
 rename_i h;simp only[ff]at hl;subst hl;have h9:He P 0 F [] ⟨s0.n,λ_=>.E2,[]⟩ a w (Instr.makeSlice T (a.eval x) (a.eval y)) (λz st=>z=.own 0 0 (List.replicate j.toNat u).length/\st=[⟨0,el,size,(List.replicate j.toNat u).map enc⟩]):=by
  refine Vu (l:=.int kk j) (c:=.int pL j) hr.bare (Am _ he ⟨rfl,h.1,h.2.1,h.2.2,?_⟩) (FW (x:=.int kk j) rfl [] vF) (FW (x:=.int pL j) rfl [] vG);simp
 obtain⟨u',w',F',g1,g2,g3,g4⟩:=Mn (k:=k) hr h9 (Tk xD) rfl;unfold Oper.wp;simp only[execOp,gr,g1,gl,hY,Oper.upon];exact hn _ _ (Oh (st':=s0.st) hd rfl g2 g3 g4)
end
theorem Hh {row:Row}{pO:List Row}(h:Dz row.xs)(g :∀q∈pO,Dz q.xs):∀q∈row::pO,Dz q.xs:=λq hq=>by
 rcases fu.1 hq with rfl|hq
 ·exact h
 ·exact g q hq
section
variable {P : Program} {k : Nat} {ops : Array Oper} {Q : Exit -> St -> Prop} {ds : List (Option Tmp)} {r : List Oper} {n : Nat} {e : Nat -> AV} {st st' : List Row} {ty : TypeId} {p : String} {ed : Array Edge} {t : Tmp} {x y : Operand} {size bytes m : Nat} {el T : TypeId} {zz : List AV} {kk pL : IntKind} {c : Nat}
theorem Z1 (he:Dt P T=some ⟨el,size,bytes,zz⟩)(hx:St.ev ⟨n,e,st⟩ x=.int kk 0)(hy:St.ev ⟨n,e,st⟩ y=.int pL (c:Int))(hc:decide (c*bytes<=281474976710656/\c<=9223372036854775807)=true)(hm:st.length=m)(lp:st++[⟨0,el,size,[]⟩]=st')
  (hk:AO P k ops Q (ds++[some t]) r ⟨n,Em e t (.own m 0 0),st'⟩):AO P k ops Q ds (⟨some t,.makeSlice T x y,ty,p,ed,none⟩::r) ⟨n,e,st⟩:=by
 subst hm;subst lp;have vE:=iF hc;refine Xz rfl (st':=st++[(⟨0,el,size,[]⟩:Row)]) (v:=.own st.length 0 0) (λF os a w hr=>?_) hk;have h1:=hr.ev x;rw[hx]at h1;simp only[Ae]at h1;have h2:=hr.ev y;rw[hy]at h2;simp only[Ae]at h2;obtain⟨inf,z,hu,hi,hz,nz,mH,lr,hby,hzz,mQ⟩:=Ht he;dsimp only at hu hi nz mH lr hby hzz mQ;have ln:=run_make (P:=P) w T el inf z hu hi hz kk pL 0 (c:Int) (by omega) (by omega) (by rw[<- hby,<- kP,kN];omega) (by omega);have oJ:=hr.NZ (k:=k) (.inl rfl) (cur:=madeCells z.cells (c*inf.size)) (e:=el) (size:=size) (cap:=c) (xs:=[]) (by omega) (by simp) (by rw[size_madeCells,lr]) (by simp) (by simp[maxLen];omega) (by simp);refine⟨.slice (some ⟨w.heap.size,0,none⟩) 0 c,_,F,_,?_,oJ.1,?_,oJ.2.1⟩
 ·simp only[execOp,gr,hY,gl,h1,h2];rw[ln];simp
 ·simp only[Ae];have hlen:st.length=os.length:=hr.len;exact⟨_,by rw[hlen];exact JR _ _,gA _,⟨_,_,_,rfl⟩,λ_=>⟨by simp,.inr ⟨_,rfl,by simp⟩⟩⟩
end
end Go.Abs
namespace Go.Abs
open Go
variable {P : Program} {n : Nat} {e : Nat -> AV} {st : List Row} {t : Tmp} {ty : TypeId} {ps : String} {ed : Array Edge} {x : Operand}
theorem It {id g i off oZ el size j f:Nat}{tt:TypeId}{xs:List (List AV)}(hf:HM P tt f=some j)(h:St.ev ⟨n,e,st⟩ x=.ptr id g i off)(lQ:st[id]?=some ⟨g,el,size,xs⟩)(hl:off+j<=size)(ho:off+j=oZ):Nm P ⟨n,e,st⟩ ⟨some t,.fieldAddr tt x f,ty,ps,ed,none⟩ (.ptr id g i oZ):=
 ⟨rfl,λF os a w hr=>by
  subst ho;have h1:=hr.ev x;rw[h]at h1;unfold HM at hf;split at hf<;>try (cases hf;done)
  rename_i fs hu;split at hf<;>try (cases hf;done)
  rename_i g1 hg;split at hf<;>try (cases hf;done)
  rename_i i1 hi;split at hf
  ·cases hf
  rename_i hz;simp only[ff]at hf;have ln:∀b off w',(Instr.fieldAt tt (.pointer (some ⟨b,off,none⟩)) f).run P w'=.ok (.pointer (some ⟨b,off+j,none⟩)) w':=λb off w'=>by
   simp[Instr.fieldAt,gy hu,hg,Instr.sureAddr,fieldPlace,sizeOf,typeInfo,hi,hz,Cy,hf]
  obtain⟨ow,how,hrw⟩:=hr.row lQ;simp only[Ae]at h1;obtain⟨o',lz,ob,_,hv⟩:=h1;rw[how]at lz;cases lz;have qW:ow.row.gen=g:=by rw[hrw]
  obtain⟨h2,h3,b,hb,e2⟩:=hv qW;refine⟨.pointer (some ⟨b,i*ow.row.size+off+j,none⟩),λw'=>?_,?_⟩
  ·simp[execOp,e2,ln]
  ·simp only[Ae];exact⟨ow,how,ob,⟨_,rfl⟩,λ_=>⟨h2,by rw[hrw];exact hl,b,hb,by rw[iO]⟩⟩⟩
end Go.Abs
namespace Go.Abs
open Go
def SF (F:Nat->Prop)(w:World):World->Prop:=λw'=>∀b,F b->w'.heap[b]?=w.heap[b]?
section
variable {P : Program} {k : Nat} {ops : Array Oper} {Q : Exit -> St -> Prop} {N f i : Nat} {lK listed' : Array Bool} {s s' : St} {o : Oper}
def AY (P:Program)(k:Nat)(ops:Array Oper)(Q:Exit->St->Prop)(N f:Nat)(lK:Array Bool)(s:St):Prop:=
 s.n=N/\∀F0 os0 w0 F os a w,Rel F os s a w->Ext F0 os0 w0 F os w k->wpAnyH P .any ops (Ni k Q F0 os0 w0) (SF F0 w0) f lK a w
def XG (P:Program)(k:Nat)(ops:Array Oper)(Q:Exit->St->Prop)(N f:Nat)(lK:Array Bool)(s:St)(i:Nat):Prop:=
 ∀F0 os0 w0 F os a w,Rel F os s a w->Ext F0 os0 w0 F os w k->wpOp P ops (Ni k Q F0 os0 w0) i (λa' w'=>SF F0 w0 w'/\wpAnyH P .any ops (Ni k Q F0 os0 w0) (SF F0 w0) f (lK.setIfInBounds i true) a' w') a w
def Zx (P:Program)(k:Nat)(ops:Array Oper)(Q:Exit->St->Prop)(N f:Nat)(lK:Array Bool)(s:St):List Nat->Prop
 | []=>True
 | i::r=>XG P k ops Q N f lK s i/\Zx P k ops Q N f lK s r
theorem Zx.get:∀{l:List Nat},Zx P k ops Q N f lK s l->∀i∈l,XG P k ops Q N f lK s i
 | j::r,h,i,hi=>by
  rcases fu.1 hi with rfl|hi
  ·exact h.1
  ·exact Zx.get h.2 i hi
theorem AY.all (rs:List Nat)(hn:s.n=N)(hr:Region.ready .any ops lK=rs)(lv:rs≠[])(h:Zx P k ops Q N f lK s rs):AY P k ops Q N (f+1) lK s:=
 ⟨hn,λF0 os0 w0 F os a w ly he=>wpAnyH_all hr lv λi hi=>h.get i hi F0 os0 w0 F os a w ly he⟩
theorem QH (hn:s.n=N)(hr:Region.ready .any ops lK=[])(h:Q .normal s):AY P k ops Q N f lK s:=
 ⟨hn,λ_ _ _ F os a w ly he=>wpAnyH_done hr ⟨s,F,os,⟨rfl,h⟩,ly,he⟩ f⟩
theorem J1 (hw:Wk k s s')(h:AY P k ops Q N f lK s')(hn:s.n=N):AY P k ops Q N f lK s:=
 ⟨hn,λF0 os0 w0 F os a w ly he=>by
  obtain⟨F1,mF,h1,e1⟩:=hw F os a w ly;exact h.2 F0 os0 w0 F1 mF a w h1 (he.trans e1)⟩
theorem NF (h:lK=listed')(ha:AY P k ops Q N f lK s):AY P k ops Q N f listed' s:=h▸ha
theorem Rw (h :∀A:Nat->Array Bool->St->Prop,(∀f l s,A f l s↔AY P k ops Q N f l s)->A f lK s):AY P k ops Q N f lK s:=
 h (AY P k ops Q N) (λ_ _ _=>Iff.rfl)
theorem XG.of (ho:ops[i]?=some o)(hg:Ms o i=true)(hd:(ops.toList.all λo=>DM s.n o.dst)=true)
  (h:AO P k (ops.extract 0 (i+1)) (λe s'=>e=.normal/\AY P k ops Q N f (lK.setIfInBounds i true) s') ((ops.toList.take i).map (·.dst)) [o] s):XG P k ops Q N f lK s i:=by
 intro F0 os0 w0 F os a w ly he;have hi:i<ops.size:=(gk.1 ho).1;have hex:∀j,(ops.extract 0 (i+1))[j]?=if j<i+1 then ops[j]? else none:=λj=>by
  rw[Array.getElem?_extract];split<;>split<;>simp_all<;>omega
 have h1:=h (λj=>by
   have hlen:((ops.toList.take i).map (·.dst)).length=i:=by simp;omega
   rw[hlen,hex];cases j with
   | zero=>simp[ho]
   | succ j=>rw[fr (by omega)];simp) (λj d hj=>by
   simp only[fg,gR]at hj;split at hj
   ·rw[hex,fq (by omega)];simpa using hj
   ·cases hj) (λo' lz=>by
   obtain⟨j,hj⟩:=gG.1 lz;rw[il,hex]at hj;split at hj
   ·exact fk.1 hd o' (fc (i:=j) (by simpa using hj))
   ·cases hj) F os a w ly (λe a' w'=>e=.normal/\SF F0 w0 w'/\wpAnyH P .any ops (Ni k Q F0 os0 w0) (SF F0 w0) f (lK.setIfInBounds i true) a' w') (by
   rintro e a' w' ⟨s',F',os',⟨rfl,hax⟩,mc,he'⟩;exact⟨rfl,(he.trans he').Ir,hax.2 F0 os0 w0 F' os' a' w' mc (he.trans he')⟩)
 have hy:Region.wanted o (yielded (ops.extract 0 (i+1)) a.tmps)=Region.wanted o (yielded ops a.tmps):=by
  unfold Region.wanted;unfold Ms at hg;cases hgd:o.guard with
  | none=>rfl
  | some p=>
   obtain⟨j,want⟩:=p;rw[hgd]at hg;simp only[fy]at hg;simp only[yielded,hex,fq hg]
 unfold wpList at h1;unfold wpOp;simp only[ho];rw[hy]at h1;split at h1
 ·rename_i hw;rw[fq hw];rcases h1 with h1|⟨_,a1,w1,h1,_⟩
  ·refine .inl (Oper.wp_mono (λa' w' h'=>?_) (Nq (λc a' w' h'=>?_) (λh'=>?_) h1))
   ·exact h'.2
   ·exact nomatch h'.1
   ·obtain⟨_,_,h2,_⟩:=h';exact nomatch h2
  ·exact nomatch h1
 ·rename_i hw;rw[fr hw];exact h1.2
theorem Si (i:Nat){v:AV}(hn:s.n=N)(ho:ops[i]?=some o)(hs:Region.noSelect ops=true)(hf:Region.free .any ops lK i=true)(hr:(Region.ready .any ops lK).contains i=true)(hd:DM s.n o.dst=true)(hh:Nm P s o v)
  (h:AY P k ops Q N f (lK.setIfInBounds i true) (s.put o.dst v)):AY P k ops Q N (f+1) lK s:=
 ⟨hn,λF0 os0 w0 F os a w ly he=>by
  obtain⟨hg,hh⟩:=hh;obtain⟨u,hu,hv⟩:=hh F os a w ly;refine wpAnyH_take ho hs hf hr (λc a w ⟨_,_,_,hp,_⟩=>nomatch hp.1) (.inl ⟨by unfold Region.wanted;rw[hg],λw' _=>hu w'⟩) he.Ir ?_;exact h.2 F0 os0 w0 F os _ w (ly.put hd hv) he⟩
def AZ (P:Program)(k:Nat)(ops:Array Oper)(Q:Exit->St->Prop)(N f:Nat)(lK:Array Bool)(s:St):Prop:=
 s.n=N/\∀F os a w,Rel F os s a w->wpAnyH P .any ops (Ni k Q F os w) (SF F w) f lK a w
theorem Uq {f':Nat}(hf:f=f')(hl:lK=listed')(h:AZ P k ops Q N f' listed' s):AZ P k ops Q N f lK s:=hf▸hl▸h
theorem Ty (h:AY P k ops Q N f lK s):AZ P k ops Q N f lK s:=
 ⟨h.1,λF os a w hr=>h.2 F os w F os a w hr (Ext.refl F os w k)⟩
theorem PA {id:Nat}(hm:P.follows .mixedOrders=true)(h:AZ P k ops Q s.n ops.size (Array.replicate ops.size false) s):AW P k (.region id ops true) Q s:=by
 intro F os a w hr;obtain⟨rq,he1⟩:=hr.drew (k:=k);refine kT (wp_region_held hm (h.2 F os a w.drew rq)) ?_;rintro e a' w' ⟨s',F',os',⟨rfl,hq⟩,h1,h2⟩;exact⟨s',F',os',hq,h1,he1.trans h2⟩
def PE (P:Program)(s:St)(o:Oper)(v:AV):Prop:=
 o.guard=none/\∀F os a w,Rel F os s a w->∃u,(∀w',SF F w w'->(execOp a.eval o).run P w'=.ok (.value u) w')/\Ae F w os v u
theorem FU {v:AV}(h:Nm P s o v):PE P s o v:=⟨h.1,λF os a w hr=>let ⟨u,h1,h2⟩:=h.2 F os a w hr;⟨u,λw' _=>h1 w',h2⟩⟩
theorem DT (i:Nat){v:AV}(hn:s.n=N)(ho:ops[i]?=some o)(hs:Region.noSelect ops=true)(hf:Region.free .any ops lK i=true)(hr:(Region.ready .any ops lK).contains i=true)(hd:DM s.n o.dst=true)(hh:PE P s o v)
  (h:AZ P k ops Q N f (lK.setIfInBounds i true) (s.put o.dst v)):AZ P k ops Q N (f+1) lK s:=
 ⟨hn,λF os a w ly=>by
  obtain⟨hg,hh⟩:=hh;obtain⟨u,hu,hv⟩:=hh F os a w ly;refine wpAnyH_take ho hs hf hr (λc a w ⟨_,_,_,hp,_⟩=>nomatch hp.1) (.inl ⟨by unfold Region.wanted;rw[hg],hu⟩) (λ_ _=>rfl) ?_;exact h.2 F os _ w (ly.put hd hv)⟩
end
section
variable {P : Program} {n : Nat} {e : Nat -> AV} {st : List Row} {t : Tmp} {ty : TypeId} {ps : String} {ed : Array Edge} {x : Operand}
theorem L4 {off oZ j f:Nat}{tt:TypeId}{cs:List AV}(hf:HM P tt f=some j)(h:St.ev ⟨n,e,st⟩ x=.Bc cs off)(ho:off+j=oZ):Nm P ⟨n,e,st⟩ ⟨some t,.fieldAddr tt x f,ty,ps,ed,none⟩ (.Bc cs oZ):=
 ⟨rfl,λF os a w hr=>by
  subst ho;have h1:=hr.ev x;rw[h]at h1;unfold HM at hf;split at hf<;>try (cases hf;done)
  rename_i fs hu;split at hf<;>try (cases hf;done)
  rename_i g1 hg;split at hf<;>try (cases hf;done)
  rename_i i1 hi;split at hf
  ·cases hf
  rename_i hz;simp only[ff]at hf;have ln:∀b off w',(Instr.fieldAt tt (.pointer (some ⟨b,off,none⟩)) f).run P w'=.ok (.pointer (some ⟨b,off+j,none⟩)) w':=λb off w'=>by
   simp[Instr.fieldAt,gy hu,hg,Instr.sureAddr,fieldPlace,sizeOf,typeInfo,hi,hz,Cy,hf]
  simp only[Ae]at h1;obtain⟨b,o',e2,hb,hc⟩:=h1;refine⟨.pointer (some ⟨b,o'+off+j,none⟩),λw'=>?_,?_⟩
  ·simp[execOp,e2,ln]
  ·simp only[Ae];exact⟨b,o',by rw[iO],hb,hc⟩⟩
theorem NR {off sz:Nat}{tt:TypeId}{cs:List AV}{c:AV}(tF:EN P tt=some (false,sz))(h:St.ev ⟨n,e,st⟩ x=.Bc cs off)(hc:cs[off]?=some c):PE P ⟨n,e,st⟩ ⟨some t,.load tt x,ty,ps,ed,none⟩ c:=
 ⟨rfl,λF os a w hr=>by
  have h1:=hr.ev x;rw[h]at h1;simp only[Ae]at h1;obtain⟨b,o',e2,hb,nP⟩:=h1;obtain⟨d,i,hud,hi,e1,e3⟩:=Io tF;obtain⟨u,hu1,nt,hu3⟩:=Kb (os:=os) nP off c hc;refine⟨u,λw' tG=>?_,hu3⟩;have oB:=KM (w:=w') hud;rw[<- e1]at oB;have mJ:w'.cell? ⟨b,o'+off,none⟩=some u:=by rw[<- hu1];exact jE (tG b hb)
  simp[execOp,e2,Instr.loadAt,Instr.sureAddr,loadVar,oB,mJ]⟩
theorem So {off sz:Nat}{tt:TypeId}{cs:List AV}{c:AV}(tF:EN P tt=some (true,sz))(h:St.ev ⟨n,e,st⟩ x=.Bc cs off)(hl:off+sz<=cs.length)(hc:.agg ((cs.drop off).take sz)=c):PE P ⟨n,e,st⟩ ⟨some t,.load tt x,ty,ps,ed,none⟩ c:=
 ⟨rfl,λF os a w hr=>by
  subst hc;have h1:=hr.ev x;rw[h]at h1;simp only[Ae]at h1;obtain⟨b,o',e2,hb,nP⟩:=h1;obtain⟨d,i,hud,hi,e1,e3⟩:=Io tF;have hx:=Kb (os:=os) nP;have uN:∃f:Nat->Value,∀j,j<sz->w.cell? ((⟨b,o'+off,none⟩:Addr).add j)=some (f j)/\∀c,cs[off+j]?=some c->Ae F w os c (f j):=
   ⟨λj=>(w.cell? ((⟨b,o'+off,none⟩:Addr).add j)).getD undef,λj hj=>by
    have lh:off+j<cs.length:=by omega
    obtain⟨u,hu1,_,nt⟩:=hx (off+j) cs[off+j] (fm lh);have tH:w.cell? ((⟨b,o'+off,none⟩:Addr).add j)=some u:=by rw[Cy,<- hu1,iO]
    simp only[tH,jA];refine⟨fa,λc hc=>?_⟩;rw[fm lh,ff]at hc;exact hc▸nt⟩
  obtain⟨f,hf⟩:=uN;refine⟨.agg ((List.range sz).map f).toArray,λw' tG=>?_,?_⟩
  ·have oB:=KM (w:=w') hud;rw[<- e1]at oB;have lr:(sizeOf tt).run P w'=.ok i.size w':=by simp[sizeOf,typeInfo,hi]
   have qm:=run_loadCells (P:=P) w' ⟨b,o'+off,none⟩ sz f (λj hj=>by
    rw[<- (hf j hj).1,Cy];exact jE (tG b hb))
   simp only at e3;simp[execOp,e2,Instr.loadAt,Instr.sureAddr,loadVar,oB,lr,<- e3,qm]
  ·simp only[Ae];refine⟨_,rfl,DV (by simp;omega) λj c u hc hu=>?_⟩;simp only[gR,gh]at hc;split at hc
   ·rename_i hj;simp only[fg,ix hj,gu,ff]at hu;subst hu;exact (hf j hj).2 c hc
   ·cases hc⟩
end
section
variable {P : Program} {k : Nat} {α : Type} {l : List α} {enc : α -> List AV}
variable {ops : Array Oper} {Q : Exit -> St -> Prop} {ds : List (Option Tmp)} {r : List Oper} {n : Nat} {e : Nat -> AV} {st st' : List Row} {ty : TypeId} {ps : String} {ed : Array Edge} {v : AV} {gd : Option (Nat × Bool)} {T : TypeId} {x y : Operand} {ag : Bool} {sz id g size off : Nat} {el : TypeId} {cs cs' : List AV} {c : α} {i : Int}
end
end Go.Abs
namespace Go.Abs
open Go
end Go.Abs
namespace Go.Abs
open Go
def SK (size:Nat):Nat->List (Nat×AV)->List (List AV)->Prop
 | _,[],[]=>True
 | k,(i,v)::r,c::cs=>i=k/\J6 v=some c/\c.length=size/\SK size (k+1) r cs
 | _,_,_=>False
theorem SK.len {size:Nat}:∀{k:Nat} {pv:List (Nat×AV)} {rL:List (List AV)},SK size k pv rL->pv.length=rL.length/\∀c∈rL,c.length=size
 | _,[],[],_=>⟨rfl,by simp⟩
 | k,(i,v)::r,c::cs,h=>by
  obtain⟨h1,h2⟩:=SK.len h.2.2.2;refine⟨by simp[h1],λx hx=>?_⟩;rcases fu.1 hx with rfl|hx
  ·exact h.2.2.1
  ·exact h2 x hx
theorem Sg {size:Nat}:∀(pv:List (Nat×AV)) (rL:List (List AV)) (k:Nat) (pre rest:List AV),pre.length=k*size->rest.length=pv.length*size->SK size k pv rL->L3 (λi=>some (i*size,size)) (pre++rest) pv=some (pre++rL.flatten)
 | [],[],k,pre,rest,_,h2,_=>by
  have:rest=[]:=gY (by simpa using h2);subst this;rfl
 | (i,v)::r,c::cs,k,pre,rest,h1,h2,h=>by
  obtain⟨rfl,hv,hc,hr⟩:=h;rw[gn,gU,Nat.one_mul]at h2;have lh:size<=rest.length:=by omega
  unfold L3;simp only[hv];rw[fq ⟨hc,by rw[gV];omega⟩];have hs:Gw (pre++rest) (i*size) c=(pre++c)++rest.drop size:=by
   unfold Gw;rw[<- h1,List.take_left,hc,List.drop_append,iy (by omega),iN,show pre.length+size-pre.length=size by omega]
  rw[hs,Sg r cs (i+1) (pre++c) (rest.drop size) (by rw[gV,gU];omega) (by rw[jH];omega) hr];simp
theorem SS {size:Nat}:∀(rL:List (List AV)),(∀c∈rL,c.length=size)->chunk size rL.length rL.flatten=rL
 | [],_=>rfl
 | c::cs,h=>by
  have hc:=h c (by simp);show (c++cs.flatten).take size::chunk size cs.length ((c++cs.flatten).drop size)=_;rw[<- hc,List.take_left,List.drop_left,hc,SS cs λx hx=>h x (by simp[hx])]
theorem AT {k n:Nat}{e:Nat->AV}{st st':List Row}{L:List (Nat×AV)}(sel:List Nat)(hk:sel.take k=List.range k)(mh:sel.Nodup)(lh:sel.all (·<st.length)=true)(hp:CT st sel=st')(hs:SR sel st' st')(h:ME (λt=>Je sel (e t)) L):
  Wk k ⟨n,e,st⟩ ⟨n,Aa L,st'⟩:=MY sel hk mh lh hp hs h
section
variable {P : Program} {k : Nat} {α : Type} {l : List α} {enc : α -> List AV} {ops : Array Oper} {Q : Exit -> St -> Prop} {ds : List (Option Tmp)} {r : List Oper} {n : Nat} {e : Nat -> AV} {st st' : List Row} {ty : TypeId} {ps : String} {ed : Array Edge} {t : Tmp} {gd : Option (Nat × Bool)} {T : TypeId} {bytes size m : Nat} {el : TypeId} {zz : List AV}
theorem cS {len:Nat}{parts:Array (Nat×Operand)}{pv:List (Nat×AV)}(hg:GO ds gd e)(he:Dt P T=some ⟨el,size,bytes,zz⟩)(hle:len*size<=16777216)(hp:(parts.toList.map λp=>(p.1,St.ev ⟨n,e,st⟩ p.2))=pv)
  (hz:zz.length=size) (hf:SK size 0 pv (l.map enc)) (sS:len=l.length) (hm:st.length=m) (lp:st++[⟨0,el,size,l.map enc⟩]=st') (hk:AO P k ops Q (ds++[some t]) r ⟨n,Em e t (.own m 0 l.length),st'⟩) :
  AO P k ops Q ds (⟨some t,.buildSlice T len parts,ty,ps,ed,gd⟩::r) ⟨n,e,st⟩:=by
 obtain⟨h1,h2⟩:=hf.len;have hl:(l.map enc).length=len:=by rw[gI,sS]
 have ha:=Sg pv (l.map enc) 0 [] (List.replicate len zz).flatten (by simp) (by rw[h1,hl];simp[hz]) hf;rw[iN,iN]at ha;refine BD (cs:=(l.map enc).flatten) hg he hle hp ha ?_ sS hm lp hk;rw[<- hl];exact SS _ h2
end
end Go.Abs
namespace Go.Abs
open Go
section
variable {P : Program} {k : Nat} {ops : Array Oper} {Q : Exit -> St -> Prop} {ds : List (Option Tmp)} {r : List Oper} {n : Nat} {e : Nat -> AV} {st st' : List Row} {ty : TypeId} {ps : String} {ed : Array Edge} {gd : Option (Nat × Bool)} {T : TypeId} {x y : Operand} {size id g sz : Nat} {el : TypeId} {α : Type} {l : List α} {enc : α -> List AV} {c : α} {i : Int} {v : AV} {cs x0 : List AV} {ag : Bool}
end
end Go.Abs
namespace Go.Abs
open Go
structure MS where
 n:Nat
 e:Nat->AV
 x:Row
 z:List Row
def MS.st (R:List Row)(m:MS):St:=⟨m.n,m.e,m.x::(R++m.z)⟩
def MS.put (m:MS)(d:Option Tmp)(v:AV):MS:=match d with
 | some d=>{ m with e:=Em m.e d v }
 | none=>m
theorem N4 (R:List Row)(m:MS)(d:Option Tmp)(v:AV):(m.put d v).st R=(m.st R).put d v:=by cases d<;>rfl
theorem MH (m:MS)(d:Option Tmp)(v:AV):(m.put d v).x=m.x:=by cases d<;>rfl
theorem MF (m:MS)(d:Option Tmp)(v:AV):(m.put d v).z=m.z:=by cases d<;>rfl
theorem MK (m:MS)(d:Option Tmp)(v:AV):(m.put d v).n=m.n:=by cases d<;>rfl
def MS.ev (m:MS)(x:Operand):AV:=St.ev ⟨m.n,m.e,[]⟩ x
theorem SV (R:List Row)(m:MS)(x:Operand):(m.st R).ev x=m.ev x:=by cases x<;>rfl
inductive Kind where
 | q
 | l (x y:Row)
 | a (row:Row)
def Kind.D:Kind->Row->List Row->Prop
 | .q,_,_=>True
 | .l x0 _,x,_=>x=x0
 | .a _,_,z=>z=[]
def Kind.fx:Kind->Row->Row
 | .l _ y,_=>y
 | _,x=>x
def Kind.fz:Kind->List Row->List Row
 | .a row,_=>[row]
 | _,z=>z
def Sl (o:Oper):Bool:=match o.op with
 | .call ⟨.value _,_,_⟩=>true
 | _=>false
def Sm (o:Oper):Bool:=match o.op with
 | .alloc _=>true
 | _=>false
def Kind.fits:Kind->Oper->Prop
 | .q,_=>True
 | .l ..,o=>Sl o=true
 | .a _,o=>Sm o=true
def MS.go (m:MS)(kd:Kind):MS:=⟨m.n,m.e,kd.fx m.x,kd.fz m.z⟩
section
variable {P : Program} {k : Nat} {ops : Array Oper} {md : Region.Mode} {R : List Row}
def fR (P:Program)(k:Nat)(o:Oper)(s s':St):Prop:=
 ∀(F:Nat->Prop) (os:List Own) (a:Act) (w:World),Rel F os s a w->∀(next:Act->World->Prop) (Q:Exit->Act->World->Prop),
  (∀a' w',Step k s.n F os w (·=s') a' w'->next a' w')->o.wp P a w next Q
def ZH (P:Program)(k:Nat)(R:List Row)(o:Oper)(n:Nat)(ev:Operand->AV)(kd:Kind)(v:AV):Prop:=
 ∀x z e,kd.D x z->(∀y∈o.op.operands,MS.ev ⟨n,e,x,z⟩ y=ev y)->DM n o.dst=true->fR P k o (MS.st R ⟨n,e,x,z⟩) (MS.st R ((MS.go ⟨n,e,x,z⟩ kd).put o.dst v))
def er (P:Program)(k:Nat)(R:List Row)(o:Oper)(m m':MS):Prop:=
 ∃kd v,Kind.fits kd o/\kd.D m.x m.z/\m'=(m.go kd).put o.dst v/\ZH P k R o m.n m.ev kd v
def MT (P:Program)(k:Nat)(R:List Row)(ops:Array Oper)(o:Oper)(m m':MS):Prop:=
 (FV ops o (m.st R)=some true/\er P k R o m m')∨(FV ops o (m.st R)=some false/\m'=m.put o.dst .un)
def Tg (P:Program)(k:Nat)(R:List Row)(ops:Array Oper)(i:Nat)(K:MS->Prop)(m:MS):Prop:=
 match ops[i]? with
 | none=>K m
 | some o=>∃m',MT P k R ops o m m'/\K m'
theorem T5 {m:MS}{d:Option Tmp}{v:AV}{x:Operand}(h :∀t,d=some t->x≠.tmp t):(m.put d v).ev x=m.ev x:=by
 cases d with
 | none=>rfl
 | some d=>
  cases x with
  | tmp t=>
   have lv:t≠d:=λe=>h d rfl (e▸rfl);simp[MS.ev,MS.put,St.ev,Em,lv]
  | _=>rfl
theorem LS (m:MS){x y:Option Tmp}(v u:AV)(h :∀d,x=some d->y≠some d):(m.put x v).put y u=(m.put y u).put x v:=by
 cases x with
 | none=>rfl
 | some d=>
  cases y with
  | none=>rfl
  | some e=>
   have lv:d≠e:=λhe=>h d rfl (he▸rfl);simp only[MS.put,MS.mk.injEq,true_and,and_true];funext t;simp only[Em];by_cases h1:t=d
   ·subst h1;simp[lv]
   ·by_cases h2:t=e
    ·subst h2;simp[h1]
    ·simp[h1,h2]
theorem TQ (m:MS)(kd:Kind)(d:Option Tmp)(v:AV):(m.put d v).go kd=(m.go kd).put d v:=by cases d<;>rfl
theorem Uf {o:Oper}{m:MS}:FV ops o (m.st R)=FV ops o ⟨m.n,m.e,[]⟩:=rfl
theorem HD {oi:Oper}{m:MS}{d:Option Tmp}{u:AV}{kd:Kind}(hd :∀t,d=some t->t ∉ oi.looksAt ops):FV ops oi (((m.go kd).put d u).st R)=FV ops oi (m.st R):=by
 rw[Uf,Uf];unfold FV;cases hg:oi.guard with
 | none=>rfl
 | some p=>
  obtain⟨j,want⟩:=p;dsimp only;cases ht:(ops[j]?).bind (·.dst) with
  | none=>rfl
  | some t=>
   dsimp only;have:((m.go kd).put d u).e t=m.e t:=T5 (m:=m.go kd) (x:=.tmp t) λt' rF e=>hd t' rF (by
    cases e;exact jB _ (by simp[hg,ht]))
   rw[this]
theorem Ke {oi:Oper}{m:MS}{d:Option Tmp}{u:AV}(hd :∀t,d=some t->t ∉ oi.looksAt ops):∀x∈oi.op.operands,(m.put d u).ev x=m.ev x:=λx hx=>
 T5 λt ht uf=>hd t ht (by
  subst uf;exact gz _ (hU.2 ⟨.tmp t,by simpa using hx,rfl⟩))
theorem ZH.congr {o:Oper}{n:Nat}{ev zT:Operand->AV}{kd:Kind}{v:AV}(h:ZH P k R o n ev kd v)(he :∀y∈o.op.operands,zT y=ev y):ZH P k R o n zT kd v:=
 λx z e hD ho hd=>h x z e hD (λy hy=>(ho y hy).trans (he y hy)) hd
theorem Yd {ki kj:Kind}{oi oj:Oper}(hi:ki.fits oi)(hj:kj.fits oj)(hf:¬ (Sl oi=true/\Sl oj=true))(ha:¬ (Sm oi=true/\Sm oj=true)){x:Row}{z:List Row}(h1:ki.D x z)(h2:kj.D (ki.fx x) (ki.fz z)):
  kj.D x z/\ki.D (kj.fx x) (kj.fz z)/\ki.fx (kj.fx x)=kj.fx (ki.fx x)/\ki.fz (kj.fz z)=kj.fz (ki.fz z):=by
 cases ki with
 | q=>exact⟨h2,fa,rfl,rfl⟩
 | l x0 y=>
  cases kj with
  | q=>exact⟨fa,h1,rfl,rfl⟩
  | l x1 y1=>exact absurd ⟨hi,hj⟩ hf
  | a row=>exact⟨h2,h1,rfl,rfl⟩
 | a row=>
  cases kj with
  | q=>exact⟨fa,h1,rfl,rfl⟩
  | l x1 y1=>exact⟨h2,h1,rfl,rfl⟩
  | a row1=>exact absurd ⟨hi,hj⟩ ha
theorem az {oi oj:Oper}{m mi wN:MS}(wg:oi.apart ops oj=true)(hf:¬ (Sl oi=true/\Sl oj=true))(ha:¬ (Sm oi=true/\Sm oj=true))(hi:MT P k R ops oi m mi)(hj:MT P k R ops oj mi wN):
  ∃mj,MT P k R ops oj m mj/\MT P k R ops oi mj wN:=by
 obtain⟨h1,h2,h3⟩:=Oper.apart_spec wg;have hq:∀(m:MS),m.go .q=m:=λm=>rfl;rcases hi with ⟨wi,ki,vi,fi,di,rfl,gi⟩|⟨wi,rfl⟩<;>rcases hj with ⟨wj,kj,vj,fj,dj,rfl,gj⟩|⟨wj,rfl⟩
 ·rw[HD h1]at wj;rw[MH,MF]at dj;obtain⟨e1,e2,e3,e4⟩:=Yd fi fj hf ha di dj;refine⟨(m.go kj).put oj.dst vj,.inl ⟨wj,kj,vj,fj,e1,rfl,?_⟩,.inl ⟨by rw[HD h3];exact wi,ki,vi,fi,by rw[MH,MF];exact e2,?_,?_⟩⟩
  ·rw[MK]at gj;exact gj.congr λy hy=>(Ke (m:=m.go ki) (u:=vi) h1 y hy).symm
  ·rw[TQ,TQ,<- LS _ vi vj h2];congr 2;simp only[MS.go,e3,e4]
  ·rw[MK];exact gi.congr λy hy=>Ke (m:=m.go kj) h3 y hy
 ·rw[HD h1]at wj;refine⟨m.put oj.dst .un,.inr ⟨wj,rfl⟩,.inl ⟨by have:=HD (R:=R) (m:=m) (kd:=.q) (u:=.un) h3;rw[hq]at this;rw[this];exact wi,ki,vi,fi,by rw[MH,MF];exact di,?_,?_⟩⟩
  ·rw[TQ,<- LS _ vi .un h2]
  ·rw[MK];exact gi.congr λy hy=>Ke h3 y hy
 ·have h5:=HD (R:=R) (m:=m) (kd:=.q) (u:=.un) h1;rw[hq]at h5;rw[h5]at wj;rw[MH,MF]at dj;refine⟨(m.go kj).put oj.dst vj,.inl ⟨wj,kj,vj,fj,dj,rfl,?_⟩,.inr ⟨by rw[HD h3];exact wi,?_⟩⟩
  ·rw[MK]at gj;exact gj.congr λy hy=>(Ke h1 y hy).symm
  ·rw[TQ,<- LS _ .un vj h2]
 ·have h5:=HD (R:=R) (m:=m) (kd:=.q) (u:=.un) h1;have h6:=HD (R:=R) (m:=m) (kd:=.q) (u:=.un) h3;rw[hq]at h5 h6;rw[h5]at wj;exact⟨m.put oj.dst .un,.inr ⟨wj,rfl⟩,.inr ⟨by rw[h6];exact wi,by rw[<- LS _ .un .un h2]⟩⟩
def anyM (P:Program)(k:Nat)(R:List Row)(md:Region.Mode)(ops:Array Oper)(n:Nat)(L:Array Bool->MS->Prop):Nat->Array Bool->MS->Prop
 | 0,lK,s=>L lK s
 | f+1,lK,s=>Region.ready md ops lK≠[]/\∀i∈Region.ready md ops lK,i<n/\Tg P k R ops i (anyM P k R md ops n L f (lK.setIfInBounds i true)) s
theorem Uy {F:Nat->Prop}{os:List Own}{a:Act}{w:World}{i:Nat}{K:MS->Prop}{m:MS}(mO :∀o∈ops.toList,DM m.n o.dst=true)(hr:Rel F os (m.st R) a w)(h:Tg P k R ops i K m){next:Act->World->Prop}{Q:Exit->Act->World->Prop}
  (hn :∀a' w',Step k m.n F os w (λs=>∃m',s=m'.st R/\K m') a' w'->next a' w'):wpOp P ops Q i next a w:=by
 unfold Tg at h;unfold wpOp;split
 ·rename_i ho;simp only[ho]at h;exact hn a w ⟨m.st R,F,os,rfl,⟨m,rfl,h⟩,hr,Ext.refl _ _ _ _⟩
 ·rename_i o ho;simp only[ho]at h;obtain⟨m',hy,hK⟩:=h;have qZ:=mO o (by have:=fc (l:=ops.toList) (i:=i) (by simpa using ho);exact this);rcases hy with ⟨hw,kd,v,_,hD,rfl,hg⟩|⟨hw,rfl⟩
  ·rw[fq (MN hr mO hw)];refine .inl (hg m.x m.z m.e hD (λ_ _=>rfl) qZ F os a w hr next Q ?_);rintro a' w' ⟨s',F',os',h1,rfl,h3,h4⟩;exact hn a' w' ⟨_,F',os',h1,⟨_,rfl,hK⟩,h3,h4⟩
  ·rw[fr (by rw[MN hr mO hw];simp)];exact hn _ w ⟨_,F,os,by rw[N4];cases o.dst<;>rfl,⟨_,rfl,hK⟩,by rw[N4];exact hr.un qZ,Ext.refl _ _ _ _⟩
theorem O3 {n g N:Nat}{L:Array Bool->MS->Prop}{Q':Exit->Act->World->Prop}{F0:Nat->Prop}{os0:List Own}{w0:World}(mO :∀o∈ops.toList,DM N o.dst=true)
  (hL :∀lK (m:MS) F os a w,m.n=N->L lK m->Rel F os (m.st R) a w->Ext F0 os0 w0 F os w k->wpAny P md ops Q' g lK a w) :
  ∀(f:Nat) (lK:Array Bool) (m:MS) F os a w,m.n=N->anyM P k R md ops n L f lK m->Rel F os (m.st R) a w->Ext F0 os0 w0 F os w k->wpAny P md ops Q' (f+g) lK a w
 | 0,lK,s,F,os,a,w,hn,h,hr,he=>by rw[iJ];exact hL _ _ _ _ _ _ hn h hr he
 | f+1,lK,s,F,os,a,w,hn,h,hr,he=>by
  rw[show f+1+g=(f+g)+1 by omega];refine⟨λh0=>absurd h0 h.1,λi hi=>?_⟩;refine Uy (k:=k) (by rw[hn];exact mO) hr (h.2 i hi).2 ?_;rintro a' w' ⟨s',F',os',h1,⟨m',rfl,h2⟩,h3,h4⟩;exact O3 mO hL f _ m' F' os' a' w' (by rw[<- hn];exact h1) h2 h3 (he.trans h4)
def IU (ops:Array Oper)(i:Nat):Bool:=match ops[i]? with|some o=>Sl o|none=>false
def PR (ops:Array Oper)(i:Nat):Bool:=match ops[i]? with|some o=>Sm o|none=>false
def aO (md:Region.Mode)(ops:Array Oper)(j i:Nat):Bool:=match ops[j]? with|some o=>o.after.any λe=>Region.binds md e&&e.on==i|none=>false
def QX (md:Region.Mode)(ops:Array Oper)(n:Nat):Bool:=
 (List.range n).all λj=>(List.range j).all λi=>(!(PR ops i&&PR ops j))&&(!(IU ops i&&IU ops j) || ((List.range j).any λm=>decide (i<m)&&IU ops m) || aO md ops j i)
theorem OT {n:Nat}(h:QX md ops n=true){i j:Nat}(pz:i<j)(hj:j<n):¬ (PR ops i=true/\PR ops j=true)/\
  (IU ops i=true->IU ops j=true->(∃m,i<m/\m<j/\IU ops m=true)∨∀oj,ops[j]?=some oj->∃e∈oj.after,Region.binds md e=true/\e.on=i):=by
 unfold QX at h;have h1:=fk.1 (fk.1 h j (ig.2 hj)) i (ig.2 pz);rw[gN]at h1;refine⟨λ⟨a,b⟩=>?_,λa b=>?_⟩
 ·simp[a,b]at h1
 ·have h2:=h1.2;simp only[a,b,jW,iA,Bool.false_or,Bool.or_eq_true,jF,ig,gN,fy]at h2;rcases h2 with ⟨m,hm,h3,h4⟩|h2
  ·exact .inl ⟨m,h3,hm,h4⟩
  ·refine .inr λoj nk=>?_;simp only[aO,nk,Array.any_eq_true']at h2;obtain⟨e,he,hb⟩:=h2;simp only[gN,beq_iff_eq]at hb;exact⟨e,he,hb⟩
theorem V9 {n:Nat}(h:QX md ops n=true){lK:Array Bool}(inv:HeadInv md ops n lK):∀(d i j:Nat),j-i=d->i<j->j<n->IU ops i=true->IU ops j=true->
  lK.getD j false=true->lK.getD i false=true:=by
 intro d
 induction d using Nat.strongRecOn with
 | _ d ih=>
  intro i j hd pz hj hi tI hl;rcases (OT h pz hj).2 hi tI with ⟨m,h1,h2,h3⟩|h1
  ·have hm:=ih (j-m) (by omega) m j rfl h2 hj h3 tI hl;exact ih (m-i) (by omega) i m rfl h1 (by omega) hi h3 hm
  ·obtain⟨oj,nk⟩ :∃oj,ops[j]?=some oj:=by
    unfold IU at tI;split at tI
    ·rename_i o ho;exact⟨o,ho⟩
    ·cases tI
   obtain⟨e,he,hb,rfl⟩:=h1 oj nk;exact inv.closed j oj nk hl e he hb
theorem Xq {n:Nat}(h:QX md ops n=true){lK:Array Bool}(inv:HeadInv md ops n lK){i j:Nat}(pz:i<j)(hj:j<n)(hi:IU ops i=true)(tI:IU ops j=true)
  (hr:j∈Region.ready md ops lK):lK.getD i false=true:=by
 obtain⟨_,oj,nk,mY⟩:=jS.1 hr;have key:∀(d i:Nat),j-i=d->i<j->IU ops i=true->lK.getD i false=true:=by
  intro d
  induction d using Nat.strongRecOn with
  | _ d ih=>
   intro i hd pz hi;rcases (OT h pz hj).2 hi tI with ⟨m,h1,h2,h3⟩|h1
   ·exact V9 h inv _ i m rfl h1 (by omega) hi h3 (ih (j-m) (by omega) m rfl h2 h3)
   ·obtain⟨e,he,hb,rfl⟩:=h1 oj nk;exact mY e he hb
 exact key _ i rfl pz hi
theorem Wt {n i:Nat}{oi:Oper}{L:Array Bool->MS->Prop}(sV:QX md ops n=true)(hi:ops[i]?=some oi)
  (mu :∀lK,HeadInv md ops n lK->∀i,i<n->lK.getD i true=false->∀t,n<=t->t ∉ Region.ready md ops lK) (mX:i<n)
  (rG :∀lK s,L lK s->∀j∈Region.ready md ops lK,n<=j) :
  ∀(f:Nat) (lK:Array Bool) (m mi:MS),HeadInv md ops n lK->(∀j,j<i->lK.getD j true=true)->
   (∀j oj,ops[j]?=some oj->j≠i->lK.getD j true=false->(∀e∈oj.after,Region.binds md e=true->e.on≠i)->oi.apart ops oj=true)->
   i∈Region.ready md ops lK->MT P k R ops oi m mi->
   anyM P k R md ops n L f (lK.setIfInBounds i true) mi->anyM P k R md ops n L (f+1) lK m:=by
 have oD:∀{K:MS->Prop} {m mi:MS},MT P k R ops oi m mi->K mi->Tg P k R ops i K m:=λ{K m mi} hy h=>by
  unfold Tg;simp only[hi];exact⟨mi,hy,h⟩
 intro f
 induction f with
 | zero=>
  intro lK m mi inv qe _ hr hy H;have nV:=(jS.1 hr).1;refine⟨λh=>(by rw[h]at hr;cases hr),λj hj=>?_⟩;have qo:j<n:=by
   rcases iY j n with h|h
   ·exact h
   ·exact absurd hj (mu _ inv i mX nV j h)
  refine⟨qo,?_⟩;by_cases nR:j=i
  ·subst nR;exact oD hy H
  ·have:=rG _ _ H j (jP hj nR);omega
 | succ f ih=>
  intro lK m mi inv qe nj hr hy H;have nV:=(jS.1 hr).1;refine⟨λh=>(by rw[h]at hr;cases hr),λj hj=>?_⟩;have qo:j<n:=by
   rcases iY j n with h|h
   ·exact h
   ·exact absurd hj (mu _ inv i mX nV j h)
  refine⟨qo,?_⟩;by_cases nR:j=i
  ·subst nR;exact oD hy H
  ·have h1:=(H.2 j (jP hj nR)).2;obtain⟨oW,oj,nk,mY⟩:=jS.1 hj;have qa:∀e∈oj.after,Region.binds md e=true->e.on≠i:=λe he hb heq=>by
    have h1:=mY e he hb;rw[heq,getD_both nV]at h1;cases h1
   have lh:i<j:=by
    rcases iH i j with h|h|h
    ·exact h
    ·exact absurd h.symm nR
    ·have:=qe j h;rw[oW]at this;cases this
   have uY:¬ (Sl oi=true/\Sl oj=true):=λ⟨h1,h2⟩=>by
    have:=Xq sV inv lh qo (by simp[IU,hi,h1]) (by simp[IU,nk,h2]) hj;rw[getD_both nV]at this;cases this
   have qA:¬ (Sm oi=true/\Sm oj=true):=λ⟨h1,h2⟩=>
    (OT sV lh qo).1 ⟨by simp[PR,hi,h1],by simp[PR,nk,h2]⟩
   unfold Tg at h1;simp only[nk]at h1;obtain⟨wN,xK,hK⟩:=h1;obtain⟨mj,g1,g2⟩:=az (nj j oj nk nR oW qa) uY qA hy xK;unfold Tg;simp only[nk];refine⟨mj,g1,ih (lK.setIfInBounds j true) mj wN (inv.set hj qo) (λq hq=>?_) ?_ (jP hr (iT nR)) g2 ?_⟩
   ·rw[jt true (by omega)];exact qe q hq
   ·intro k ok hk sq nV ug;refine nj k ok hk sq ?_ ug;by_cases hjk:j=k
    ·subst hjk;exact oW
    ·rw[jt true hjk]at nV;exact nV
   ·rw[jV _ _ nR];exact hK
def KD (P:Program)(k:Nat)(R:List Row):List (Option Tmp)->List Oper->(MS->Prop)->MS->Prop
 | _,[],K,m=>K m
 | ds,o::r,K,m=>IT ds o (m.st R) (∃m',er P k R o m m'/\KD P k R (ds++[o.dst]) r K m') (KD P k R (ds++[o.dst]) r K (m.put o.dst .un))
theorem Ve {n g:Nat}{K:MS->Prop}(sV:QX md ops n=true)(mu :∀lK,HeadInv md ops n lK->∀i,i<n->lK.getD i true=false->∀t,n<=t->t ∉ Region.ready md ops lK):
  ∀(l:List Oper) (ds:List (Option Tmp)) (lK:Array Bool) (m:MS),(∀(j:Nat),j<l.length->l[j]?=ops[ds.length+j]?)->(∀(j:Nat) d,ds[j]?=some d->(ops[j]?).map (·.dst)=some d)->ds.length+l.length=n->HeadInv md ops n lK->
  (∀j,j<ds.length->lK.getD j true=true)->
  Region.lexHead md ops g l.length ds.length lK=true->KD P k R ds l K m->
  anyM P k R md ops n (λlisted' s'=>Region.seqB md ops g n listed'=true/\K s') l.length lK m
 | [],ds,lK,s,_,_,hk,_,_,hB,h=>by
  have:ds.length=n:=by simpa using hk
  subst this;exact⟨by simpa [Region.lexHead] using hB,h⟩
 | o::l,ds,lK,s,hl,ou,hk,inv,qe,hB,h=>by
  have h0:ops[ds.length]?=some o:=by simpa using (hl 0 (by simp)).symm
  simp only[gn,Region.lexHead,gN]at hB;obtain⟨⟨hr,hf⟩,hB'⟩:=hB;have su:ds.length<n:=by simp only[gn]at hk;omega
  have mc:ds.length∈Region.ready md ops lK:=by simpa using hr
  have pU :∀(j:Nat) d,(ds++[o.dst])[j]?=some d->(ops[j]?).map (·.dst)=some d:=λj d hj=>by
   rcases iH j ds.length with h1|h1|h1
   ·rw[ft h1]at hj;exact ou j d hj
   ·subst h1;rw[JR,ff]at hj;rw[h0];simp[hj]
   ·rw[hH (by simp;omega)]at hj;cases hj
  have vI :∀j,j<(ds++[o.dst]).length->(lK.setIfInBounds ds.length true).getD j true=true:=λj hj=>by
   simp only[gV,gn,iM]at hj;by_cases hjd:ds.length=j
   ·subst hjd;rcases iY ds.length lK.size with h5|h5
    ·simp[h5]
    ·simp[jg h5]
   ·rw[jt true hjd];exact qe j (by omega)
  have oX:∀s',KD P k R (ds++[o.dst]) l K s'->anyM P k R md ops n (λlisted' s'=>Region.seqB md ops g n listed'=true/\K s') l.length (lK.setIfInBounds ds.length true) s':=λs' pj=>
   Ve sV mu l (ds++[o.dst]) _ s' (λj hj=>by
    have:=hl (j+1) (by simp;omega);simp only[gZ]at this;rw[this];congr 1;simp;omega) pU (by simp only[gn,gV,iM]at hk⊢;omega) (inv.set mc su) vI (by simpa using hB') pj
  have oE:∀m',MT P k R ops o s m'->KD P k R (ds++[o.dst]) l K m'->anyM P k R md ops n (λlisted' s'=>Region.seqB md ops g n listed'=true/\K s') (l.length+1) lK s:=λm' hy hK=>
   Wt sV h0 mu su (λlisted' s' hL=>seqB_ready hL.1) l.length lK s m' inv qe (kM h0 hf) mc hy (oX _ hK)
  simp only[KD]at h;rcases Un ou h with ⟨hw,m',h1,h2⟩|⟨hw,h1⟩
  ·exact oE m' (.inl ⟨hw,h1⟩) h2
  ·exact oE _ (.inr ⟨hw,rfl⟩) h1
theorem Ba {id n:Nat}{e:Nat->AV}{x:Row}{Q:Exit->St->Prop}(R:List Row)(m:Nat)(hm:P.follows .mixedOrders=true)(hB:Region.lexTailB .any ops m=true)(hw:QX .any ops m=true)(hd:(ops.toList.all λo=>DM n o.dst)=true)
  (h:KD P k R [] (ops.toList.take m) (λs'=>AO P k ops Q ((ops.toList.take m).map (·.dst)) (ops.toList.drop m) (s'.st R)) ⟨n,e,x,[]⟩):AW P k (.region id ops true) Q ⟨n,e,x::R⟩:=by
 simp only[Region.lexTailB,gN,fy]at hB;obtain⟨⟨⟨⟨_,hn⟩,hs⟩,hc⟩,hlex⟩:=hB;intro F os a w hr;have hr0:Rel F os (MS.st R ⟨n,e,x,[]⟩) a w:=by simpa [MS.st] using hr
 obtain⟨rq,he1⟩:=hr0.drew (k:=k);refine kG hm ?_;have pM:(ops.toList.take m).length=m:=by simp;omega
 have tk:(ops.toList.drop m).length=ops.size-m:=by simp
 have H:=Ve (md:=.any) (ops:=ops) (n:=m) (g:=ops.size-m) (k:=k) (R:=R) (P:=P) (K:=λs'=>AO P k ops Q ((ops.toList.take m).map (·.dst)) (ops.toList.drop m) (s'.st R)) hw
  (λlK inv i hi nV t ht=>tail_waits hs hc hn inv _ i rfl hi nV t ht) (ops.toList.take m) [] _ _ (λj hj=>by
   rw[pM]at hj;rw[gR,fq hj];simp) (by simp) (by simpa using pM) (SA _) (by simp) (by rw[pM];exact hlex) h
 have:=O3 (k:=k) (g:=ops.size-m) (N:=n) (R:=R) (Q':=KF k Q F os w) (F0:=F) (os0:=os) (w0:=w) (λo ho=>fk.1 hd o ho) (λlK s' F' os' a' w' wq hL mc he=>by
  have h1:=hL.2 (λj=>by
    rw[gI,pM,gh];simp) (λj d hj=>by
    simp only[fg,gR]at hj;split at hj
    ·simpa using hj
    ·cases hj) (by show∀o∈ops.toList,DM s'.n o.dst=true;rw[wq];exact λo ho=>fk.1 hd o ho) F' os' a' w' mc (KF k Q F os w) λ_ _ _ hp=>KF.trans he hp
  have h2:=wpAny_of_seq (md:=.any) (Q':=KF k Q F os w) (ops.toList.drop m) m lK a' w' (λj=>by simp[gh]) (by rw[tk];exact hL.1) h1;rwa [tk]at h2) _ _ _ F os a w.drew rfl H rq he1
 rw[pM,show m+(ops.size-m)=ops.size by omega]at this;exact this
end
section
variable {P : Program} {k : Nat} {R : List Row} {ds : List (Option Tmp)} {r : List Oper} {K : MS -> Prop} {n : Nat} {e : Nat -> AV} {x0 : Row} {z0 : List Row} {t : Tmp} {op : Op} {ty : TypeId} {ps : String} {ed : Array Edge} {gd : Option (Nat × Bool)} {v : AV}
theorem GO.elim {o:Oper}{A B:Prop}{s:St}(hg:GO ds gd s.env)(ho:o.guard=gd)(h:IT ds o s A B):A:=by
 unfold IT at h;rw[ho]at h;cases gd with
 | none=>exact h
 | some q=>
  obtain⟨jj,want⟩:=q;obtain⟨tg,hj,ht⟩:=hg;simp only[hj,ht,Xd]at h;exact h.1 rfl
theorem FH (hg:GO ds gd e)(h :∀x z,Dy P ds [⟨some t,op,ty,ps,ed,gd⟩] (λs'=>s'.env t=v) ⟨n,e,x::(R++z)⟩)(hk:KD P k R (ds++[some t]) r K ⟨n,Em e t v,x0,z0⟩):
  KD P k R ds (⟨some t,op,ty,ps,ed,gd⟩::r) K ⟨n,e,x0,z0⟩:=by
 refine GO.guard (e:=e) hg ⟨_,⟨.q,v,fa,fa,rfl,?_⟩,hk⟩;intro x z e' _ ho hd F os a w hr next Q hn
 have h1:=h x z;unfold Dy at h1;have h2:=GO.elim (s:=⟨n,e,x::(R++z)⟩) hg rfl h1;obtain⟨v',hv,h3⟩:=T6 h2;have hvv:v'=v:=by simpa [Dy,St.put,Em] using hv
 subst hvv;have h4:KT P ⟨some t,op,ty,ps,ed,gd⟩ (MS.st R ⟨n,e',x,z⟩) (·=v'):=Nk (s:=⟨n,e,x::(R++z)⟩) rfl (λy hy=>by
  have:=ho y hy;rw[SV,this];cases y<;>rfl) h3
 exact Vi (k:=k) hr hd h4 (by rw[N4]at hn;exact hn)
theorem Ev {K':St->Prop}{st:List Row}(lp:x0::(R++z0)=st)(h:K' ⟨n,e,st⟩):KD P k R ds [] (λm=>K' (m.st R)) ⟨n,e,x0,z0⟩:=by
 subst lp;exact h
theorem XO {T:TypeId}{zz:List AV}{m:Nat}(hz:IL P T=some zz)(hm:R.length+1=m)(hk:KD P k R (ds++[some t]) r K ⟨n,Em e t (.ptr m 0 0 0),x0,[⟨0,T,zz.length,[zz]⟩]⟩):
  KD P k R ds (⟨some t,.alloc T,ty,ps,ed,none⟩::r) K ⟨n,e,x0,[]⟩:=by
 subst hm;refine⟨_,⟨.a ⟨0,T,zz.length,[zz]⟩,.ptr (R.length+1) 0 0 0,rfl,rfl,rfl,?_⟩,hk⟩;intro x z e' uU ho hd F os a w hr next Q hn
 have uU:z=[]:=uU;subst uU;refine KH (k:=k) (K:=(·=MS.st R ((MS.go ⟨n,e',x,[]⟩ (.a ⟨0,T,zz.length,[zz]⟩)).put (some t) (.ptr (R.length+1) 0 0 0)))) hr hd ?_ hn;refine Am _ hz ?_;simp[MS.st,MS.go,MS.put,St.put,Kind.fx,Kind.fz]
theorem Rb {sel:List Nat}{A z:List Row}(h:sel.all (·<A.length)=true):CT (A++z) sel=CT A sel:=by
 unfold CT
 induction sel with
 | nil=>rfl
 | cons i l ih=>
  simp only[jX,gN,fy]at h;rw[iU,iU,ft h.1,ih h.2]
theorem TE {sel:List Nat}{rs A z:List Row}(h:sel.all (·<A.length)=true):Fs sel rs 0 (A++z)=Fs sel rs 0 A++z:=by
 apply iu;intro i;rw[LP,iJ];by_cases hi:i<A.length
 ·rw[ft hi,ft (by rw[JT];exact hi),LP,iJ]
 ·rw[fw (by omega),fw (by rw[JT];omega),JT];have hx:idx sel i=none:=by
   cases hx:idx sel i with
   | none=>rfl
   | some p=>
    have:=fc (NB hx);have:=fk.1 h i this;simp at this;omega
  rw[hx];cases z[i-A.length]?<;>rfl
theorem bX {f:FuncId}{mT:Array Operand}{ts:Array TypeId}{args mB:List AV}{rowsP rows0 rows1 rows1':List Row}{v v':AV}{y0:Row}(sel:List Nat)(hg:GO ds gd e)(hb:D1 P f=true)(hc:Ac P f mB rows0 λr st=>r=v/\st=rows1)(ha:mT.toList.map (St.ev ⟨n,e,[]⟩)++[]=args)(mh:sel.Nodup)(lh:sel.all (·<R.length+1)=true)
  (hp:CT (x0::R) sel=rowsP) (hs:SR sel rowsP rows0) (hf:args.map (Je sel)=mB) (hlen:rows1.length=sel.length) (h1 :∀N,UN sel N rows1 rows1') (hv :∀N,Rn sel N v=v') (nM:Fs sel rows1' 0 (x0::R)=y0::R)
  (hk:KD P k R (ds++[some t]) r K ⟨n,Em e t v',y0,z0⟩):KD P k R ds (⟨some t,.call ⟨.value (.func f),mT,ts⟩,ty,ps,ed,gd⟩::r) K ⟨n,e,x0,z0⟩:=by
 subst ha;subst hp;refine GO.guard (e:=e) hg ⟨_,⟨.l x0 y0,v',rfl,rfl,rfl,?_⟩,hk⟩;intro x z e' hx ho hd F os a w hr next Q hn
 have hx:x=x0:=hx;subst hx;refine KH (k:=k) (K:=(·=MS.st R ((MS.go ⟨n,e',x,z⟩ (.l x y0)).put (some t) v'))) hr hd ?_ hn;show D1 P f=true/\callThen P k (MS.st R ⟨n,e',x,z⟩) f (mT.toList.map (MS.st R ⟨n,e',x,z⟩).ev++[]) (some t) _;have ue:mT.toList.map (MS.st R ⟨n,e',x,z⟩).ev=mT.toList.map (St.ev ⟨n,e,[]⟩):=Qt (f:=f) (ts:=ts) (s0:=MS.st R ⟨n,e',x,z⟩) (s1:=⟨n,e,[]⟩) λy hy=>by rw[SV];exact ho y hy
 rw[ue];refine⟨hb,Js λhle=>?_⟩;have oK:(MS.st R ⟨n,e',x,z⟩).st=(x::R)++z:=rfl;have tJ:sel.all (·<(x::R).length)=true:=by simpa using lh
 have sW:CT (MS.st R ⟨n,e',x,z⟩).st sel=CT (x::R) sel:=by rw[oK];exact Rb tJ
 obtain⟨e1,e3⟩:=hs.spec (st0:=(MS.st R ⟨n,e',x,z⟩).st) hle (λrow lQ=>by
  rw[<- sW]at lQ;obtain⟨i,_,hi⟩:=hU.1 lQ;exact fc hi)
 refine Kg (rows2:=[]) sel (by simpa using hc) mh (λi hi=>by
   have:=fk.1 tJ i hi;rw[oK,gV];simp only[fy]at this;omega) (by rw[sW];exact e1) e3 hf hlen (λrow lQ=>by
  rw[iK]at lQ;exact (h1 _).leaf row lQ) λ_=>?_
 rw[(h1 _).spec,hv,oK,TE tJ,nM];simp[MS.st,MS.go,MS.put,St.put,Kind.fx,Kind.fz]
end
end Go.Abs
namespace Go.Abs
open Go
def dX (e:Nat->AV):List (Nat×AV)->List AV
 | []=>[]
 | (t,_)::r=>e t::dX e r
def eE:List (Nat×AV)->List AV
 | []=>[]
 | (_,v)::r=>v::eE r
theorem ME.same {e:Nat->AV}:∀{L:List (Nat×AV)},dX e L=eE L->ME e L
 | [],_=>trivial
 | (t,v)::r,h=>by
  simp only[dX,eE,jD]at h;obtain⟨h1,h2⟩:=h;subst h1;exact⟨.rfl,ME.same h2⟩
section
variable {P : Program} {k : Nat} {R : List Row} {ds : List (Option Tmp)} {r : List Oper} {K : MS -> Prop} {n : Nat} {e : Nat -> AV} {x0 : Row} {z0 : List Row} {t : Tmp} {op : Op} {ty : TypeId} {ps : String} {ed : Array Edge} {gd : Option (Nat × Bool)}
theorem BH (v:AV)(hg:GO ds gd e)(hl:JU op=false)(hq :∀x z,AQ P ⟨n,e,x::(R++z)⟩ op v)(hk:KD P k R (ds++[some t]) r K ⟨n,Em e t v,x0,z0⟩):
  KD P k R ds (⟨some t,op,ty,ps,ed,gd⟩::r) K ⟨n,e,x0,z0⟩:=
 FH hg (λx z=>HQ hg hl (hq x z) (As (by simp[Em]))) hk
theorem GR {f:FuncId}{mT:Array Operand}{ts:Array TypeId}{args mB:List AV}{rows0 rows1:List Row}{v v':AV}{y0:Row}(sel:List Nat)(hg:GO ds gd e)(hb:D1 P f=true)(hc:Ac P f mB rows0 λr st=>r=v/\st=rows1)(ha:mT.toList.map (St.ev ⟨n,e,[]⟩)++[]=args)(mh:sel.Nodup)(lh:sel.all (·<R.length+1)=true)
  (hp:CT (x0::R) sel=rows0) (hs:SR sel rows0 rows0) (hf:args.map (Je sel)=mB) (hlen:rows1.length=sel.length) (h1 :∀N,UN sel N rows1 rows1) (hv :∀N,Rn sel N v=v') (nM:Fs sel rows1 0 (x0::R)=y0::R)
  (hk:KD P k R (ds++[some t]) r K ⟨n,Em e t v',y0,z0⟩):KD P k R ds (⟨some t,.call ⟨.value (.func f),mT,ts⟩,ty,ps,ed,gd⟩::r) K ⟨n,e,x0,z0⟩:=
 bX sel hg hb hc ha mh lh hp hs hf hlen h1 hv nM hk
end
section
variable {P : Program} {k : Nat} {s : St} {ops : Array Oper} {Q : Exit -> St -> Prop} {ds : List (Option Tmp)} {r : List Oper} {n : Nat} {e : Nat -> AV} {st st' : List Row} {ty : TypeId} {ps : String} {ed : Array Edge} {d : Option Tmp} {v v' : AV} {gd : Option (Nat × Bool)}
variable {f : FuncId} {mT : Array Operand} {ts : Array TypeId} {args mB : List AV} {rows0 rows1 : List Row}
theorem CF (sel:List Nat)(hg:GO ds gd e)(hb:D1 P f=true)(hc:Ac P f mB rows0 λr st=>r=v/\st=rows1)(ha:mT.toList.map (St.ev ⟨n,e,st⟩)++[]=args)(mh:sel.Nodup)(lh:sel.all (·<st.length)=true)
  (hp:CT st sel=rows0) (hs:SR sel rows0 rows0) (hf:args.map (Je sel)=mB) (hlen:rows1.length=sel.length) (h1:UN sel st.length rows1 rows1) (h2:UN sel st.length [] []) (hv:Rn sel st.length v=v') (nM:Fs sel rows1 0 st=st')
  (hk:AO P k ops Q (ds++[d]) r (St.put ⟨n,e,st'⟩ d v')):AO P k ops Q ds (⟨d,.call ⟨.value (.func f),mT,ts⟩,ty,ps,ed,gd⟩::r) ⟨n,e,st⟩:=
 Gy (rows2:=[]) (rows2':=[]) sel hg hb (by simpa using hc) ha mh lh hp hs hf hlen h1 h2 hv (by simpa using nM) hk
end
def ef:Nat->Nat->List Bool
 | 0,_=>[]
 | n+1,m=>(m % 2==1)::ef n (m / 2)
def bm (n m:Nat):Array Bool:=⟨ef n m⟩
end Go.Abs
