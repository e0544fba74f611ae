import Derived.Test.YtihdgoiebmfapaaGreatAbsW
import Derived.Lib.AppendZerosOnto
import Derived.OrdersHeld
set_option linter.all false
namespace Go.Abs
open Go
def QD:AV->Bool
 | .int ..|.bool _|.str _|.zc|.RI|.Q7|.dv ..=>true
 | _=>false
def TC (xs:List (List AV)):Prop:=∀x∈xs,∀c∈x,QD c=true
theorem YI {F S:Nat->Prop}{w:World}{os:List Own}{c:AV}{u:Value}(hc:QD c=true)(hd :∀e s ys,c≠.dv e s ys)(h:Ae F w os c u):EV S w c u:=by
 cases c<;>simp only[QD,lY]at hc<;>simp only[Ae]at h<;>simp only[EV]<;>first|exact h|exact absurd rfl (hd _ _ _)
theorem Od {F S:Nat->Prop}{w:World}{os:List Own}{c:AV}{u:Value}(h:EV S w c u):Ae F w os c u/\c.kept=true/\QD c=true:=by
 cases c<;>simp only[EV]at h
 case dv=>
  refine⟨?_,rfl,rfl⟩;simp only[Ae];rcases h.2 with ⟨_,a,rfl⟩|⟨b,cap,cur,rfl,_⟩<;>exact⟨_,_,_,rfl⟩
 all_goals first|exact h.elim|exact⟨by simp only[Ae];exact h,rfl,rfl⟩
theorem X0 {w:World}{cur:Array Value}{D:Nat->Nat->Prop}(rq :∀j j' b,D j b->D j' b->j=j'):∀(x:List AV) (o j0:Nat),(∀(j:Nat) c,x[j]?=some c->∃u,cur[o+j]?=some u/\EV (D (j0+j)) w c u)->
  LB (λb=>∃j,j0<=j/\D j b) w x cur o
 | [],_,_,_=>by simp[LB]
 | c::r,o,j0,h=>by
  simp only[LB];obtain⟨u,h1,h2⟩:=h 0 c rfl;refine⟨D j0,λb=>∃j,j0+1<=j/\D j b,λb hb=>⟨j0,ll _,hb⟩,λb ⟨j,hj,hb⟩=>⟨j,by omega,hb⟩,λb hb ⟨j,hj,rO⟩=>by have:=rq _ _ _ hb rO;omega,⟨u,h1,h2⟩,?_⟩;exact X0 rq r (o+1) (j0+1) λj c hc=>by
   obtain⟨u,h1,h2⟩:=h (j+1) c (by simpa using hc);exact⟨u,by rw[<- h1];congr 1;omega,by rw[show j0+1+j=j0+(j+1) by omega];exact h2⟩
theorem X1 {w:World}{cur:Array Value}{size:Nat}{D:Nat->Nat->Nat->Prop}(rq :∀i j i' j' b,D i j b->D i' j' b->i=i'/\j=j'):∀(xs:List (List AV)) (o i0:Nat),(∀x∈xs,x.length=size)->
  (∀(i:Nat) x,xs[i]?=some x->∀(j:Nat) c,x[j]?=some c->∃u,cur[o+i*size+j]?=some u/\EV (D (i0+i) j) w c u)->LG (λb=>∃i j,i0<=i/\D i j b) w xs cur o
 | [],_,_,_,_=>by simp[LG]
 | x::r,o,i0,hs,h=>by
  simp only[LG];refine⟨λb=>∃j,0<=j/\D i0 j b,λb=>∃i j,i0+1<=i/\D i j b,λb ⟨j,_,hb⟩=>⟨i0,j,ll _,hb⟩,λb ⟨i,j,hi,hb⟩=>⟨i,j,by omega,hb⟩,λb ⟨j,_,hb⟩ ⟨i,j',hi,rO⟩=>by have:=(rq _ _ _ _ _ hb rO).1;omega,?_,?_⟩
  ·exact X0 (D:=D i0) (λj j' b h1 h2=>(rq _ _ _ _ _ h1 h2).2) x o 0 λj c hc=>by
    obtain⟨u,h1,h2⟩:=h 0 x rfl j c hc;exact⟨u,by rw[<- h1];congr 1;omega,by simpa using h2⟩
  ·rw[hs x (by simp)];exact X1 rq r (o+size) (i0+1) (λx hx=>hs x (by simp[hx])) λi y hy j c hc=>by
    obtain⟨u,h1,h2⟩:=h (i+1) y (by simpa using hy) j c hc;exact⟨u,by rw[<- h1];congr 1;rw[mM];omega,by rw[show i0+1+i=i0+(i+1) by omega];exact h2⟩
theorem Ve {w:World}{cur:Array Value}:∀{x:List AV} {S:Nat->Prop} {o:Nat},LB S w x cur o->∃D:Nat->Nat->Prop,(∀j b,D j b->S b)/\(∀j j' b,D j b->D j' b->j=j')/\
  ∀(j:Nat) c,x[j]?=some c->∃u,cur[o+j]?=some u/\EV (D j) w c u
 | [],_,_,_=>⟨λ_ _=>False,λ_ _ h=>h.elim,λ_ _ _ h=>h.elim,λj c h=>by simp at h⟩
 | c::r,S,o,h=>by
  simp only[LB]at h;obtain⟨S1,S2,h1,h2,h3,⟨u,h4,h5⟩,h6⟩:=h;obtain⟨D,d1,d2,d3⟩:=Ve h6;refine⟨λj=>match j with|0=>S1|j+1=>D j,λj b hb=>?_,λj j' b hb rO=>?_,λj c' hc=>?_⟩
  ·cases j with
   | zero=>exact h1 b hb
   | succ j=>exact h2 b (d1 j b hb)
  ·cases j with
   | zero=>
    cases j' with
    | zero=>rfl
    | succ j'=>exact absurd (d1 j' b rO) (h3 b hb)
   | succ j=>
    cases j' with
    | zero=>exact absurd (d1 j b hb) (h3 b rO)
    | succ j'=>rw[d2 j j' b hb rO]
  ·cases j with
   | zero=>simp only[mI,lX]at hc;subst hc;exact⟨u,h4,h5⟩
   | succ j=>
    obtain⟨u',g1,g2⟩:=d3 j c' (by simpa using hc);exact⟨u',by rw[<- g1];congr 1;omega,g2⟩
theorem WS {w:World}{cur:Array Value}{size:Nat}:∀{xs:List (List AV)} {S:Nat->Prop} {o:Nat},(∀x∈xs,x.length=size)->LG S w xs cur o->∃D:Nat->Nat->Nat->Prop,(∀i j b,D i j b->S b)/\
  (∀i j i' j' b,D i j b->D i' j' b->i=i'/\j=j')/\∀(i:Nat) x,xs[i]?=some x->∀(j:Nat) c,x[j]?=some c->∃u,cur[o+i*size+j]?=some u/\EV (D i j) w c u
 | [],_,_,_,_=>⟨λ_ _ _=>False,λ_ _ _ h=>h.elim,λ_ _ _ _ _ h=>h.elim,λi x h=>by simp at h⟩
 | x::r,S,o,hs,h=>by
  simp only[LG]at h;obtain⟨S1,S2,h1,h2,h3,h4,h5⟩:=h;obtain⟨E,e1,e2,e3⟩:=Ve h4;obtain⟨D,d1,d2,d3⟩:=WS (λx hx=>hs x (by simp[hx])) h5;refine⟨λi=>match i with|0=>E|i+1=>D i,λi j b hb=>?_,λi j i' j' b hb rO=>?_,λi y hy j c hc=>?_⟩
  ·cases i with
   | zero=>exact h1 b (e1 j b hb)
   | succ i=>exact h2 b (d1 i j b hb)
  ·cases i with
   | zero=>
    cases i' with
    | zero=>exact⟨rfl,e2 j j' b hb rO⟩
    | succ i'=>exact absurd (d1 i' j' b rO) (h3 b (e1 j b hb))
   | succ i=>
    cases i' with
    | zero=>exact absurd (d1 i j b hb) (h3 b (e1 j' b rO))
    | succ i'=>
     obtain⟨q1,q2⟩:=d2 i j i' j' b hb rO;exact⟨by rw[q1],q2⟩
  ·cases i with
   | zero=>
    simp only[mI,lX]at hy;subst hy;obtain⟨u,g1,g2⟩:=e3 j c hc;exact⟨u,by rw[<- g1];congr 1;omega,g2⟩
   | succ i=>
    obtain⟨u,g1,g2⟩:=d3 i y (by simpa using hy) j c hc;rw[hs x (by simp)]at g1;exact⟨u,by rw[<- g1];congr 1;rw[mM];omega,g2⟩
variable {P : Program} {F : Nat -> Prop} {os : List Own} {s : St} {a : Act} {w : World} {k : Nat}
theorem UQ {p:Own}(h:Me F w os p)(hd:TC p.row.xs){v:Value}(hv:(p.Fk=none/\∃a,v=.slice a p.row.xs.length 0)∨∃b,p.Fk=some b/\v=.slice (some ⟨b,0,none⟩) p.row.xs.length p.cap):
  EV p.owns w (.dv p.row.elem p.row.size p.row.xs) v:=by
 simp only[EV];refine⟨h.pos,?_⟩;rcases hv with ⟨hb,a,rfl⟩|⟨b,hb,rfl⟩
 ·have:=(h.none hb).1;exact .inl ⟨this,a,by rw[this];rfl⟩
 ·obtain⟨_,cur,qv,rC,hle,se,qy⟩:=h.some b hb;obtain⟨D,d1,d2,d3⟩:=h.deep;refine .inr ⟨b,p.cap,cur,rfl,hle,se,.inl hb,qv,rC,λx hx=>(h.lens x hx).1,?_⟩;have:=X1 (w:=w) (cur:=cur) (size:=p.row.size) d2 p.row.xs 0 0 (λx hx=>(h.lens x hx).1) (λi x hx j c hc=>by
   simp only[ml];by_cases hdv :∃e s ys,c=.dv e s ys
   ·obtain⟨e,s,ys,rfl⟩:=hdv;exact d3 b hb cur _ _ qv i x j e s ys hx hc
   ·obtain⟨u,g1,g2⟩:=qy i x hx j c hc;exact⟨u,g1,YI (hd x (lT hx) c (lT hc)) (λe s ys e'=>hdv ⟨e,s,ys,e'⟩) g2⟩)
  exact Pr (λc ⟨i,j,_,hc⟩=>⟨.inr (d1 i j c hc),λe=>(h.mo c (d1 i j c hc)).2.2 (by rw[hb,e])⟩) (λ_ _=>rfl) _ _ _ this
theorem Kj {id m g gm size sz n i j nn:Nat}{el tK:TypeId}{xs ys:List (List AV)}{x:List AV}{e:Nat->AV}{st st':List Row}(qc:st[id]?=some ⟨g,el,size,xs⟩)(hx:xs[i]?=some x)(hc:x[j]?=some (.own m gm n))
  (hm:st[m]?=some ⟨gm,tK,sz,ys⟩) (hn:n=ys.length) (rE:id≠m) (sy:k<=m) (hd:TC ys) (qz:(st.set id ⟨g,el,size,xs.set i (x.set j (.dv tK sz ys))⟩).set m ⟨gm+1,tK,sz,[]⟩=st') :
  Wk k ⟨nn,e,st⟩ ⟨nn,e,st'⟩:=λF os a w hr=>by
 subst qz;subst hn;obtain⟨o,ho,uM⟩:=hr.row qc;obtain⟨p,hp,xe⟩:=hr.row hm;have qf:=hr.rows id o ho;have xf:=hr.rows m p hp;have qz:os.map Own.row=st:=hr.st;have uN:o.row.xs=xs:=by rw[uM]
 have hpx:p.row.xs=ys:=by rw[xe]
 let o':Own:={ o with row:={ o.row with xs:=xs.set i (x.set j (.dv tK sz ys)) },more:=λb=>o.more b∨p.owns b }
 let p':Own:=⟨{ p.row with gen:=p.row.gen+1,xs:=[] },none,0,Fe⟩
 have rv:i<xs.length:=(lV.1 hx).1;have uG:j<x.length:=(lV.1 hc).1;have xA:=(lV.1 ho).1;have hml:=(lV.1 hp).1;have rq:∀b,o.owns b->¬ p.owns b:=λb h1 h2=>rE (hr.inj id m o p b ho hp h1 h2);have qi:∀(q:Nat) (oq:Own),((os.set id o').set m p')[q]?=some oq->(q≠id/\q≠m/\os[q]?=some oq)∨(q=id/\oq=o')∨(q=m/\oq=p'):=λq oq hq=>by
  by_cases e:q=m
  ·subst e;rw[lp (by simpa using hml),lX]at hq;exact .inr (.inr ⟨rfl,hq.symm⟩)
  ·rw[mG (nK e)]at hq;by_cases e2:q=id
   ·subst e2;rw[lp xA,lX]at hq;exact .inr (.inl ⟨rfl,hq.symm⟩)
   ·rw[mG (nK e2)]at hq;exact .inl ⟨e2,e,hq⟩
 have rU:FK os ((os.set id o').set m p'):=λq oq hq=>by
  by_cases e:q=m
  ·subst e;rw[hp]at hq;cases hq;exact⟨p',lp (by simpa using hml),Nat.le_succ _,rfl,λe=>by simp[p']at e⟩
  ·rw[mG (nK e)];by_cases e2:q=id
   ·subst e2;rw[ho]at hq;cases hq;exact⟨o',lp xA,ll _,rfl,λ_=>⟨rfl,rfl,by simp[o',uN]⟩⟩
   ·rw[mG (nK e2)];exact⟨oq,hq,ll _,rfl,λ_=>⟨rfl,rfl,rfl⟩⟩
 have qk:∀y v,Ae F w os y v->Ae F w ((os.set id o').set m p') y v:=λy v h=>DV (λ_ h=>h) (λ_ _=>rfl) os _ rU y v h;have xB:∀b,o'.owns b->o.owns b∨p.owns b:=λb hb=>by
  rcases hb with hb|hb|hb
  ·exact .inl (.inl hb)
  ·exact .inl (.inr hb)
  ·exact .inr hb
 have hpn:∀b,¬ p'.owns b:=λb hb=>by
  rcases hb with hb|hb
  ·simp[p']at hb
  ·exact hb
 obtain⟨bo,vg⟩ :∃b,o.Fk=some b:=by
  cases hb:o.Fk with
  | none=>have:=(qf.none hb).1;rw[uN]at this;rw[this]at rv;simp at rv
  | some b=>exact⟨b,rfl⟩
 obtain⟨vQ,cur,qv,rC,hle,se,qy⟩:=qf.some bo vg;obtain⟨uv,hu1,sw⟩:=qy i x (by rw[uN];exact hx) j _ hc;have huv:(p.Fk=none/\∃a,uv=.slice a p.row.xs.length 0)∨∃b,p.Fk=some b/\uv=.slice (some ⟨b,0,none⟩) p.row.xs.length p.cap:=by
  simp only[Ae]at sw;obtain⟨q,hq,_,_,hv⟩:=sw;rw[hp]at hq;cases hq;have:=(hv (by rw[xe])).2;rw[hpx]at this⊢;simpa only[nW,pJ,pI] using this
 have hRD:EV p.owns w (.dv tK sz ys) uv:=by
  have:=UQ xf (by rw[hpx];exact hd) huv;rw[xe]at this;exact this
 refine⟨F,(os.set id o').set m p',⟨?_,λt=>qk _ _ (hr.env t),hr.size,λq oq hq=>?_,λq q' oq yB b hq wQ hb rO=>?_,hr.FR,hr.defers⟩,⟨rfl,rfl,rfl,ll _,λ_ h=>h,λ_ _=>rfl,λb _ h1 h2=>⟨rfl,h1,λoq hoq hb=>?_⟩,λq oq _ hq=>rU q oq hq⟩⟩
 ·rw[nj,nj,qz];simp only[o',p',uM,xe]
 ·rcases qi q oq hq with ⟨_,_,h⟩|⟨_,rfl⟩|⟨_,rfl⟩
  ·have h0:=hr.rows q oq h;refine⟨h0.pos,h0.lens,h0.none,λb hb=>?_,h0.mo,h0.deep⟩;obtain⟨e1,cur,e2,e3,e4,e5,e6⟩:=h0.some b hb;exact⟨e1,cur,e2,e3,e4,e5,λi' y hy j' c hc=>by obtain⟨u,f1,f2⟩:=e6 i' y hy j' c hc;exact⟨u,f1,qk _ _ f2⟩⟩
  ·refine⟨qf.pos,λy hy=>?_,(λhn=>by simp only[o']at hn;rw[vg]at hn;cases hn),λb hb=>?_,λb hb=>?_,?_⟩
   ·rcases mg hy with hy|rfl
    ·exact qf.lens y (by rw[uN];exact hy)
    ·have h0:=qf.lens x (by rw[uN];exact lT hx);refine⟨by rw[pf];exact h0.1,λc sL=>?_⟩;rcases mg sL with h|rfl
     ·exact h0.2 c h
     ·rfl
   ·simp only[o']at hb;rw[vg]at hb;cases hb;refine⟨vQ,cur,qv,rC,by simpa [o',uN] using hle,se,λi' y hy j' c tX=>?_⟩;simp only[o']at hy⊢;by_cases hi:i'=i
    ·subst hi;rw[lp rv,lX]at hy;subst hy;by_cases hj:j'=j
     ·subst hj;rw[lp uG,lX]at tX;subst tX;exact⟨uv,hu1,(Od hRD).1⟩
     ·rw[mG (nK hj)]at tX;obtain⟨u,f1,f2⟩:=qy i' x (by rw[uN];exact hx) j' c tX;exact⟨u,f1,qk _ _ f2⟩
    ·rw[mG (nK hi)]at hy;obtain⟨u,f1,f2⟩:=qy i' y (by rw[uN];exact hy) j' c tX;exact⟨u,f1,qk _ _ f2⟩
   ·rcases hb with hb|hb
    ·exact qf.mo b hb
    ·exact⟨xf.nF hb,xf.lt hb,λe=>rq b (.inl e) hb⟩
   ·obtain⟨D,d1,d2,d3⟩:=qf.deep;refine⟨λi' j' b=>if i'=i/\j'=j then p.owns b else D i' j' b,λi' j' b hb=>?_,λi1 j1 i2 j2 b h1 h2=>?_,λb hb uH el2 l rR i' y j' e2 s2 zs hy tX=>?_⟩
    ·simp only at hb;split at hb
     ·exact .inr hb
     ·exact .inl (d1 i' j' b hb)
    ·simp only at h1 h2;split at h1<;>split at h2
     ·rename_i q1 q2;exact⟨q1.1.trans q2.1.symm,q1.2.trans q2.2.symm⟩
     ·exact absurd h1 (rq b (.inr (d1 _ _ _ h2)))
     ·exact absurd h2 (rq b (.inr (d1 _ _ _ h1)))
     ·exact d2 _ _ _ _ _ h1 h2
    ·simp only[o']at hb hy⊢;rw[vg]at hb;cases hb;rw[qv]at rR;cases rR;by_cases vV:i'=i/\j'=j
     ·obtain⟨rfl,rfl⟩:=vV;rw[lp rv,lX]at hy;subst hy;rw[lp uG,lX]at tX;cases tX;exact⟨uv,hu1,by simpa using hRD⟩
     ·have hold:∃y0,o.row.xs[i']?=some y0/\y0[j']?=some (.dv e2 s2 zs):=by
       rw[uN];by_cases hi:i'=i
       ·subst hi;rw[lp rv,lX]at hy;subst hy;have hj:j'≠j:=λe=>vV ⟨rfl,e⟩;rw[mG (nK hj)]at tX;exact⟨x,hx,tX⟩
       ·rw[mG (nK hi)]at hy;exact⟨y,hy,tX⟩
      obtain⟨y0,xU,sZ⟩:=hold;obtain⟨u,f1,f2⟩:=d3 bo vg cur _ _ qv i' y0 j' e2 s2 zs xU sZ;exact⟨u,f1,by simpa only[vV,mC] using f2⟩
  ·exact⟨xf.pos,by simp[p'],by simp[p'],by simp[p'],λb hb=>hb.elim,Et (by simp[p'])⟩
 ·rcases qi q oq hq with ⟨q1,q2,h⟩|⟨rfl,rfl⟩|⟨_,rfl⟩<;>rcases qi q' yB wQ with ⟨q1',q2',h'⟩|⟨rfl,rfl⟩|⟨_,rfl⟩
  ·exact hr.inj q q' oq yB b h h' hb rO
  ·rcases xB b rO with e|e
   ·exact hr.inj q _ oq o b h ho hb e
   ·exact absurd (hr.inj q m oq p b h hp hb e) q2
  ·exact absurd rO (hpn b)
  ·rcases xB b hb with e|e
   ·exact hr.inj _ q' o yB b ho h' e rO
   ·exact absurd (hr.inj m q' p yB b hp h' e rO).symm q2'
  ·rfl
  ·exact absurd rO (hpn b)
  ·exact absurd hb (hpn b)
  ·exact absurd hb (hpn b)
  ·exact absurd hb (hpn b)
 ·obtain⟨q,hq⟩:=lv.1 hoq;rcases qi q oq hq with ⟨_,_,h⟩|⟨_,rfl⟩|⟨_,rfl⟩
  ·exact h2 oq (lT h) hb
  ·rcases xB b hb with e|e
   ·exact h2 o (lT ho) e
   ·exact h2 p (lT hp) e
  ·exact hpn b hb
end Go.Abs
namespace Go.Abs
open Go
variable {P : Program} {F : Nat -> Prop} {os : List Own} {s : St} {a : Act} {w : World} {k : Nat}
theorem Y9 {S:Nat->Prop}{el sz:Nat}{ys:List (List AV)}{u:Value}(hS :∀b,S b->¬ F b/\b<w.heap.size)(h:EV S w (.dv el sz ys) u):
  ∃p:Own,p.row=⟨0,el,sz,ys⟩/\(∀b,p.owns b->S b)/\(∀os,Me F w os p)/\((p.Fk=none/\∃a,u=.slice a ys.length 0)∨∃b,p.Fk=some b/\u=.slice (some ⟨b,0,none⟩) ys.length p.cap):=by
 simp only[EV]at h;obtain⟨hp,h⟩:=h;rcases h with ⟨rfl,a,rfl⟩|⟨b,cap,cur,rfl,h2,h3,h4,h5,h6,h7,h8⟩
 ·refine⟨⟨⟨0,el,sz,[]⟩,none,0,Fe⟩,rfl,λb hb=>?_,λos=>⟨hp,by simp,by simp,by simp,λb hb=>hb.elim,Et (by simp)⟩,.inl ⟨rfl,a,rfl⟩⟩;rcases hb with hb|hb
  ·cases hb
  ·exact hb.elim
 ·obtain⟨D,d1,d2,d3⟩:=WS h7 h8;refine⟨⟨⟨0,el,sz,ys⟩,some b,cap,λc=>S c/\c≠b⟩,rfl,λc hc=>?_,λos=>⟨hp,λx hx=>⟨h7 x hx,λc hc=>?_⟩,by simp,λb' rO=>?_,λc hc=>⟨(hS c hc.1).1,(hS c hc.1).2,λe=>hc.2 (by simpa using e.symm)⟩,⟨D,d1,d2,λb' rO uH el2 l rR i x j e s zs hx hc=>?_⟩⟩,.inr ⟨b,rfl,rfl⟩⟩
  ·rcases hc with hc|hc
   ·cases hc;exact h4
   ·exact hc.1
  ·obtain⟨i,hi⟩:=lv.1 hx;obtain⟨j,hj⟩:=lv.1 hc;obtain⟨u,_,g2⟩:=d3 i x hi j c hj;exact (Od (F:=F) (os:=os) g2).2.1
  ·simp only[lX]at rO;subst rO;refine⟨(hS _ h4).1,cur,h5,h6,h2,h3,λi x hx j c hc=>?_⟩;obtain⟨u,g1,g2⟩:=d3 i x hx j c hc;exact⟨u,by simpa using g1,(Od g2).1⟩
  ·simp only[lX]at rO;subst rO;rw[h5]at rR;cases rR;obtain⟨u,g1,g2⟩:=d3 i x hx j _ hc;exact⟨u,by simpa using g1,g2⟩
theorem Oj {id m g size sz n i j nn:Nat}{el tK:TypeId}{xs ys:List (List AV)}{x:List AV}{e:Nat->AV}{st st':List Row}(qc:st[id]?=some ⟨g,el,size,xs⟩)(hx:xs[i]?=some x)(hc:x[j]?=some (.dv tK sz ys))
  (hm:st.length=m) (hn:n=ys.length) (qz:st.set id ⟨g,el,size,xs.set i (x.set j (.own m 0 n))⟩++[⟨0,tK,sz,ys⟩]=st'):Wk k ⟨nn,e,st⟩ ⟨nn,e,st'⟩:=λF os a w hr=>by
 subst qz;subst hn;subst hm;obtain⟨o,ho,uM⟩:=hr.row qc;have qf:=hr.rows id o ho;have qz:os.map Own.row=st:=hr.st;have hol:os.length=st.length:=by rw[<- qz];simp
 have uN:o.row.xs=xs:=by rw[uM]
 have rv:i<xs.length:=(lV.1 hx).1;have uG:j<x.length:=(lV.1 hc).1;have xA:=(lV.1 ho).1;obtain⟨bo,vg⟩ :∃b,o.Fk=some b:=by
  cases hb:o.Fk with
  | none=>have:=(qf.none hb).1;rw[uN]at this;rw[this]at rv;simp at rv
  | some b=>exact⟨b,rfl⟩
 obtain⟨vQ,cur,qv,rC,hle,se,qy⟩:=qf.some bo vg;obtain⟨D,d1,d2,d3⟩:=qf.deep;obtain⟨uv,hu1,sw⟩:=d3 bo vg cur _ _ qv i x j tK sz ys (by rw[uN];exact hx) hc;obtain⟨p,xe,hpo,xf,hpv⟩:=Y9 (F:=F) (λb hb=>⟨(qf.mo b (d1 _ _ _ hb)).1,(qf.mo b (d1 _ _ _ hb)).2.1⟩) sw
 let o':Own:={ o with row:={ o.row with xs:=xs.set i (x.set j (.own st.length 0 ys.length)) },more:=λb=>o.more b/\¬ D i j b }
 have qi:∀(q:Nat) (oq:Own),(os.set id o'++[p])[q]?=some oq->(q≠id/\q<os.length/\os[q]?=some oq)∨(q=id/\oq=o')∨(q=os.length/\oq=p):=λq oq hq=>by
  rcases nG q os.length with h|h|h
  ·rw[lj (by simpa using h)]at hq;by_cases e2:q=id
   ·subst e2;rw[lp xA,lX]at hq;exact .inr (.inl ⟨rfl,hq.symm⟩)
   ·rw[mG (nK e2)]at hq;exact .inl ⟨e2,h,hq⟩
  ·subst h;rw[ln (by simp)]at hq;simp at hq;exact .inr (.inr ⟨rfl,hq.symm⟩)
  ·rw[mV (by simp;omega)]at hq;cases hq
 have hpget:(os.set id o'++[p])[st.length]?=some p:=by
  rw[ln (by simp;omega)];simp[hol]
 have rU:FK os (os.set id o'++[p]):=λq oq hq=>by
  have hql:=(lV.1 hq).1;rw[lj (by simpa using hql)];by_cases e2:q=id
  ·subst e2;rw[ho]at hq;cases hq;exact⟨o',lp xA,ll _,rfl,λ_=>⟨rfl,rfl,by simp[o',uN]⟩⟩
  ·rw[mG (nK e2)];exact⟨oq,hq,ll _,rfl,λ_=>⟨rfl,rfl,rfl⟩⟩
 have qk:∀y v,Ae F w os y v->Ae F w (os.set id o'++[p]) y v:=λy v h=>DV (λ_ h=>h) (λ_ _=>rfl) os _ rU y v h;have zS :∀b,o'.owns b->o.owns b:=λb hb=>by
  rcases hb with hb|hb
  ·exact .inl hb
  ·exact .inr hb.1
 have zT:∀b,p.owns b->o.owns b:=λb hb=>.inr (d1 _ _ _ (hpo b hb));have rq:∀b,o'.owns b->¬ p.owns b:=λb h1 h2=>by
  have h3:=hpo b h2;rcases h1 with h1|h1
  ·exact (qf.mo b (d1 _ _ _ h3)).2.2 h1
  ·exact h1.2 h3
 have wq:Ae F w (os.set id o'++[p]) (.own st.length 0 ys.length) uv:=by
  simp only[Ae];refine⟨p,hpget,mB _,?_,λ_=>⟨by rw[xe];exact ll _,by rw[xe];simpa only[nW,pJ,pI] using hpv⟩⟩;rcases hpv with ⟨_,a,rfl⟩|⟨b,_,rfl⟩<;>exact⟨_,_,_,rfl⟩
 refine⟨F,os.set id o'++[p],⟨?_,λt=>qk _ _ (hr.env t),hr.size,λq oq hq=>?_,λq q' oq yB b hq wQ hb rO=>?_,hr.FR,hr.defers⟩,⟨rfl,rfl,rfl,ll _,λ_ h=>h,λ_ _=>rfl,λb _ h1 h2=>⟨rfl,h1,λoq hoq hb=>?_⟩,λq oq _ hq=>rU q oq hq⟩⟩
 ·rw[nI,nj,qz];simp only[o',uM,mF,nV,xe]
 ·rcases qi q oq hq with ⟨_,_,h⟩|⟨_,rfl⟩|⟨_,rfl⟩
  ·have h0:=hr.rows q oq h;refine⟨h0.pos,h0.lens,h0.none,λb hb=>?_,h0.mo,h0.deep⟩;obtain⟨e1,cur,e2,e3,e4,e5,e6⟩:=h0.some b hb;exact⟨e1,cur,e2,e3,e4,e5,λi' y hy j' c hc=>by obtain⟨u,f1,f2⟩:=e6 i' y hy j' c hc;exact⟨u,f1,qk _ _ f2⟩⟩
  ·refine⟨qf.pos,λy hy=>?_,(λhn=>by simp only[o']at hn;rw[vg]at hn;cases hn),λb hb=>?_,λb hb=>qf.mo b hb.1,?_⟩
   ·rcases mg hy with hy|rfl
    ·exact qf.lens y (by rw[uN];exact hy)
    ·have h0:=qf.lens x (by rw[uN];exact lT hx);refine⟨by rw[pf];exact h0.1,λc sL=>?_⟩;rcases mg sL with h|rfl
     ·exact h0.2 c h
     ·rfl
   ·simp only[o']at hb;rw[vg]at hb;cases hb;refine⟨vQ,cur,qv,rC,by simpa [o',uN] using hle,se,λi' y hy j' c tX=>?_⟩;simp only[o']at hy⊢;by_cases hi:i'=i
    ·subst hi;rw[lp rv,lX]at hy;subst hy;by_cases hj:j'=j
     ·subst hj;rw[lp uG,lX]at tX;subst tX;exact⟨uv,hu1,wq⟩
     ·rw[mG (nK hj)]at tX;obtain⟨u,f1,f2⟩:=qy i' x (by rw[uN];exact hx) j' c tX;exact⟨u,f1,qk _ _ f2⟩
    ·rw[mG (nK hi)]at hy;obtain⟨u,f1,f2⟩:=qy i' y (by rw[uN];exact hy) j' c tX;exact⟨u,f1,qk _ _ f2⟩
   ·refine⟨λi' j' b=>if i'=i/\j'=j then False else D i' j' b,λi' j' b hb=>?_,λi1 j1 i2 j2 b h1 h2=>?_,λb hb uH el2 l rR i' y j' e2 s2 zs hy tX=>?_⟩
    ·simp only at hb;split at hb
     ·exact hb.elim
     ·rename_i vV;exact⟨d1 i' j' b hb,λh=>vV (d2 _ _ _ _ _ hb h)⟩
    ·simp only at h1 h2;split at h1<;>split at h2<;>first|exact h1.elim|exact h2.elim|exact d2 _ _ _ _ _ h1 h2
    ·simp only[o']at hb hy⊢;rw[vg]at hb;cases hb;rw[qv]at rR;cases rR;have hold:(¬ (i'=i/\j'=j))/\∃y0,o.row.xs[i']?=some y0/\y0[j']?=some (.dv e2 s2 zs):=by
      rw[uN];by_cases hi:i'=i
      ·subst hi;rw[lp rv,lX]at hy;subst hy;by_cases hj:j'=j
       ·subst hj;rw[lp uG,lX]at tX;cases tX
       ·rw[mG (nK hj)]at tX;exact⟨λh=>hj h.2,x,hx,tX⟩
      ·rw[mG (nK hi)]at hy;exact⟨λh=>hi h.1,y,hy,tX⟩
     obtain⟨vV,y0,xU,sZ⟩:=hold;obtain⟨u,f1,f2⟩:=d3 bo vg cur _ _ qv i' y0 j' e2 s2 zs xU sZ;exact⟨u,f1,by simpa only[vV,mC] using f2⟩
  ·exact xf _
 ·rcases qi q oq hq with ⟨q1,q2,h⟩|⟨rfl,rfl⟩|⟨rfl,rfl⟩<;>rcases qi q' yB wQ with ⟨q1',q2',h'⟩|⟨rfl,rfl⟩|⟨rfl,rfl⟩
  ·exact hr.inj q q' oq yB b h h' hb rO
  ·exact hr.inj q _ oq o b h ho hb (zS b rO)
  ·exact absurd (hr.inj q id oq o b h ho hb (zT b rO)) q1
  ·exact hr.inj _ q' o yB b ho h' (zS b hb) rO
  ·rfl
  ·exact absurd rO (rq b hb)
  ·exact absurd (hr.inj id q' o yB b ho h' (zT b hb) rO).symm q1'
  ·exact absurd hb (rq b rO)
  ·rfl
 ·obtain⟨q,hq⟩:=lv.1 hoq;rcases qi q oq hq with ⟨_,_,h⟩|⟨_,rfl⟩|⟨_,rfl⟩
  ·exact h2 oq (lT h) hb
  ·exact h2 o (lT ho) (zS b hb)
  ·exact h2 o (lT ho) (zT b hb)
variable {α β : Type} {l : List α} {enc : α -> List AV}
def hole (l:List α)(enc:α->List AV)(i:Int)(x:List AV):List (List AV):=(l.map enc).set i.toNat x
theorem ae {i:Int}{u:α}{x:List AV}(h:x=enc u):hole l enc i x=(Sh.put l i u).map enc:=by subst h;exact aZ
theorem FG {i:Int}{u:α}{x:List AV}(h:Sh.get l i=some u):(hole l enc i x)[i.toNat]?=some x:=by
 have:=(Sh.get_some h).2.2;have h0:=(Sh.get_some h).1;exact lp (by simp;omega)
theorem TA {i:Int}{x y:List AV}:(hole l enc i x).set i.toNat y=hole l enc i y:=by unfold hole;rw[List.set_set]
theorem Gd {id m g size sz nn j:Nat}{el tK:TypeId}{i:Int}{c:α}{ys:List β}{encY:β->List AV}{x x':List AV}{e:Nat->AV}{st st':List Row}(qc:st[id]?=some ⟨g,el,size,l.map enc⟩)(hi:Sh.get l i=some c)(hx:enc c=x)(hc:x[j]?=some (.dv tK sz (ys.map encY)))
  (hm:st.length=m) (tN:x.set j (.own m 0 ys.length)=x') (qz:st.set id ⟨g,el,size,hole l enc i x'⟩++[⟨0,tK,sz,ys.map encY⟩]=st'):Wk k ⟨nn,e,st⟩ ⟨nn,e,st'⟩:=by
 subst qz;subst tN;subst hx;exact Oj qc (CW hi) hc hm (n:=ys.length) (by simp) rfl
theorem Wk.take {id m g gm size sz nn j n:Nat}{el tK:TypeId}{i:Int}{c:α}{ys:List β}{encY:β->List AV}{x x':List AV}{e:Nat->AV}{st st':List Row}(qc:st[id]?=some ⟨g,el,size,hole l enc i x⟩)(hi:Sh.get l i=some c)(hc:x[j]?=some (.own m gm n))
  (hm:st[m]?=some ⟨gm,tK,sz,ys.map encY⟩) (hn:n=ys.length) (rE:id≠m) (sy:k<=m) (hd :∀y,(encY y).all QD=true) (tN:x.set j (.dv tK sz (ys.map encY))=x') (qz:(st.set id ⟨g,el,size,hole l enc i x'⟩).set m ⟨gm+1,tK,sz,[]⟩=st') :
  Wk k ⟨nn,e,st⟩ ⟨nn,e,st'⟩:=by
 subst qz;subst tN;refine Kj qc (FG hi) hc hm (by simpa using hn) rE sy (λy hy c hc=>?_) (by rw[TA]);obtain⟨z,_,rfl⟩:=mA.1 hy;exact lh.1 (hd z) c hc
theorem SW {id g size nn:Nat}{el:TypeId}{i:Int}{u:α}{x:List AV}{e:Nat->AV}{st st':List Row}(qc:st[id]?=some ⟨g,el,size,hole l enc i x⟩)(hx:x=enc u)(qz:st.set id ⟨g,el,size,(Sh.put l i u).map enc⟩=st'):Wk k ⟨nn,e,st⟩ ⟨nn,e,st'⟩:=by
 rw[ae hx]at qc;have:st.set id ⟨g,el,size,(Sh.put l i u).map enc⟩=st:=by
  obtain⟨h1,h2⟩:=lV.1 qc;rw[<- h2];exact ou h1
 rw[this]at qz;exact Fc qz
section
variable {ops : Array Oper} {Q : Exit -> St -> Prop} {ds : List (Option Tmp)} {r : List Oper} {n : Nat} {e : Nat -> AV} {st st' : List Row} {ty : TypeId} {ps : String} {ed : Array Edge} {t : Tmp} {v : AV} {gd : Option (Nat × Bool)} {T : TypeId} {x y : Operand} {ag : Bool} {sz id g size : Nat} {el : TypeId} {cs : List AV} {c : α} {i : Int}
end
end Go.Abs
namespace Go.Abs
open Go
variable {P : Program} {F : Nat -> Prop} {os : List Own} {s : St} {a : Act} {w : World} {k : Nat}
section
variable {α : Type} {l : List α} {enc : α -> List AV}
variable {ops : Array Oper} {Q : Exit -> St -> Prop} {ds : List (Option Tmp)} {r : List Oper} {n : Nat} {e : Nat -> AV} {st st' : List Row} {ty : TypeId} {ps : String} {ed : Array Edge} {t : Tmp} {T : TypeId} {x y : Operand} {m bytes size : Nat} {el : TypeId} {zz : List AV} {u : α} {j : Int} {kk uV : IntKind}
end
end Go.Abs
namespace Go.Abs
open Go
variable {P : Program} {F : Nat -> Prop} {os : List Own} {s : St} {a : Act} {w : World} {k : Nat}
variable {α β : Type} {l : List α} {enc : α -> List AV}
theorem G6 {id g size nn:Nat}{el:TypeId}{i:Int}{c:α}{x:List AV}{e:Nat->AV}{st st':List Row}(qc:st[id]?=some ⟨g,el,size,hole l enc i x⟩)(hi:Sh.get l i=some c)(hx:x=enc c)(qz:st.set id ⟨g,el,size,l.map enc⟩=st'):Wk k ⟨nn,e,st⟩ ⟨nn,e,st'⟩:=by
 have h2:hole l enc i x=l.map enc:=by
  subst hx;unfold hole;have:=CW (enc:=enc) hi;obtain⟨h1,h2⟩:=lV.1 this;rw[<- h2];exact ou h1
 rw[h2]at qc;have:st.set id ⟨g,el,size,l.map enc⟩=st:=by
  obtain⟨h1,h2⟩:=lV.1 qc;rw[<- h2];exact ou h1
 rw[this]at qz;exact Fc qz
end Go.Abs
namespace Go.Abs
open Go
theorem Zx {α:Type}{l l':List α}{c:α}{b:Nat}(h:Sh.app l [c] b=some l'):Sh.get l' (Sh.len l)=some c:=by
 unfold Sh.app at h;split at h
 ·simp only[lX]at h;subst h;unfold Sh.get Sh.len;rw[ld (oY _)];simp
 ·cases h
section
variable {P : Program} {k : Nat} {α : Type} {l l' : List α} {enc : α -> List AV} {c : α}
variable {ops : Array Oper} {Q : Exit -> St -> Prop} {ds : List (Option Tmp)} {r : List Oper} {n : Nat} {e : Nat -> AV} {st st' : List Row} {ty : TypeId} {ps : String} {ed : Array Edge} {t : Tmp} {gd : Option (Nat × Bool)} {T : TypeId} {x y : Operand} {bytes size id g m q gq size' : Nat} {el tK : TypeId} {zz cs : List AV}
theorem cr (hg:GO ds gd e)(he:Ds P T=some ⟨el,size,bytes,zz⟩)(hx:St.ev ⟨n,e,st⟩ x=.own id g m)(hr:st[id]?=some ⟨g,el,size,l.map enc⟩)(hm:m=l.length)(hy:St.ev ⟨n,e,st⟩ y=.own q gq 1)(hq:st[q]?=some ⟨gq,tK,size',[cs]⟩)
  (rf:cs.all AV.leaf=true) (sa:cs.length=size) (ha:Sh.app l [c] bytes=some l') (qz:st.set id ⟨g+1,el,size,hole l' enc (Sh.len l) cs⟩=st') (hk:AO P k ops Q (ds++[some t]) r ⟨n,EI e t (.own id (g+1) l'.length),st'⟩) :
  AO P k ops Q ds (⟨some t,.call ⟨.builtin .append,#[x,y],#[T,T]⟩,ty,ps,ed,gd⟩::r) ⟨n,e,st⟩:=by
 subst qz;subst hm;refine Mh hg ?_;rw[Wd];refine⟨rfl,?_⟩;rw[hx,hy];unfold Sh.app at ha;split at ha
 ·rename_i h;simp only[lX]at ha;subst ha;refine Aq _ he (Aq _ hq ⟨rfl,λz hz c hc=>?_,rfl,λz hz=>?_,Aq _ hr ⟨rfl,(ly _).symm,rfl,rfl,by simpa using h.1,by simpa using h.2,?_⟩⟩)
  ·simp only[lu]at hz;subst hz;exact lh.1 rf c hc
  ·simp only[List.take_one,List.head?_cons,Option.toList_some,lu]at hz;subst hz;exact sa
  ·have e1:(l.map enc).take l.length=l.map enc:=by rw[<- ly (f:=enc) (as:=l),nL]
   have e3:List.map enc l++[cs]=hole (l++[c]) enc (Sh.len l) cs:=by simp[hole,Sh.len]
   simp only[e1,List.take_one,List.head?_cons,Option.toList_some,e3,List.length_singleton];rw[show l.length+1=(l++[c]).length by simp];exact hk
 ·cases ha
end
end Go.Abs
namespace Go.Abs
open Go
variable {P : Program} {F : Nat -> Prop} {os : List Own} {s : St} {a : Act} {w : World} {k : Nat}
def PE (id g:Nat)(xs:List (List AV)):AV->AV
 | .own rN g' n=>if rN=id/\g'=g then (if n=xs.length then .sl (Ke xs) else .E7) else .own rN g' n
 | v=>v
def cI (id g:Nat)(xs:List (List AV)):AV->AV
 | .agg cs=>.agg (cs.map (PE id g xs))
 | .Dd cs=>.Dd (cs.map (PE id g xs))
 | v=>PE id g xs v
theorem Wk.gJ {id:Nat}{row:Row}(tO:k<=id)(qc:s.st[id]?=some row)(hp:TC row.xs):
  Wk k s ⟨s.n,λt=>cI id row.gen row.xs (s.env t),s.st.set id { row with gen:=row.gen+1,xs:=[] }⟩:=λF os a w hr=>by
 obtain⟨o,ho,rfl⟩:=hr.row qc;have qf:=hr.rows id o ho;refine⟨λb=>F b∨o.owns b,os.set id ⟨{ o.row with gen:=o.row.gen+1,xs:=[] },none,0,Fe⟩,?_,?_⟩
 case refine_2=>
  refine⟨rfl,rfl,rfl,ll _,λ_ h=>.inl h,λ_ _=>rfl,λb _ h1 h2=>⟨rfl,λh=>h.elim h1 (λe=>h2 o (lT ho) e),λo' rH=>?_⟩,λi oi hi tG=>⟨oi,?_,ll _,rfl,λ_=>⟨rfl,rfl,rfl⟩⟩⟩
  ·rcases mg rH with h|rfl
   ·exact h2 o' h
   ·intro hh;rcases hh with hh|hh
    ·simp at hh
    ·exact hh
  ·rw[mG (by omega)];exact tG
 have hF:∀b,F b->(λb=>F b∨o.owns b) b:=λ_ h=>.inl h;have rU:FK os (os.set id ⟨{ o.row with gen:=o.row.gen+1,xs:=[] },none,0,Fe⟩):=FK.set ho (by simp) rfl (λe=>by simp at e);have qk:∀x v,Ae F w os x v->Ae (λb=>F b∨o.owns b) w (os.set id ⟨{ o.row with gen:=o.row.gen+1,xs:=[] },none,0,Fe⟩) x v:=λx v h=>
  DV hF (λ_ _=>rfl) os _ rU x v h
 have h1:∀x v,Ae F w os x v->Ae (λb=>F b∨o.owns b) w (os.set id ⟨{ o.row with gen:=o.row.gen+1,xs:=[] },none,0,Fe⟩) (PE id o.row.gen o.row.xs x) v:=λx v h=>by
  cases x with
  | own rN g' n=>
   simp only[PE];split
   ·rename_i yV;obtain⟨rfl,rfl⟩:=yV;split
    ·rename_i vT;subst vT;simp only[Ae]at h;obtain⟨o',rH,_,_,h⟩:=h;rw[ho]at rH;cases rH;obtain⟨_,hv⟩:=h rfl;have hD:=UQ qf hp (v:=v) (by simpa only[nW,pJ,pI] using hv);have:=(Tw (F:=λb=>F b∨o.owns b) (λb hb=>.inr hb) _ _ hD).1;simp only[PQ,Ae]at this⊢;exact this
    ·simp[Ae]
   ·exact qk _ _ h
  | _=>exact qk _ _ h
 have hL:∀xs us,Bs F w os xs us->Bs (λb=>F b∨o.owns b) w (os.set id ⟨{ o.row with gen:=o.row.gen+1,xs:=[] },none,0,Fe⟩) (xs.map (PE id o.row.gen o.row.xs)) us:=λxs us h=>
  Db (by simp[BZ h]) λi x u hx hu=>by
   simp only[lW,lg]at hx;obtain⟨y,hy,rfl⟩:=hx;obtain⟨u',e1,e2⟩:=CO h i y hy;rw[hu]at e1;cases e1;exact h1 _ _ e2
 have qi:∀(i:Nat) (oi:Own),(os.set id ⟨{ o.row with gen:=o.row.gen+1,xs:=[] },none,0,Fe⟩)[i]?=some oi->(i≠id/\os[i]?=some oi)∨(i=id/\oi=⟨{ o.row with gen:=o.row.gen+1,xs:=[] },none,0,Fe⟩):=λi oi hi=>by
  by_cases e:i=id
  ·subst e;rw[lp (lV.1 ho).1,lX]at hi;exact .inr ⟨rfl,hi.symm⟩
  ·rw[mG (nK e)]at hi;exact .inl ⟨e,hi⟩
 refine⟨by rw[nj,hr.st],λt=>?_,hr.size,λi oi hi=>?_,λi j oi oj b hi hj sM sN=>?_,λb hb=>?_,hr.defers⟩
 ·have:=hr.env t;simp only;generalize s.env t=x at this⊢;cases x with
  | agg cs=>simp only[cI,Ae]at this⊢;obtain⟨us,e,h⟩:=this;exact⟨us,e,hL _ _ h⟩
  | Dd cs=>simp only[cI,Ae]at this⊢;obtain⟨us,e,h⟩:=this;exact⟨us,e,hL _ _ h⟩
  | _=>exact h1 _ _ this
 ·rcases qi i oi hi with ⟨rE,h⟩|⟨_,rfl⟩
  ·have sU:=hr.rows i oi h;refine⟨sU.pos,sU.lens,sU.none,λb hb=>?_,λb hb=>⟨λhF=>hF.elim (sU.mo b hb).1 (λtI=>rE (hr.inj i id oi o b h ho (.inr hb) tI)),(sU.mo b hb).2⟩,sU.deep⟩;obtain⟨e1,cur,e2,e3,e4,e5,e6⟩:=sU.some b hb;refine⟨λhF=>hF.elim e1 (λtI=>rE (hr.inj i id oi o b h ho (.inl hb) tI)),cur,e2,e3,e4,e5,λi' x hx j c hc=>?_⟩;obtain⟨u,f1,f2⟩:=e6 i' x hx j c hc;exact⟨u,f1,qk _ _ f2⟩
  ·exact⟨qf.pos,by simp,by simp,by simp,λb hb=>hb.elim,Et (by simp)⟩
 ·rcases qi i oi hi with ⟨rE,h⟩|⟨h,rfl⟩<;>rcases qi j oj hj with ⟨wm,h'⟩|⟨h',rfl⟩
  ·exact hr.inj i j oi oj b h h' sM sN
  ·exact sN.elim (λe=>by simp at e) λe=>e.elim
  ·exact sM.elim (λe=>by simp at e) λe=>e.elim
  ·omega
 ·rcases hb with hb|hb|hb
  ·exact hr.FR b hb
  ·obtain⟨_,cur,qv,_⟩:=qf.some b hb;exact (mO.1 qv).1
  ·exact (qf.mo b hb).2.1
variable {α : Type} {l : List α} {enc sB : α -> List AV} {n id g m size : Nat} {e : Nat -> AV} {st st' : List Row} {L : List (Nat × AV)} {el : TypeId} {xs : List (List AV)}
theorem WC (h:m=l.length)(hu :∀x,Hy (enc x)=sB x):PE id g (l.map enc) (.own id g m)=.sl (l.map sB):=by
 subst h;simp only[PE,and_self,mL,ly];rw[IF,nU];congr 1;exact mH λx _=>hu x
theorem le.PE (h:m=l.length)(hu :∀x,Hy (enc x)=sB x):le (Abs.PE id g (l.map enc) (.own id g m)) (.sl (l.map sB)):=le.of (WC h hu)
theorem le.cI (h:m=l.length)(hu :∀x,Hy (enc x)=sB x):le (Abs.cI id g (l.map enc) (.own id g m)) (.sl (l.map sB)):=le.of (WC h hu)
theorem JI (h :∀x,(enc x).all QD=true):TC (l.map enc):=λx hx c hc=>by
 obtain⟨y,_,rfl⟩:=mA.1 hx;exact lh.1 (h y) c hc
theorem Rm (qc:st[id]?=some ⟨g,el,size,xs⟩)(tO:k<=id)(hp:TC xs)(h:ME (λt=>Abs.cI id g xs (e t)) L)(qz:st.set id ⟨g+1,el,size,[]⟩=st'):Wk k ⟨n,e,st⟩ ⟨n,Aa L,st'⟩:=by
 subst qz;exact (Wk.gJ (s:=⟨n,e,st⟩) tO qc hp).trans (Af h)
end Go.Abs
namespace Go.Abs
open Go
variable {P : Program} {F : Nat -> Prop} {os : List Own} {s : St} {a : Act} {w : World} {k : Nat}
def jV (x:AV):AV:=bif flat x then x else .E7
theorem eo {F':Nat->Prop}{w':World}(hF :∀b,F b->F' b)(hw :∀b,F b->w'.heap[b]?=w.heap[b]?)(os':List Own){x:AV}{v:Value}(h:Ae F w os x v):Ae F' w' os' (jV x) v:=by
  unfold jV;cases hf:flat x with
  | false=>simp[Ae]
  | true=>exact Jd hf os' (DV hF hw [] [] (by simp) x v (Jd hf [] h))
def gn (x:AV):AV:=bif flat x then x else match x with
  | .ptr (id+1) g i off=>.ptr (id+1) g i off
  | _=>.E7
theorem fM {F':Nat->Prop}{w':World}(hF :∀b,F b->F' b)(hw :∀b,F b->w'.heap[b]?=w.heap[b]?){o o':Own}{si:List Own}{x:AV}{v:Value}(h:Ae F w (o::si) x v):Ae F' w' (o'::si) (gn x) v:=by
  unfold gn;cases hf:flat x with
  | true=>exact Jd hf _ (DV hF hw [] [] (by simp) x v (Jd hf [] h))
  | false=>
    cases x<;>simp only[cond_false]<;>try simp[Ae]
    rename_i id g i off;cases id with
    | zero=>simp[Ae]
    | succ id=>
      simp only[Ae,mQ]at h⊢;exact h
theorem S7 {P:Program}{ops:Array Oper}{md:Region.Mode}{Q Q':Exit->Act->World->Prop}(hp :∀c a w,Q (.panic c) a w->Q' (.panic c) a w)(vu:LetsOut Q->LetsOut Q')(hn :∀a w,Q .normal a w->Q' .normal a w):
    ∀(fuel:Nat) {qW:Array Bool} {a:Act} {w:World},wpAny P md ops Q fuel qW a w->wpAny P md ops Q' fuel qW a w
  | 0,_,_,_,h=>⟨h.1,hn _ _ h.2⟩
  | fuel+1,qW,a,w,h=>by
    refine⟨λh0=>hn _ _ (h.1 h0),λi hi=>?_⟩;have:=h.2 i hi;unfold wpOp at this⊢;split
    · rename_i ho;simp only[ho]at this;exact S7 hp vu hn fuel this
    · rename_i o ho;simp only[ho]at this;split
      · rename_i hw;rw[ld hw]at this;exact this.imp (λh=>Ot hp vu (Oper.wp_mono (λa w h=>S7 hp vu hn fuel h) h)) λh=>⟨h.1,vu h.2⟩
      · rename_i hw;rw[la hw]at this;exact S7 hp vu hn fuel this
def cO (row tq:Row)(Q:Exit->St->Prop):Exit->St->Prop:=λex s'=>(∃r,s'.st=tq::r)/\Q ex ⟨s'.n,λt=>jV (s'.env t),[row]⟩
theorem Rc {xs:List (List AV)}(hp:ER xs){o:Own}(qf:Me F w os o)(hx:o.row.xs=xs):∀x∈xs,∀c∈x,c.leaf=true:=λx hm c hc=>by
  have h1:=hp x hm c hc;have h2:=(qf.lens x (by rw[hx];exact hm)).2 c hc;cases c<;>simp_all [simple,AV.leaf,AV.kept]
theorem dr {Q:Exit->St->Prop}{o:Own}{si:List Own}{g:Nat}{el:TypeId}{size b0:Nat}{xs ys:List (List AV)}(hp:ER (xs++ys))(qc:o.row=⟨g,el,size,xs⟩)(ye:o.Fk=some b0)(vQ:¬ F b0){w1:World}(ht:Hl w w1 (some b0))
    {e:Exit} {a':Act} {w':World} (h:KN 1 (cO ⟨g,el,size,xs⟩ ⟨g,el,size,xs++ys⟩ Q) F (⟨⟨g,el,size,xs++ys⟩,some b0,o.cap,o.more⟩::si) w1 e a' w') (hold :∀b,F b->b<w.heap.size):KN 1 Q F (o::si) w e a' w':=by
  obtain⟨s',F',os',⟨⟨rst',qz⟩,hQ⟩,hR,hE⟩:=h;have rU:∃o' yC,os'=o'::yC/\o'.row=⟨g,el,size,xs++ys⟩:=by
    have:=hR.st;rw[qz]at this;cases os' with
    | nil=>cases this
    | cons o' yC=>
      simp only[mF,oI]at this;exact⟨o',yC,rfl,this.1⟩
  obtain⟨o',yC,rfl,hrow'⟩:=rU;obtain⟨o2,e2,_,_,e3⟩:=hE.UL 0 _ (by omega) rfl;simp only[mI,lX]at e2;subst e2;obtain⟨e4,e5,_⟩:=e3 (by rw[hrow']);dsimp only at e4 e5;have xC:=hR.rows 0 o' rfl;have rf:=Rc hp xC (by rw[hrow']);have hF:∀b,F b->w1.heap[b]?=w.heap[b]?:=λb hb=>ht.FR b (hold b hb) (λe=>vQ (by cases e;exact hb));refine⟨_,F',[{ o' with row:=⟨g,el,size,xs⟩ }],hQ,⟨rfl,λt=>eo (λ_ h=>h) (λ_ _=>rfl) _ (hR.env t),hR.size,λi oi hi=>?_,λi j oi oj b hi hj sM sN=>?_,hR.FR,hR.defers⟩,?_⟩
  · match i,hi with
    | 0,hi=>
      simp only[mI,lX]at hi;subst hi;refine⟨by have:=xC.pos;rw[hrow']at this;exact this,λx hx=>?_,λhn=>(by rw[e4]at hn;cases hn),λb hb=>?_,λb hb=>xC.mo b hb,Et λx hx c hc=>rf x (mf _ hx) c hc⟩
      · have:=xC.lens x (by rw[hrow'];exact mf _ hx);rw[hrow']at this;exact this
      · obtain⟨h1,cur,h2,h3,h4,h5,h6⟩:=xC.some b hb;rw[hrow']at h2 h3 h4 h6;refine⟨h1,cur,h2,h3,by simp only[mD]at h4⊢;omega,h5,λi x hx j c hc=>?_⟩;obtain⟨u,f1,f2⟩:=h6 i x (by simp only at hx⊢;rw[lj (lV.1 hx).1];exact hx) j c hc;exact⟨u,f1,Fh (hp x (mf _ (lT hx)) c (lT hc)) _ f2⟩
  · match i,j,hi,hj with
    | 0,0,_,_=>rfl
  · refine⟨hE.sys.trans ht.sys,hE.tape.trans ht.tape,hE.output.trans ht.output,nx ht.size hE.size,hE.NQ,λb hb=>(hE.IX b hb).trans (hF b hb),λb hb h1 h2=>?_,λi oi hi tG=>?_⟩
    · have rE:b≠b0:=λe=>h2 o (by simp) (.inl (by rw[e];exact ye));have hnm:¬ o.more b:=λhm=>h2 o (by simp) (.inr hm);obtain⟨f1,f2,f3⟩:=hE.other b (ma hb ht.size) h1 (λq hq tI=>by
        rcases lk.1 hq with rfl|hq
        · rcases tI with tI|tI
          · simp only[lX]at tI;exact rE tI.symm
          · exact hnm tI
        · exact h2 q (by simp[hq]) tI)
      refine⟨f1.trans (ht.FR b hb (λe=>rE (by cases e;rfl))),f2,λq hq tI=>?_⟩;simp only[lu]at hq;subst hq;exact f3 o' (by simp) tI
    · match i,tG with
      | 0,tG=>
        simp only[mI,lX]at tG;subst tG;exact⟨_,rfl,by rw[qc];exact ll _,by rw[qc],λ_=>⟨by rw[ye];exact e4,e5,by rw[qc]⟩⟩
      | _+1,_=>omega
theorem YX {t ty:TypeId}{ei:aj}{g:Nat}{xs:List (List AV)}{ys:List (List AV)}{y:AV}{ux ud:Value}(hr:Rel F os s a w){uY:List Row}(qz:s.st=⟨g,ei.e,ei.size,xs⟩::uY)(zU :∀row∈uY,ER row.xs)(he:Ds P t=some ei)
    (hd:Ae F w os (.own 0 g xs.length) ud) (hx:Ae F w os y ux) (wO:EL s.st y ys) (hys :∀z∈ys,z.length=ei.size) (hp:ER (xs++ys)) (rE:ys≠[]) (hb:(xs.length+ys.length)*ei.bytes<=140737488355328) (hm:xs.length+ys.length<=9223372036854775807) :
    ∃o si u w',os=o::si/\o.row=⟨g,ei.e,ei.size,xs⟩/\(Builtin.append_ #[t,t] ty #[ud,ux]).run P w=.ok u w'/\
      ((∃b0,o.Fk=some b0/\¬ F b0/\Hl w w' (some b0)/\Rel F (⟨⟨g,ei.e,ei.size,xs++ys⟩,some b0,o.cap,o.more⟩::si) ⟨s.n,λt=>gn (s.env t),⟨g,ei.e,ei.size,xs++ys⟩::uY⟩ a w'/\
          u=.slice (some ⟨b0,0,none⟩) (xs.length+ys.length) o.cap)∨
       (∃cap,Rel F (os++[⟨⟨0,ei.e,ei.size,xs++ys⟩,some w.heap.size,cap,Fe⟩]) { s with st:=s.st++[⟨0,ei.e,ei.size,xs++ys⟩] } a w'/\Ext F os w F (os++[⟨⟨0,ei.e,ei.size,xs++ys⟩,some w.heap.size,cap,Fe⟩]) w' k/\
          u=.slice (some ⟨w.heap.size,0,none⟩) (xs.length+ys.length) cap)):=by
  obtain⟨inf,z,hu,hi,hz,tP,rQ,rC,hby,_,_⟩:=IS he;obtain⟨sn,h,hys',vS,⟨ad,c,rfl,hsrc⟩⟩:=WX (size:=ei.size) (K:=λz=>z=ys) hr (wO _ ⟨hys,rfl⟩) hx;subst h;have rU:∃o si,os=o::si/\o.row=⟨g,ei.e,ei.size,xs⟩/\si.map Own.row=uY:=by
    have:=hr.st;rw[qz]at this;cases os with
    | nil=>cases this
    | cons o si=>
      simp only[mF,oI]at this;exact⟨o,si,rfl,this.1,this.2⟩
  obtain⟨o,si,rfl,qc,hros⟩:=rU;have vS:∀y∈sn,∀c∈y,c.leaf=true:=by
    rcases vS with e|h
    · exact absurd e rE
    · exact h
  have hylen:0<sn.length:=pG.2 rE;have vk:∃b off,ad=some ⟨b,off,none⟩/\∃us:List Value,us.length=sn.length*inf.size/\(∀(j:Nat) u,us[j]?=some u->w.cell? ((⟨b,off,none⟩:Addr).add j)=some u)/\(∀u∈us,u.oneCell'=true)/\Gj F w (o::si) ei.size us sn:=by
    rcases hsrc with e|⟨b,off,rfl,hc⟩
    · exact absurd e rE
    · obtain⟨us,h1,h2,h3,h4⟩:=QV hys' hc;exact⟨b,off,rfl,us,by rw[h1,rC],h2,h3,h1,λi y hy j c hc=>by obtain⟨u,e1,_,e2⟩:=h4 i y hy j c hc;exact⟨u,e1,e2⟩⟩
  obtain⟨b,off,rfl,us,uJ,rS,vq,hrep⟩:=vk;have qf:=hr.rows 0 o rfl;have hxlf:=Rc (xs:=xs) (λx hx=>hp x (mf _ hx)) qf (by rw[qc]);have rj:∀x∈xs++sn,x.length=ei.size/\∀c∈x,c.leaf=true:=λx hx=>by
    rcases lz.1 hx with h|h
    · have:=(qf.lens x (by rw[qc];exact h)).1;rw[qc]at this;exact⟨this,hxlf x h⟩
    · exact⟨hys' x h,vS x h⟩
  have yi:∀(cap:Nat) (rn:List Value),Gj F w (o::si) ei.size rn xs->xs.length+sn.length<=cap->cap<=maxLen->
      Rel F ((o::si)++[⟨⟨0,ei.e,ei.size,xs++sn⟩,some w.heap.size,cap,Fe⟩]) { s with st:=s.st++[⟨0,ei.e,ei.size,xs++sn⟩] } a (w.drew.alloc (.cells (rn.toArray++us.toArray++Builtin.zeroCells z.cells (cap-(xs.length+sn.length))) ei.e))/\
      Ext F (o::si) w F ((o::si)++[⟨⟨0,ei.e,ei.size,xs++sn⟩,some w.heap.size,cap,Fe⟩]) (w.drew.alloc (.cells (rn.toArray++us.toArray++Builtin.zeroCells z.cells (cap-(xs.length+sn.length))) ei.e)) k:=λcap rn hold tj se=>by
    obtain⟨e1,e2⟩:=Of (F:=F) (w:=w) (os:=o::si) (z:=z) (size:=ei.size) (n:=xs.length) (m:=sn.length) (cap:=cap) (by rw[tP,rC]) rfl rfl hold hrep tj;have:=hr.Oa (k:=k) (.inr rfl) (cur:=_) (e:=ei.e) (size:=ei.size) (cap:=cap) (xs:=xs++sn) (by omega) rj e1 (by simpa using tj) se (λi x hx j c hc=>e2 i x hx j c hc);exact⟨this.1,this.2.1⟩
  have tz:=grownCap_ge w (xs.length+sn.length);have wu:=ob w (xs.length+sn.length);simp only[Ae]at hd;obtain⟨o',rH,_,_,hd⟩:=hd;simp only[mI,lX]at rH;subst rH;obtain⟨_,hd⟩:=hd (by rw[qc]);rw[qc]at hd;simp only[nW,pJ,pI]at hd;rcases hd with ⟨vJ,a0,rfl⟩|⟨b0,Js,rfl⟩
  · have vT:=(qf.none vJ).1;rw[qc]at vT;dsimp only at vT;subst vT;have rB:(Builtin.append_ #[t,t] ty #[.slice a0 0 0,.slice (some ⟨b,off,none⟩) sn.length c]).run P w=.ok (.slice (some ⟨w.heap.size,0,none⟩) (0+sn.length) (grownCap w (0+sn.length) 0 ei.e))
        (w.drew.alloc (.cells (([]:List Value).toArray++us.toArray++Builtin.zeroCells z.cells (grownCap w (0+sn.length) 0 ei.e-(0+sn.length))) ei.e)):=by
      cases a0 with
      | none=>
        have:=run_append_nil (P:=P) w t ty ei.e inf z hu hi hz ⟨b,off,none⟩ sn.length c us uJ rS (by omega) (by simp at hm;omega) (by rw[<- hby];simp at hb;omega);simpa using this
      | some a0=>
        have:=oX (P:=P) w t ty ei.e inf z hu hi hz a0 0 0 [] (by simp) (by simp) ⟨b,off,none⟩ sn.length c us uJ rS (by omega) (by omega) (oh (by simp at hm;omega) (by rw[<- hby];simpa using hb));simpa using this
    have vt:=yi (grownCap w (0+sn.length) 0 ei.e) [] (by simp[Gj]) (by simpa using tz 0 ei.e) (by simpa using wu 0 ei.e (by simp[maxLen]at hm⊢;omega));exact⟨o,si,_,_,rfl,qc,rB,.inr ⟨_,vt.1,vt.2,rfl⟩⟩
  · obtain⟨vQ,cur,qv,sa,xT,vl,qy⟩:=qf.some b0 Js;rw[qc]at qv sa xT qy;dsimp only at qv sa xT qy;by_cases hroom:xs.length+sn.length<=o.cap
    · have sD:xs.length*inf.size+us.length<=cur.size:=by rw[uJ,sa,rC,<- mM];exact mP _ hroom
      have rB:=run_append_room (P:=P) w t ty ei.e inf hu hi b0 xs.length o.cap cur qv ⟨b,off,none⟩ sn.length c us uJ rS vq hroom sD;have hT:=Hl.setRow w b0 (cur.toList.take (xs.length*inf.size)++us++cur.toList.drop (xs.length*inf.size+us.length)).toArray;have hF:∀g,F g->(w.setRow b0 (cur.toList.take (xs.length*inf.size)++us++cur.toList.drop (xs.length*inf.size+us.length)).toArray).heap[g]?=w.heap[g]?:=λg hg=>hT.FR g (hr.FR g hg) (λe=>vQ (by cases e;exact hg));refine⟨o,si,_,_,rfl,qc,rB,.inl ⟨b0,Js,vQ,hT,⟨by simp only[mF,hros],λt=>fM (λ_ h=>h) hF (hr.env t),hr.size,λi oi hi=>?_,λi j oi oj b hi hj sM sN=>?_,λg hg=>ma (hr.FR g hg) hT.size,hr.defers⟩,rfl⟩⟩
      · match i,hi with
        | 0,hi=>
          simp only[mI,lX]at hi;subst hi;have sL:∀c u,simple c=true->Ae F w (o::si) c u->∀os',Ae F (w.setRow b0 (cur.toList.take (xs.length*inf.size)++us++cur.toList.drop (xs.length*inf.size+us.length)).toArray) os' c u:=λc u hc h os'=>
            Fh hc os' (DV (λ_ h=>h) hF [] [] (by simp) c u (Fh hc [] h))
          refine⟨by have:=qf.pos;rw[qc]at this;exact this,λx hx=>⟨(rj x hx).1,λc hc=>D3 ((rj x hx).2 c hc)⟩,λhn=>(by cases hn),λb' rO=>?_,λg hg=>⟨(qf.mo g hg).1,by simpa using (qf.mo g hg).2.1,by rw[<- Js];exact (qf.mo g hg).2.2⟩,Et λx hx c hc=>(rj x hx).2 c hc⟩;simp only[lX]at rO;subst rO;refine⟨vQ,_,pT w b0 cur _ _ _ qv,?_,by simpa using hroom,vl,λi y hy j c hc=>?_⟩
          · simp only[oL,mD,nq,oE,nt]at sD⊢;rw[<- sa];omega
          · simp only at hy⊢;rw[KM sD];by_cases re:i<xs.length
            · rw[lj re]at hy;obtain⟨u,f1,f2⟩:=qy i y hy j c hc;have uG:j<ei.size:=by rw[<- (rj y (mf _ (lT hy))).1];exact (lV.1 hc).1
              have:(i+1)*ei.size<=xs.length*ei.size:=mP _ re;rw[mM]at this;refine⟨u,?_,sL c u (hp y (mf _ (lT hy)) c (lT hc)) f2 _⟩;rw[ld (by rw[<- rC];omega)];exact f1
            · rw[ln (by omega)]at hy;obtain⟨u,f1,f2⟩:=hrep.2 _ y hy j c hc;refine⟨u,?_,sL c u (hp y (nm _ (lT hy)) c (lT hc)) f2 _⟩;have qw:=(lV.1 f1).1;have h3:xs.length*ei.size<=i*ei.size:=mP _ (by omega);rw[Nat.sub_mul]at f1 qw;rw[la (by rw[<- rC];omega),ld (by rw[<- rC];omega),<- f1];congr 1;rw[<- rC];omega
        | i+1,hi=>
          simp only[mQ]at hi;have tG:=hr.rows (i+1) oi (by simpa using hi);have hpi:ER oi.row.xs:=zU oi.row (by rw[<- hros];exact nC (lT hi));have hlfi:=Rc hpi tG rfl;have hni:∀b,oi.owns b->b≠b0:=λb hb e=>by
            have:=hr.inj (i+1) 0 oi o b (by simpa using hi) rfl hb (.inl (by rw[e];exact Js));omega
          refine⟨tG.pos,tG.lens,tG.none,λb hb=>?_,λb hb=>⟨(tG.mo b hb).1,ma (tG.mo b hb).2.1 hT.size,(tG.mo b hb).2.2⟩,Et hlfi⟩;obtain⟨f1,uH,f2,f3,f4,f5,f6⟩:=tG.some b hb;refine⟨f1,uH,?_,f3,f4,f5,λi' x hx j c hc=>?_⟩
          · rw[hT.FR b (tG.lt (.inl hb)) (λe=>hni b (.inl hb) (by cases e;rfl))];exact f2
          · obtain⟨u,g1,g2⟩:=f6 i' x hx j c hc;have tn:=hpi x (lT hx) c (lT hc);exact⟨u,g1,Fh tn _ (DV (λ_ h=>h) hF [] [] (by simp) c u (Fh tn [] g2))⟩
      · have key:∀(i:Nat) oi b,((⟨⟨g,ei.e,ei.size,xs++sn⟩,some b0,o.cap,o.more⟩:Own)::si)[i]?=some oi->oi.owns b->∃vz,(o::si)[i]?=some vz/\vz.owns b:=λi oi b hi hb=>by
          cases i with
          | zero=>
            simp only[mI,lX]at hi;subst hi;exact⟨o,rfl,hb.imp (λhb=>by rw[Js];exact hb) id⟩
          | succ i=>exact⟨oi,hi,hb⟩
        obtain⟨vz,q1,q2⟩:=key i oi b hi sM;obtain⟨oj',q3,q4⟩:=key j oj b hj sN;exact hr.inj i j vz oj' b q1 q3 q2 q4
    · have hold:∀(i:Nat) y,xs[i]?=some y->NB F w (o::si) b0 (0+i*ei.size) y:=λi y hy=>by
        have:=hr.N9 (id:=0) (o:=o) rfl Js (i:=i) (x:=y) (by rw[qc];exact hy);rw[qc]at this;simpa using this
      obtain⟨rn,h1,h2,_,h4⟩:=QV (λx hx=>(rj x (mf _ hx)).1) hold;have rB:=oX (P:=P) w t ty ei.e inf z hu hi hz ⟨b0,0,none⟩ xs.length o.cap rn (by rw[h1,rC]) h2 ⟨b,off,none⟩ sn.length c us uJ rS (by omega) (by omega) (oh (by omega) (by rw[<- hby];exact hb));have vt:=yi (grownCap w (xs.length+sn.length) o.cap ei.e) rn ⟨h1,λi y hy j c hc=>by obtain⟨u,f1,_,f2⟩:=h4 i y hy j c hc;exact⟨u,f1,f2⟩⟩ (tz o.cap ei.e) (wu o.cap ei.e (by simp[maxLen];omega));exact⟨o,si,_,_,rfl,qc,rB,.inr ⟨_,vt.1,vt.2,rfl⟩⟩
section
variable {P : Program} {ops : Array Oper} {Q : Exit -> St -> Prop} {n N f i : Nat} {qW listed' : Array Bool} {e : Nat -> AV} {ty : TypeId} {p : String} {ed : Array Edge} {t : Tmp} {α : Type} {l l2 l' : List α} {enc : α -> List AV} {x y : Operand} {g m size bytes : Nat} {el : TypeId} {zz : List AV} {T : TypeId} {uY : List Row} {k : Nat}
theorem BH (h:qW=listed'){s:St}(ha:AX P k ops Q N f qW s):AX P k ops Q N f listed' s:=h▸ha
theorem AX.two (row tq:Row){s:St}(h :∀A A':Nat->Array Bool->St->Prop,(∀f l s,A f l s↔AX P k ops Q N f l s)->(∀f l s,A' f l s↔AX P k ops (cO row tq Q) N f l s)->A f qW s):AX P k ops Q N f qW s:=
  h (AX P k ops Q N) (AX P k ops (cO row tq Q) N) (λ_ _ _=>Iff.rfl) (λ_ _ _=>Iff.rfl)
theorem KO {s:St}(h :∀A:Nat->Array Bool->St->Prop,(∀f l s,A f l s↔AX P k ops Q N f l s)->A f qW s):AX P k ops Q N f qW s:=
  h (AX P k ops Q N) (λ_ _ _=>Iff.rfl)
theorem KJ {ys:AV}(ho:ops[i]?=some ⟨some t,.call ⟨.builtin .append,#[x,y],#[T,T]⟩,ty,p,ed,none⟩)(vv:DH n (some t)=true)(he:Ds P T=some ⟨el,size,bytes,zz⟩)(zU :∀row∈uY,ER row.xs)(hx:St.ev ⟨n,e,⟨g,el,size,l.map enc⟩::uY⟩ x=.own 0 g m)(hm:m=l.length)(hy:St.ev ⟨n,e,⟨g,el,size,l.map enc⟩::uY⟩ y=ys)(wO:EL (⟨g,el,size,l.map enc⟩::uY) ys (l2.map enc))
    (wR:l2.isEmpty=false) (hs :∀a,(enc a).length=size) (hp :∀l:List α,ER (l.map enc)) (ha:Sh.app l l2 bytes=some l')
    (h1:AX P 1 ops (cO ⟨g,el,size,l.map enc⟩ ⟨g,el,size,l'.map enc⟩ Q) N f (qW.setIfInBounds i true) ⟨n,EI (λt=>gn (e t)) t (.own 0 g l'.length),⟨g,el,size,l'.map enc⟩::uY⟩)
    (h2:AX P 1 ops Q N f (qW.setIfInBounds i true) ⟨n,EI e t (.own (uY.length+1) 0 l'.length),⟨g,el,size,l.map enc⟩::(uY++[⟨0,el,size,l'.map enc⟩])⟩) :
    En P 1 ops Q N f qW ⟨n,e,⟨g,el,size,l.map enc⟩::uY⟩ i:=by
  subst hm;unfold Sh.app at ha;split at ha
  case isFalse=>cases ha
  rename_i hbd;simp only[lX]at ha;subst ha;intro F0 os0 w0 F os a w hr xD;have hxr:=hr.ev x;rw[hx]at hxr;have hyr:=hr.ev y;rw[hy]at hyr;have hpp:=hp (l++l2);rw[nI]at hpp h1 h2;obtain⟨o,si,u,w',rfl,qc,rB,hA⟩:=YX (k:=1) (ty:=ty) (ei:=⟨el,size,bytes,zz⟩) (g:=g) (xs:=l.map enc) (ys:=l2.map enc) hr rfl zU he (by simpa using hxr) hyr wO
    (λz hz=>by obtain⟨q,_,rfl⟩:=mA.1 hz;exact hs q) hpp (by intro e;rw[oT]at e;rw[e]at wR;cases wR) (by simpa using hbd.1) (by simpa using hbd.2)
  unfold wpOp;simp only[ho];rw[ld (by rfl)];refine .inl ?_;unfold Oper.wp;simp only[execOp,resolve,invoke,builtin,mW,mm,mT,pZ,mF,nV,rB,Oper.upon];rcases hA with ⟨b0,Js,vQ,hT,hR,rfl⟩|⟨cap,hR,hE,rfl⟩
  · have h3:=h1.2 F _ w' F _ _ w' (hR.put (d:=some t) vv (v:=.own 0 g (l++l2).length) (u:=.slice (some ⟨b0,0,none⟩) ((l.map enc).length+(l2.map enc).length) o.cap) (by
      simp only[Ae];exact⟨_,rfl,ll _,⟨_,_,_,rfl⟩,λ_=>⟨by simp,.inr ⟨b0,rfl,by simp⟩⟩⟩)) (Ext.refl _ _ _ _)
    refine S7 (λc a'' xS hp=>?_) (λhl=>?_) (λa'' xS hp=>?_) _ h3
    · obtain⟨_,_,_,h4,_⟩:=hp;exact nomatch h4.1
    · obtain⟨_,_,h4,_⟩:=hl;exact nomatch h4
    obtain⟨s',F',os',⟨h4,h5⟩,h6,h7⟩:=hp;obtain⟨s2,F2,os2,h8,h9,h10⟩:=dr (Q:=λe s=>e=.normal/\Q e s) hpp qc Js vQ hT ⟨s',F',os',⟨h5.1,h4,h5.2⟩,h6,h7⟩ hr.FR;exact⟨s2,F2,os2,h8,h9,xD.trans h10⟩
  · refine h2.2 F0 os0 w0 F _ _ w' ?_ (xD.trans hE);have hlen:si.length=uY.length:=by
      have:=hr.st;simp only[mF,oI]at this;rw[<- this.2,ly]
    refine hR.put (d:=some t) vv (v:=.own (uY.length+1) 0 (l++l2).length) ?_;simp only[Ae];exact⟨⟨⟨0,el,size,l.map enc++l2.map enc⟩,some w.heap.size,cap,Fe⟩,by rw[<- hlen];simp,ll _,⟨_,_,_,rfl⟩,λ_=>⟨by simp,.inr ⟨_,rfl,by simp⟩⟩⟩
end
section
variable {P : Program} {ds : List (Option Tmp)} {r : List Oper} {KS : St -> Prop} {n : Nat} {e : Nat -> AV} {st : List Row} {ty : TypeId} {ps : String} {ed : Array Edge} {t : Tmp} {gd : Option (Nat × Bool)} {α : Type} {l l' : List α} {enc : α -> List AV} {x : Operand} {size bytes : Nat} {el T : TypeId} {zz : List AV}
theorem bu {lo hi:Option Operand}{i j:Int}(hg:GO ds gd e)(he:Ds P T=some ⟨el,size,bytes,zz⟩)(hx:St.ev ⟨n,e,st⟩ x=.sl (l.map enc))(h1:To (lo.map (St.ev ⟨n,e,st⟩)) 0=some i)(h2:To (hi.map (St.ev ⟨n,e,st⟩)) l.length=some j)(hs :∀a,(enc a).length=size)(hl:Sh.sl l i j=some l')
    (hk:D7 P (ds++[some t]) r KS ⟨n,EI e t (.sl (l'.map enc)),st⟩):D7 P ds (⟨some t,.slice T x lo hi none,ty,ps,ed,gd⟩::r) KS ⟨n,e,st⟩:=by
  refine dk hg rfl (λs0 e1 e2 hd k F os a w hr next Q hn=>?_) hk;refine LC (k:=k) (K:=(·=s0.put (some t) (.sl (l'.map enc)))) hr hd ?_ hn;show U4 P s0.st T (s0.ev x) (lo.map s0.ev) (hi.map s0.ev) (Option.map s0.ev none) (λv st=>({ s0 with st:=st }:St).put (some t) v=s0.put (some t) (.sl (l'.map enc)));have ex:s0.ev x=St.ev ⟨n,e,st⟩ x:=e2 x (by simp[Op.operands]);have elo:lo.map s0.ev=lo.map (St.ev ⟨n,e,st⟩):=by
    cases lo with
    | none=>rfl
    | some y=>simp only[mZ];rw[e2 y (by simp[Op.operands])]
  have ehi:hi.map s0.ev=hi.map (St.ev ⟨n,e,st⟩):=by
    cases hi with
    | none=>rfl
    | some y=>simp only[mZ];rw[e2 y (by simp[Op.operands])]
  rw[ex,elo,ehi,hx];unfold Sh.sl at hl;split at hl
  · rename_i h;simp only[lX]at hl;subst hl;refine Aq _ he (Aq _ h1 (Aq _ (by rw[ly];exact h2) ⟨h.1,h.2.1,by simpa using h.2.2,λz hz=>?_,?_⟩))
    · obtain⟨q,_,rfl⟩:=mA.1 hz;exact hs q
    · rw[List.map_drop,List.map_take]
  · cases hl
theorem V7 {f:FuncId}{ri:Array Operand}{ts:Array TypeId}{args rJ:List AV}{rowsP rows0 rows1 rows1':List Row}{v v':AV}(sel:List Nat)(hg:GO ds gd e)(hb:Dq P f=true)(hc:Ab P f rJ rows0 λr st=>r=v/\st=rows1)(ha:ri.toList.map (St.ev ⟨n,e,st⟩)++[]=args)(sC:sel.Nodup)(qw:sel.all (·<st.length)=true)
    (hp:Cc st sel=rowsP) (hs:SR sel rowsP rows0) (hf:args.map (KT sel)=rJ) (hlen:rows1.length=sel.length) (h1:UN sel st.length rows1 rows1') (hv:T1 sel st.length v=v') (sV:GC sel rows1' 0 st=st)
    (hk:D7 P (ds++[some t]) r KS ⟨n,EI e t v',st⟩):D7 P ds (⟨some t,.call ⟨.value (.func f),ri,ts⟩,ty,ps,ed,gd⟩::r) KS ⟨n,e,st⟩:=by
  subst ha;subst hv;subst hp;refine dk hg rfl (λs0 e1 e2 hd k F os a w hr next Q hn=>?_) hk;refine LC (k:=k) (K:=(·=s0.put (some t) (T1 sel st.length v))) hr hd ?_ hn;show Dq P f=true/\callThen P k s0 f (ri.toList.map s0.ev++[]) (some t) _;rw[S9 e2];refine⟨hb,Kl λhle=>?_⟩;subst e1;obtain⟨e1,e3⟩:=hs.spec (st0:=s0.st) hle (λrow qc=>by
    obtain⟨i,_,hi⟩:=mu.1 qc;exact lT hi)
  refine LN (rows2:=[]) sel (by simpa using hc) sC (λi hi=>by simpa using lh.1 qw i hi) e1 e3 hf hlen (λrow qc=>by
    rw[mn]at qc;exact h1.leaf row qc) λ_=>?_
  simp only[h1.spec,nV,mn,sV]
end
end Go.Abs
namespace Go.Abs
open Go
section
variable {P : Program} {k : Nat} {ops : Array Oper} {Q : Exit -> St -> Prop} {ds : List (Option Tmp)} {r : List Oper} {n : Nat} {e : Nat -> AV} {st st' : List Row} {ty : TypeId} {p : String} {ed : Array Edge} {t : Tmp} {x y : Operand} {size bytes m : Nat} {el T Tn : TypeId} {zz : List AV} {α : Type} {enc : α -> List AV} {u : α} {l' : List α} {kk : IntKind} {j : Int} {v : AV} {o : Oper}
theorem az (hn:o.guard=none)(h :∀F os a w,Rel F os ⟨n,e,st⟩ a w->∃z w' F' os',(execOp a.eval o).run P w=.ok (.value z) w'/\Rel F' os' ⟨n,e,st'⟩ a w'/\Ae F' w' os' v z/\Ext F os w F' os' w' k)
  (hk:AO P k ops Q (ds++[o.dst]) r (St.put ⟨n,e,st'⟩ o.dst v)):AO P k ops Q ds (o::r) ⟨n,e,st⟩:=by
 intro hl uK rW F os a w hr Q' hQ;have ho:ops[ds.length]?=some o:=by have:=hl 0;simpa using this.symm
 have vv:DH n o.dst=true:=rW o (by have:=lT (l:=ops.toList) (i:=ds.length) (by simpa using ho);exact this);have vI :∀(j:Nat),r[j]?=ops[(ds++[o.dst]).length+j]?:=λj=>by
  have:=hl (j+1);simp only[mQ]at this;rw[this];congr 1;simp;omega
 have uz :∀(j:Nat) d,(ds++[o.dst])[j]?=some d->(ops[j]?).map (·.dst)=some d:=λj d hj=>by
  rcases nG j ds.length with h1|h1|h1
  ·rw[lj h1]at hj;exact uK j d hj
  ·subst h1;rw[J0,lX]at hj;rw[ho];simp[hj]
  ·rw[mV (by simp;omega)]at hj;cases hj
 obtain⟨z,w',F',os',h1,h2,h3,h4⟩:=h F os a w hr;unfold wpList;rw[ld (by unfold Region.wanted;rw[hn])];refine .inl ?_;unfold Oper.wp;rw[h1];simp only[Oper.upon];refine hk vI uz (by cases o.dst<;>exact rW) F' os' _ w' (h2.put vv h3) Q' λ_ _ _ hp=>hQ _ _ _ (hp.trans h4)
theorem Zc (hs:DW P T=true)(hx:St.ev ⟨n,e,st⟩ x=.zc)(hk:AO P k ops Q (ds++[some t]) r ⟨n,EI e t (i64 0),st⟩):
  AO P k ops Q ds (⟨some t,.call ⟨.builtin .cap,#[x],#[T]⟩,ty,p,ed,none⟩::r) ⟨n,e,st⟩:=by
 refine az rfl (st':=st) (v:=i64 0) (λF os a w hr=>?_) hk;have h1:=hr.ev x;rw[hx]at h1;simp only[Ae]at h1;obtain⟨ad,h1⟩:=h1;unfold DW at hs;split at hs
 case h_2=>cases hs
 rename_i el hu;refine⟨.int .i64 0,w,F,os,?_,hr,by simp[Ae],Ext.refl _ _ _ _⟩;simp only[execOp,resolve,invoke,builtin,mW,mm,mT,pZ,mF,nV,h1,Builtin.cap_];simp[me hu,goInt]
theorem iD {hi:Option Operand}(he:Ds P T=some ⟨el,size,bytes,zz⟩)(hx:St.ev ⟨n,e,st⟩ x=.zc)(h2:To (hi.map (St.ev ⟨n,e,st⟩)) 0=some 0)
  (hk:AO P k ops Q (ds++[some t]) r ⟨n,EI e t .zc,st⟩):AO P k ops Q ds (⟨some t,.slice T x none hi none,ty,p,ed,none⟩::r) ⟨n,e,st⟩:=by
 refine Mh AI ?_;rw[TD];simp only[ph];rw[hx];exact Aq _ he (Aq _ rfl (Aq _ h2 ⟨rfl,rfl,hk⟩))
theorem gG {kn:IntKind}(he:Ds P T=some ⟨el,size,bytes,zz⟩)(hn:P.underlying Tn=some (.int kn))(hx:St.ev ⟨n,e,st⟩ x=.zc)(hy:St.ev ⟨n,e,st⟩ y=.int kk j)(h0:decide (0<j)=true)(hz:enc u=zz)(hj:Sh.mk u j bytes=some l')(hm:st.length=m)(qz:st++[⟨0,el,size,l'.map enc⟩]=st')
  (hk:AO P k ops Q (ds++[some t]) r ⟨n,EI e t (.own m 0 l'.length),st'⟩):AO P k ops Q ds (⟨some t,.call ⟨.builtin .append,#[x,y],#[T,Tn]⟩,ty,p,ed,none⟩::r) ⟨n,e,st⟩:=by
 subst hm;subst qz;subst hz;unfold Sh.mk at hj;split at hj
 case isFalse=>cases hj
 rename_i hbd;simp only[lX]at hj;subst hj;refine az rfl (st':=st++[(⟨0,el,size,(List.replicate j.toNat u).map enc⟩:Row)]) (v:=.own st.length 0 (List.replicate j.toNat u).length) (λF os a w hr=>?_) hk;have h1:=hr.ev x;rw[hx]at h1;simp only[Ae]at h1;obtain⟨ad,h1⟩:=h1;have h2:=hr.ev y;rw[hy]at h2;simp only[Ae]at h2;obtain⟨inf,z,hu,hi,hz,tP,rQ,rC,hby,hzz,rf⟩:=IS he;dsimp only at hu hi tP rQ rC hby hzz rf;have hj0:0<j:=mz h0;obtain⟨q,rfl⟩:=mS (Int.le_of_lt hj0);rw[nY];have hq0:0<q:=by omega
 have hq48:q*inf.bytes<=281474976710656:=by
  have h9:((q*bytes:Nat):Int)<=281474976710656:=by rw[pd];exact hbd.2.1
  rw[<- hby];omega
 have hold:(Builtin.firstCells inf.size 0 (.slice ad 0 0)).run P w.drew=.ok ([]:List Value).toArray w.drew:=by
  cases ad with
  | none=>exact run_firstCells_none w.drew inf.size 0 0 0
  | some ad=>exact run_firstCells_some w.drew inf.size 0 ad 0 0 [] (by simp) (by simp)
 have sD:Builtin.nextslicecap (0+q) 0*inf.bytes<=281474976710656:=by rw[ml,nextslicecap_zero hq0];exact hq48
 have rB:=Lib.run_append_grow_zeros (P:=P) w T Tn ty el inf z kk kn hu hn hi hz ad 0 0 [] hold q hq0 (by omega) (by omega) (by omega) hq48 sD;rw[ml]at rB;have tz:=grownCap_ge w q 0 el;have hle:=ob w q 0 el (by unfold maxLen;omega);have hzc:∀i,i<z.cells.size->∃c',z.cells[i]?=some c':=λi hi=>⟨_,mw hi⟩;have tY:=hr.Oa (k:=k) (.inr rfl) (cur:=([]:List Value).toArray++Builtin.zeroCells z.cells q++Builtin.zeroCells z.cells (grownCap w q 0 el-q)) (e:=el) (size:=size) (cap:=grownCap w q 0 el) (xs:=(List.replicate q u).map enc)
  (by omega) (λx hx=>by
   rw[pM]at hx;rw[List.eq_of_mem_replicate hx,hzz];refine⟨by simp[tP,rC],λc hc=>rf c (by rw[hzz];exact hc)⟩)
  (by
   simp only[Array.size_append,oL,nD,size_zeroCells,tP,rC,ml,<- mM];congr 1;omega)
  (by rw[ly,om];omega) hle (λi x hx jj c hc=>by
   rw[pM]at hx;have hi:i<q:=by
    have:=(lV.1 hx).1;simpa using this
   have tN:x=enc u:=List.eq_of_mem_replicate (lT hx);subst tN;rw[hzz]at hc;simp only[lW,lg,nk]at hc;obtain⟨c',hc1,rfl⟩:=hc;have uG:jj<z.cells.size:=(mO.1 hc1).1;refine⟨c',?_,MI F w os c'⟩;have qw:i*size+jj<q*size:=by
    have:(i+1)*size<=q*size:=mP _ hi;rw[mM]at this;omega
   rw[Array.append_assoc,show (([]:List Value).toArray++(Builtin.zeroCells z.cells q++Builtin.zeroCells z.cells (grownCap w q 0 el-q)))=(Builtin.zeroCells z.cells q++Builtin.zeroCells z.cells (grownCap w q 0 el-q)) by simp];rw[nP (by rw[size_zeroCells,tP,<- rC];exact qw)];unfold Builtin.zeroCells;rw[Array.getElem?_map,Array.getElem?_range];rw[ld (by rw[tP,<- rC];exact qw)];simp only[mZ,lX];have uq:(i*size+jj) % z.cells.size=jj:=by
    rw[tP,<- rC,pc,Nat.mul_add_mod];exact oQ (by omega)
   rw[uq];simp[Array.getElem!_eq_getD,Array.getD,uG,(mO.1 hc1).2])
 refine⟨.slice (some ⟨w.heap.size,0,none⟩) q (grownCap w q 0 el),_,F,_,?_,tY.1,?_,tY.2.1⟩
 ·simp only[execOp,resolve,invoke,builtin,mW,mm,mT,pZ,mF,nV,h1,h2];rw[rB];simp
 ·simp only[Ae];have hlen:st.length=os.length:=hr.len;exact⟨_,by rw[hlen];exact J0 _ _,ll _,⟨_,_,_,rfl⟩,λ_=>⟨by simp,.inr ⟨_,rfl,by simp⟩⟩⟩
end
section
variable {P : Program} {ds : List (Option Tmp)} {r : List Oper} {KS : St -> Prop} {n : Nat} {e : Nat -> AV} {st : List Row} {ty : TypeId} {ps : String} {ed : Array Edge} {t : Tmp} {gd : Option (Nat × Bool)} {α : Type} {l : List α} {enc : α -> List AV} {u : α} {x y : Operand} {size bytes : Nat} {el T : TypeId} {zz : List AV} {kk uV : IntKind} {j : Int}
theorem kq (hg:GO ds gd e)(he:Ds P T=some ⟨el,size,bytes,zz⟩)(hx:St.ev ⟨n,e,st⟩ x=.int kk j)(hy:St.ev ⟨n,e,st⟩ y=.int uV j)(hz:enc u=zz)(hl:Sh.mk u j bytes=some l)(hpu:ER (l.map enc))
  (hk:D7 P (ds++[some t]) r KS ⟨n,EI e t (.sl (l.map enc)),st⟩):D7 P ds (⟨some t,.makeSlice T x y,ty,ps,ed,gd⟩::r) KS ⟨n,e,st⟩:=by
 subst hz;refine dk hg rfl (λs0 e1 e2 hd k F os a w hr next Q hn=>?_) hk;have ex:s0.ev x=.int kk j:=(e2 x (by simp[Op.operands])).trans hx;have ey:s0.ev y=.int uV j:=(e2 y (by simp[Op.operands])).trans hy;have hxr:=hr.ev x;have hyr:=hr.ev y;rw[ex]at hxr;rw[ey]at hyr;unfold Sh.mk at hl;split at hl
 case isFalse=>cases hl
 rename_i h;simp only[lX]at hl;subst hl;have h9:H9 P 0 F [] ⟨s0.n,λ_=>.E7,[]⟩ a w (Instr.makeSlice T (a.eval x) (a.eval y)) (λz st=>z=.own 0 0 (List.replicate j.toNat u).length/\st=[⟨0,el,size,(List.replicate j.toNat u).map enc⟩]):=by
  refine Xo (l:=.int kk j) (c:=.int uV j) hr.bare (Aq _ he ⟨rfl,h.1,h.2.1,h.2.2,?_⟩) (Fh (x:=.int kk j) rfl [] hxr) (Fh (x:=.int uV j) rfl [] hyr);simp
 obtain⟨u',w',F',g1,g2,g3,g4⟩:=OO (k:=k) hr h9 (Wi hpu) rfl;unfold Oper.wp;simp only[execOp,mW,g1,mT,mm,Oper.upon];exact hn _ _ (P3 (st':=s0.st) hd rfl g2 g3 g4)
end
theorem H2 {row:Row}{uY:List Row}(h:ER row.xs)(g :∀q∈uY,ER q.xs):∀q∈row::uY,ER q.xs:=λq hq=>by
 rcases lk.1 hq with rfl|hq
 ·exact h
 ·exact g q hq
section
variable {P : Program} {k : Nat} {ops : Array Oper} {Q : Exit -> St -> Prop} {ds : List (Option Tmp)} {r : List Oper} {n : Nat} {e : Nat -> AV} {st st' : List Row} {ty : TypeId} {p : String} {ed : Array Edge} {t : Tmp} {x y : Operand} {size bytes m : Nat} {el T : TypeId} {zz : List AV} {kk uV : IntKind} {c : Nat}
theorem dO (he:Ds P T=some ⟨el,size,bytes,zz⟩)(hx:St.ev ⟨n,e,st⟩ x=.int kk 0)(hy:St.ev ⟨n,e,st⟩ y=.int uV (c:Int))(hc:decide (c*bytes<=281474976710656/\c<=9223372036854775807)=true)(hm:st.length=m)(qz:st++[⟨0,el,size,[]⟩]=st')
  (hk:AO P k ops Q (ds++[some t]) r ⟨n,EI e t (.own m 0 0),st'⟩):AO P k ops Q ds (⟨some t,.makeSlice T x y,ty,p,ed,none⟩::r) ⟨n,e,st⟩:=by
 subst hm;subst qz;have hbd:=mz hc;refine az rfl (st':=st++[(⟨0,el,size,[]⟩:Row)]) (v:=.own st.length 0 0) (λF os a w hr=>?_) hk;have h1:=hr.ev x;rw[hx]at h1;simp only[Ae]at h1;have h2:=hr.ev y;rw[hy]at h2;simp only[Ae]at h2;obtain⟨inf,z,hu,hi,hz,tP,rQ,rC,hby,hzz,rf⟩:=IS he;dsimp only at hu hi tP rQ rC hby hzz rf;have rB:=run_make (P:=P) w T el inf z hu hi hz kk uV 0 (c:Int) (by omega) (by omega) (by rw[<- hby,<- pd,pc];omega) (by omega);have tY:=hr.Oa (k:=k) (.inl rfl) (cur:=madeCells z.cells (c*inf.size)) (e:=el) (size:=size) (cap:=c) (xs:=[]) (by omega) (by simp) (by rw[size_madeCells,rC]) (by simp) (by simp[maxLen];omega) (by simp);refine⟨.slice (some ⟨w.heap.size,0,none⟩) 0 c,_,F,_,?_,tY.1,?_,tY.2.1⟩
 ·simp only[execOp,mW,mm,mT,h1,h2];rw[rB];simp
 ·simp only[Ae];have hlen:st.length=os.length:=hr.len;exact⟨_,by rw[hlen];exact J0 _ _,ll _,⟨_,_,_,rfl⟩,λ_=>⟨by simp,.inr ⟨_,rfl,by simp⟩⟩⟩
end
end Go.Abs
namespace Go.Abs
open Go
variable {P : Program} {n : Nat} {e : Nat -> AV} {st : List Row} {t : Tmp} {ty : TypeId} {ps : String} {ed : Array Edge} {x : Operand}
theorem KB {id g i off tr el size j f:Nat}{tt:TypeId}{xs:List (List AV)}(hf:Hk P tt f=some j)(h:St.ev ⟨n,e,st⟩ x=.ptr id g i off)(qc:st[id]?=some ⟨g,el,size,xs⟩)(hl:off+j<=size)(ho:off+j=tr):Oe P ⟨n,e,st⟩ ⟨some t,.fieldAddr tt x f,ty,ps,ed,none⟩ (.ptr id g i tr):=
 ⟨rfl,λF os a w hr=>by
  subst ho;have h1:=hr.ev x;rw[h]at h1;unfold Hk at hf;split at hf<;>try (cases hf;done)
  rename_i fs hu;split at hf<;>try (cases hf;done)
  rename_i g1 hg;split at hf<;>try (cases hf;done)
  rename_i i1 hi;split at hf
  ·cases hf
  rename_i hz;simp only[lX]at hf;have rB:∀b off w',(Instr.fieldAt tt (.pointer (some ⟨b,off,none⟩)) f).run P w'=.ok (.pointer (some ⟨b,off+j,none⟩)) w':=λb off w'=>by
   simp[Instr.fieldAt,me hu,hg,Instr.sureAddr,fieldPlace,sizeOf,typeInfo,hi,hz,DK,hf]
  obtain⟨ow,how,hrw⟩:=hr.row qc;simp only[Ae]at h1;obtain⟨o',rH,tz,_,hv⟩:=h1;rw[how]at rH;cases rH;have vt:ow.row.gen=g:=by rw[hrw]
  obtain⟨h2,h3,b,hb,e2⟩:=hv vt;refine⟨.pointer (some ⟨b,i*ow.row.size+off+j,none⟩),λw'=>?_,?_⟩
  ·simp[execOp,e2,rB]
  ·simp only[Ae];exact⟨ow,how,tz,⟨_,rfl⟩,λ_=>⟨h2,by rw[hrw];exact hl,b,hb,by rw[nS]⟩⟩⟩
end Go.Abs
namespace Go.Abs
open Go
def SF (F:Nat->Prop)(w:World):World->Prop:=λw'=>∀b,F b->w'.heap[b]?=w.heap[b]?
section
variable {P : Program} {k : Nat} {ops : Array Oper} {Q : Exit -> St -> Prop} {N f i : Nat} {qW listed' : Array Bool} {s s' : St} {o : Oper}
def AY (P:Program)(k:Nat)(ops:Array Oper)(Q:Exit->St->Prop)(N f:Nat)(qW:Array Bool)(s:St):Prop:=
 s.n=N/\∀F0 os0 w0 F os a w,Rel F os s a w->Ext F0 os0 w0 F os w k->wpAnyH P .any ops (Nc k Q F0 os0 w0) (SF F0 w0) f qW a w
def aT (P:Program)(k:Nat)(ops:Array Oper)(Q:Exit->St->Prop)(N f:Nat)(qW:Array Bool)(s:St)(i:Nat):Prop:=
 ∀F0 os0 w0 F os a w,Rel F os s a w->Ext F0 os0 w0 F os w k->wpOp P ops (Nc k Q F0 os0 w0) i (λa' w'=>SF F0 w0 w'/\wpAnyH P .any ops (Nc k Q F0 os0 w0) (SF F0 w0) f (qW.setIfInBounds i true) a' w') a w
def dw (P:Program)(k:Nat)(ops:Array Oper)(Q:Exit->St->Prop)(N f:Nat)(qW:Array Bool)(s:St):List Nat->Prop
 | []=>True
 | i::r=>aT P k ops Q N f qW s i/\dw P k ops Q N f qW s r
theorem dw.get:∀{l:List Nat},dw P k ops Q N f qW s l->∀i∈l,aT P k ops Q N f qW s i
 | j::r,h,i,hi=>by
  rcases lk.1 hi with rfl|hi
  ·exact h.1
  ·exact dw.get h.2 i hi
theorem AY.all (rs:List Nat)(hn:s.n=N)(hr:Region.ready .any ops qW=rs)(rE:rs≠[])(h:dw P k ops Q N f qW s rs):AY P k ops Q N (f+1) qW s:=
 ⟨hn,λF0 os0 w0 F os a w hrel he=>wpAnyH_all hr rE λi hi=>h.get i hi F0 os0 w0 F os a w hrel he⟩
theorem Rq (hn:s.n=N)(hr:Region.ready .any ops qW=[])(h:Q .normal s):AY P k ops Q N f qW s:=
 ⟨hn,λ_ _ _ F os a w hrel he=>wpAnyH_done hr ⟨s,F,os,⟨rfl,h⟩,hrel,he⟩ f⟩
theorem Sy (hw:Wk k s s')(h:AY P k ops Q N f qW s')(hn:s.n=N):AY P k ops Q N f qW s:=
 ⟨hn,λF0 os0 w0 F os a w hrel he=>by
  obtain⟨F1,rL,h1,e1⟩:=hw F os a w hrel;exact h.2 F0 os0 w0 F1 rL a w h1 (he.trans e1)⟩
theorem YH (h:qW=listed')(ha:AY P k ops Q N f qW s):AY P k ops Q N f listed' s:=h▸ha
theorem TI (h :∀A:Nat->Array Bool->St->Prop,(∀f l s,A f l s↔AY P k ops Q N f l s)->A f qW s):AY P k ops Q N f qW s:=
 h (AY P k ops Q N) (λ_ _ _=>Iff.rfl)
theorem aT.of (ho:ops[i]?=some o)(hg:Nu o i=true)(hd:(ops.toList.all λo=>DH s.n o.dst)=true)
  (h:AO P k (ops.extract 0 (i+1)) (λe s'=>e=.normal/\AY P k ops Q N f (qW.setIfInBounds i true) s') ((ops.toList.take i).map (·.dst)) [o] s):aT P k ops Q N f qW s i:=by
 intro F0 os0 w0 F os a w hrel he;have hi:i<ops.size:=(mO.1 ho).1;have hex:∀j,(ops.extract 0 (i+1))[j]?=if j<i+1 then ops[j]? else none:=λj=>by
  rw[Array.getElem?_extract];split<;>split<;>simp_all<;>omega
 have h1:=h (λj=>by
   have hlen:((ops.toList.take i).map (·.dst)).length=i:=by simp;omega
   rw[hlen,hex];cases j with
   | zero=>simp[ho]
   | succ j=>rw[la (by omega)];simp) (λj d hj=>by
   simp only[lW,mJ]at hj;split at hj
   ·rw[hex,ld (by omega)];simpa using hj
   ·cases hj) (λo' rH=>by
   obtain⟨j,hj⟩:=lv.1 rH;rw[nk,hex]at hj;split at hj
   ·exact lh.1 hd o' (lT (i:=j) (by simpa using hj))
   ·cases hj) F os a w hrel (λe a' w'=>e=.normal/\SF F0 w0 w'/\wpAnyH P .any ops (Nc k Q F0 os0 w0) (SF F0 w0) f (qW.setIfInBounds i true) a' w') (by
   rintro e a' w' ⟨s',F',os',⟨rfl,hax⟩,ry,he'⟩;exact⟨rfl,(he.trans he').IX,hax.2 F0 os0 w0 F' os' a' w' ry (he.trans he')⟩)
 have hy:Region.wanted o (yielded (ops.extract 0 (i+1)) a.tmps)=Region.wanted o (yielded ops a.tmps):=by
  unfold Region.wanted;unfold Nu at hg;cases hgd:o.guard with
  | none=>rfl
  | some p=>
   obtain⟨j,want⟩:=p;rw[hgd]at hg;simp only[lq]at hg;simp only[yielded,hex,ld hg]
 unfold wpList at h1;unfold wpOp;simp only[ho];rw[hy]at h1;split at h1
 ·rename_i hw;rw[ld hw];rcases h1 with h1|⟨_,a1,w1,h1,_⟩
  ·refine .inl (Oper.wp_mono (λa' w' h'=>?_) (Ot (λc a' w' h'=>?_) (λh'=>?_) h1))
   ·exact h'.2
   ·exact nomatch h'.1
   ·obtain⟨_,_,h2,_⟩:=h';exact nomatch h2
  ·exact nomatch h1
 ·rename_i hw;rw[la hw];exact h1.2
theorem UH (i:Nat){v:AV}(hn:s.n=N)(ho:ops[i]?=some o)(hs:Region.noSelect ops=true)(hf:Region.free .any ops qW i=true)(hr:(Region.ready .any ops qW).contains i=true)(hd:DH s.n o.dst=true)(hh:Oe P s o v)
  (h:AY P k ops Q N f (qW.setIfInBounds i true) (s.put o.dst v)):AY P k ops Q N (f+1) qW s:=
 ⟨hn,λF0 os0 w0 F os a w hrel he=>by
  obtain⟨hg,hh⟩:=hh;obtain⟨u,hu,hv⟩:=hh F os a w hrel;refine wpAnyH_take ho hs hf hr (λc a w ⟨_,_,_,hp,_⟩=>nomatch hp.1) (.inl ⟨by unfold Region.wanted;rw[hg],λw' _=>hu w'⟩) he.IX ?_;exact h.2 F0 os0 w0 F os _ w (hrel.put hd hv) he⟩
def AZ (P:Program)(k:Nat)(ops:Array Oper)(Q:Exit->St->Prop)(N f:Nat)(qW:Array Bool)(s:St):Prop:=
 s.n=N/\∀F os a w,Rel F os s a w->wpAnyH P .any ops (Nc k Q F os w) (SF F w) f qW a w
theorem WL {f':Nat}(hf:f=f')(hl:qW=listed')(h:AZ P k ops Q N f' listed' s):AZ P k ops Q N f qW s:=hf▸hl▸h
theorem Vg (h:AY P k ops Q N f qW s):AZ P k ops Q N f qW s:=
 ⟨h.1,λF os a w hr=>h.2 F os w F os a w hr (Ext.refl F os w k)⟩
theorem P9 {id:Nat}(hm:P.follows .mixedOrders=true)(h:AZ P k ops Q s.n ops.size (Array.replicate ops.size false) s):AW P k (.region id ops true) Q s:=by
 intro F os a w hr;obtain⟨wy,he1⟩:=hr.drew (k:=k);refine oH (wp_region_held hm (h.2 F os a w.drew wy)) ?_;rintro e a' w' ⟨s',F',os',⟨rfl,hq⟩,h1,h2⟩;exact⟨s',F',os',hq,h1,he1.trans h2⟩
def QT (P:Program)(s:St)(o:Oper)(v:AV):Prop:=
 o.guard=none/\∀F os a w,Rel F os s a w->∃u,(∀w',SF F w w'->(execOp a.eval o).run P w'=.ok (.value u) w')/\Ae F w os v u
theorem E9 {v:AV}(h:Oe P s o v):QT P s o v:=⟨h.1,λF os a w hr=>let ⟨u,h1,h2⟩:=h.2 F os a w hr;⟨u,λw' _=>h1 w',h2⟩⟩
theorem DX (i:Nat){v:AV}(hn:s.n=N)(ho:ops[i]?=some o)(hs:Region.noSelect ops=true)(hf:Region.free .any ops qW i=true)(hr:(Region.ready .any ops qW).contains i=true)(hd:DH s.n o.dst=true)(hh:QT P s o v)
  (h:AZ P k ops Q N f (qW.setIfInBounds i true) (s.put o.dst v)):AZ P k ops Q N (f+1) qW s:=
 ⟨hn,λF os a w hrel=>by
  obtain⟨hg,hh⟩:=hh;obtain⟨u,hu,hv⟩:=hh F os a w hrel;refine wpAnyH_take ho hs hf hr (λc a w ⟨_,_,_,hp,_⟩=>nomatch hp.1) (.inl ⟨by unfold Region.wanted;rw[hg],hu⟩) (λ_ _=>rfl) ?_;exact h.2 F os _ w (hrel.put hd hv)⟩
end
section
variable {P : Program} {n : Nat} {e : Nat -> AV} {st : List Row} {t : Tmp} {ty : TypeId} {ps : String} {ed : Array Edge} {x : Operand}
theorem MW {off tr j f:Nat}{tt:TypeId}{cs:List AV}(hf:Hk P tt f=some j)(h:St.ev ⟨n,e,st⟩ x=.Bn cs off)(ho:off+j=tr):Oe P ⟨n,e,st⟩ ⟨some t,.fieldAddr tt x f,ty,ps,ed,none⟩ (.Bn cs tr):=
 ⟨rfl,λF os a w hr=>by
  subst ho;have h1:=hr.ev x;rw[h]at h1;unfold Hk at hf;split at hf<;>try (cases hf;done)
  rename_i fs hu;split at hf<;>try (cases hf;done)
  rename_i g1 hg;split at hf<;>try (cases hf;done)
  rename_i i1 hi;split at hf
  ·cases hf
  rename_i hz;simp only[lX]at hf;have rB:∀b off w',(Instr.fieldAt tt (.pointer (some ⟨b,off,none⟩)) f).run P w'=.ok (.pointer (some ⟨b,off+j,none⟩)) w':=λb off w'=>by
   simp[Instr.fieldAt,me hu,hg,Instr.sureAddr,fieldPlace,sizeOf,typeInfo,hi,hz,DK,hf]
  simp only[Ae]at h1;obtain⟨b,o',e2,hb,hc⟩:=h1;refine⟨.pointer (some ⟨b,o'+off+j,none⟩),λw'=>?_,?_⟩
  ·simp[execOp,e2,rB]
  ·simp only[Ae];exact⟨b,o',by rw[nS],hb,hc⟩⟩
theorem Ol {off sz:Nat}{tt:TypeId}{cs:List AV}{c:AV}(zV:Dr P tt=some (false,sz))(h:St.ev ⟨n,e,st⟩ x=.Bn cs off)(hc:cs[off]?=some c):QT P ⟨n,e,st⟩ ⟨some t,.load tt x,ty,ps,ed,none⟩ c:=
 ⟨rfl,λF os a w hr=>by
  have h1:=hr.ev x;rw[h]at h1;simp only[Ae]at h1;obtain⟨b,o',e2,hb,sa⟩:=h1;obtain⟨d,i,hud,hi,e1,e3⟩:=JD zV;obtain⟨u,hu1,sw,hu3⟩:=LP (os:=os) sa off c hc;refine⟨u,λw' zW=>?_,hu3⟩;have tQ:=K0 (w:=w') hud;rw[<- e1]at tQ;have rS:w'.cell? ⟨b,o'+off,none⟩=some u:=by rw[<- hu1];exact oB (zW b hb)
  simp[execOp,e2,Instr.loadAt,Instr.sureAddr,loadVar,tQ,rS]⟩
theorem UF {off sz:Nat}{tt:TypeId}{cs:List AV}{c:AV}(zV:Dr P tt=some (true,sz))(h:St.ev ⟨n,e,st⟩ x=.Bn cs off)(hl:off+sz<=cs.length)(hc:.agg ((cs.drop off).take sz)=c):QT P ⟨n,e,st⟩ ⟨some t,.load tt x,ty,ps,ed,none⟩ c:=
 ⟨rfl,λF os a w hr=>by
  subst hc;have h1:=hr.ev x;rw[h]at h1;simp only[Ae]at h1;obtain⟨b,o',e2,hb,sa⟩:=h1;obtain⟨d,i,hud,hi,e1,e3⟩:=JD zV;have hx:=LP (os:=os) sa;have hch:∃f:Nat->Value,∀j,j<sz->w.cell? ((⟨b,o'+off,none⟩:Addr).add j)=some (f j)/\∀c,cs[off+j]?=some c->Ae F w os c (f j):=
   ⟨λj=>(w.cell? ((⟨b,o'+off,none⟩:Addr).add j)).getD undef,λj hj=>by
    have qw:off+j<cs.length:=by omega
    obtain⟨u,hu1,_,sw⟩:=hx (off+j) cs[off+j] (lZ qw);have zX:w.cell? ((⟨b,o'+off,none⟩:Addr).add j)=some u:=by rw[DK,<- hu1,nS]
    simp only[zX,ng];refine⟨lU,λc hc=>?_⟩;rw[lZ qw,lX]at hc;exact hc▸sw⟩
  obtain⟨f,hf⟩:=hch;refine⟨.agg ((List.range sz).map f).toArray,λw' zW=>?_,?_⟩
  ·have tQ:=K0 (w:=w') hud;rw[<- e1]at tQ;have rC:(sizeOf tt).run P w'=.ok i.size w':=by simp[sizeOf,typeInfo,hi]
   have xT:=run_loadCells (P:=P) w' ⟨b,o'+off,none⟩ sz f (λj hj=>by
    rw[<- (hf j hj).1,DK];exact oB (zW b hb))
   simp only at e3;simp[execOp,e2,Instr.loadAt,Instr.sureAddr,loadVar,tQ,rC,<- e3,xT]
  ·simp only[Ae];refine⟨_,rfl,Db (by simp;omega) λj c u hc hu=>?_⟩;simp only[mJ,mU]at hc;split at hc
   ·rename_i hj;simp only[lW,nM hj,mZ,lX]at hu;subst hu;exact (hf j hj).2 c hc
   ·cases hc⟩
end
section
variable {P : Program} {k : Nat} {α : Type} {l : List α} {enc : α -> List AV}
variable {ops : Array Oper} {Q : Exit -> St -> Prop} {ds : List (Option Tmp)} {r : List Oper} {n : Nat} {e : Nat -> AV} {st st' : List Row} {ty : TypeId} {ps : String} {ed : Array Edge} {v : AV} {gd : Option (Nat × Bool)} {T : TypeId} {x y : Operand} {ag : Bool} {sz id g size off : Nat} {el : TypeId} {cs cs' : List AV} {c : α} {i : Int}
end
end Go.Abs
namespace Go.Abs
open Go
end Go.Abs
namespace Go.Abs
open Go
def TL (size:Nat):Nat->List (Nat×AV)->List (List AV)->Prop
 | _,[],[]=>True
 | k,(i,v)::r,c::cs=>i=k/\Kb v=some c/\c.length=size/\TL size (k+1) r cs
 | _,_,_=>False
theorem TL.len {size:Nat}:∀{k:Nat} {pv:List (Nat×AV)} {xE:List (List AV)},TL size k pv xE->pv.length=xE.length/\∀c∈xE,c.length=size
 | _,[],[],_=>⟨rfl,by simp⟩
 | k,(i,v)::r,c::cs,h=>by
  obtain⟨h1,h2⟩:=TL.len h.2.2.2;refine⟨by simp[h1],λx hx=>?_⟩;rcases lk.1 hx with rfl|hx
  ·exact h.2.2.1
  ·exact h2 x hx
theorem T9 {size:Nat}:∀(pv:List (Nat×AV)) (xE:List (List AV)) (k:Nat) (pre rest:List AV),pre.length=k*size->rest.length=pv.length*size->TL size k pv xE->Mg (λi=>some (i*size,size)) (pre++rest) pv=some (pre++xE.flatten)
 | [],[],k,pre,rest,_,h2,_=>by
  have:rest=[]:=mY (by simpa using h2);subst this;rfl
 | (i,v)::r,c::cs,k,pre,rest,h1,h2,h=>by
  obtain⟨rfl,hv,hc,hr⟩:=h;rw[mN,mM,Nat.one_mul]at h2;have qw:size<=rest.length:=by omega
  unfold Mg;simp only[hv];rw[ld ⟨hc,by rw[mD];omega⟩];have hs:HG (pre++rest) (i*size) c=(pre++c)++rest.drop size:=by
   unfold HG;rw[<- h1,List.take_left,hc,List.drop_append,nv (by omega),nJ,show pre.length+size-pre.length=size by omega]
  rw[hs,T9 r cs (i+1) (pre++c) (rest.drop size) (by rw[mD,mM];omega) (by rw[oE];omega) hr];simp
theorem UT {size:Nat}:∀(xE:List (List AV)),(∀c∈xE,c.length=size)->chunk size xE.length xE.flatten=xE
 | [],_=>rfl
 | c::cs,h=>by
  have hc:=h c (by simp);show (c++cs.flatten).take size::chunk size cs.length ((c++cs.flatten).drop size)=_;rw[<- hc,List.take_left,List.drop_left,hc,UT cs λx hx=>h x (by simp[hx])]
theorem AS {k n:Nat}{e:Nat->AV}{st st':List Row}{L:List (Nat×AV)}(sel:List Nat)(hk:sel.take k=List.range k)(sC:sel.Nodup)(qw:sel.all (·<st.length)=true)(hp:Cc st sel=st')(hs:SR sel st' st')(h:ME (λt=>KT sel (e t)) L):
  Wk k ⟨n,e,st⟩ ⟨n,Aa L,st'⟩:=LU sel hk sC qw hp hs h
section
variable {P : Program} {k : Nat} {α : Type} {l : List α} {enc : α -> List AV} {ops : Array Oper} {Q : Exit -> St -> Prop} {ds : List (Option Tmp)} {r : List Oper} {n : Nat} {e : Nat -> AV} {st st' : List Row} {ty : TypeId} {ps : String} {ed : Array Edge} {t : Tmp} {gd : Option (Nat × Bool)} {T : TypeId} {bytes size m : Nat} {el : TypeId} {zz : List AV}
theorem iW {len:Nat}{parts:Array (Nat×Operand)}{pv:List (Nat×AV)}(hg:GO ds gd e)(he:Ds P T=some ⟨el,size,bytes,zz⟩)(hle:len*size<=16777216)(hp:(parts.toList.map λp=>(p.1,St.ev ⟨n,e,st⟩ p.2))=pv)
  (hz:zz.length=size) (hf:TL size 0 pv (l.map enc)) (yb:len=l.length) (hm:st.length=m) (qz:st++[⟨0,el,size,l.map enc⟩]=st') (hk:AO P k ops Q (ds++[some t]) r ⟨n,EI e t (.own m 0 l.length),st'⟩) :
  AO P k ops Q ds (⟨some t,.buildSlice T len parts,ty,ps,ed,gd⟩::r) ⟨n,e,st⟩:=by
 obtain⟨h1,h2⟩:=hf.len;have hl:(l.map enc).length=len:=by rw[ly,yb]
 have ha:=T9 pv (l.map enc) 0 [] (List.replicate len zz).flatten (by simp) (by rw[h1,hl];simp[hz]) hf;rw[nJ,nJ]at ha;refine BF (cs:=(l.map enc).flatten) hg he hle hp ha ?_ yb hm qz hk;rw[<- hl];exact UT _ h2
end
end Go.Abs
namespace Go.Abs
open Go
section
variable {P : Program} {k : Nat} {ops : Array Oper} {Q : Exit -> St -> Prop} {ds : List (Option Tmp)} {r : List Oper} {n : Nat} {e : Nat -> AV} {st st' : List Row} {ty : TypeId} {ps : String} {ed : Array Edge} {gd : Option (Nat × Bool)} {T : TypeId} {x y : Operand} {size id g sz : Nat} {el : TypeId} {α : Type} {l : List α} {enc : α -> List AV} {c : α} {i : Int} {v : AV} {cs x0 : List AV} {ag : Bool}
end
end Go.Abs
namespace Go.Abs
open Go
structure MS where
 n:Nat
 e:Nat->AV
 x:Row
 z:List Row
def MS.st (R:List Row)(m:MS):St:=⟨m.n,m.e,m.x::(R++m.z)⟩
def MS.put (m:MS)(d:Option Tmp)(v:AV):MS:=match d with
 | some d=>{ m with e:=EI m.e d v }
 | none=>m
theorem Oq (R:List Row)(m:MS)(d:Option Tmp)(v:AV):(m.put d v).st R=(m.st R).put d v:=by cases d<;>rfl
theorem NN (m:MS)(d:Option Tmp)(v:AV):(m.put d v).x=m.x:=by cases d<;>rfl
theorem NO (m:MS)(d:Option Tmp)(v:AV):(m.put d v).z=m.z:=by cases d<;>rfl
theorem NL (m:MS)(d:Option Tmp)(v:AV):(m.put d v).n=m.n:=by cases d<;>rfl
def MS.ev (m:MS)(x:Operand):AV:=St.ev ⟨m.n,m.e,[]⟩ x
theorem UR (R:List Row)(m:MS)(x:Operand):(m.st R).ev x=m.ev x:=by cases x<;>rfl
inductive Kind where
 | q
 | l (x y:Row)
 | a (row:Row)
def Kind.D:Kind->Row->List Row->Prop
 | .q,_,_=>True
 | .l x0 _,x,_=>x=x0
 | .a _,_,z=>z=[]
def Kind.fx:Kind->Row->Row
 | .l _ y,_=>y
 | _,x=>x
def Kind.fz:Kind->List Row->List Row
 | .a row,_=>[row]
 | _,z=>z
def UU (o:Oper):Bool:=match o.op with
 | .call ⟨.value _,_,_⟩=>true
 | _=>false
def UW (o:Oper):Bool:=match o.op with
 | .alloc _=>true
 | _=>false
def Kind.fits:Kind->Oper->Prop
 | .q,_=>True
 | .l ..,o=>UU o=true
 | .a _,o=>UW o=true
def MS.go (m:MS)(kd:Kind):MS:=⟨m.n,m.e,kd.fx m.x,kd.fz m.z⟩
section
variable {P : Program} {k : Nat} {ops : Array Oper} {md : Region.Mode} {R : List Row}
def lN (P:Program)(k:Nat)(o:Oper)(s s':St):Prop:=
 ∀(F:Nat->Prop) (os:List Own) (a:Act) (w:World),Rel F os s a w->∀(next:Act->World->Prop) (Q:Exit->Act->World->Prop),
  (∀a' w',Step k s.n F os w (·=s') a' w'->next a' w')->o.wp P a w next Q
def cR (P:Program)(k:Nat)(R:List Row)(o:Oper)(n:Nat)(ev:Operand->AV)(kd:Kind)(v:AV):Prop:=
 ∀x z e,kd.D x z->(∀y∈o.op.operands,MS.ev ⟨n,e,x,z⟩ y=ev y)->DH n o.dst=true->lN P k o (MS.st R ⟨n,e,x,z⟩) (MS.st R ((MS.go ⟨n,e,x,z⟩ kd).put o.dst v))
def ke (P:Program)(k:Nat)(R:List Row)(o:Oper)(m m':MS):Prop:=
 ∃kd v,Kind.fits kd o/\kd.D m.x m.z/\m'=(m.go kd).put o.dst v/\cR P k R o m.n m.ev kd v
def MT (P:Program)(k:Nat)(R:List Row)(ops:Array Oper)(o:Oper)(m m':MS):Prop:=
 (Ff ops o (m.st R)=some true/\ke P k R o m m')∨(Ff ops o (m.st R)=some false/\m'=m.put o.dst .un)
def VV (P:Program)(k:Nat)(R:List Row)(ops:Array Oper)(i:Nat)(K:MS->Prop)(m:MS):Prop:=
 match ops[i]? with
 | none=>K m
 | some o=>∃m',MT P k R ops o m m'/\K m'
theorem Wu {m:MS}{d:Option Tmp}{v:AV}{x:Operand}(h :∀t,d=some t->x≠.tmp t):(m.put d v).ev x=m.ev x:=by
 cases d with
 | none=>rfl
 | some d=>
  cases x with
  | tmp t=>
   have rE:t≠d:=λe=>h d rfl (e▸rfl);simp[MS.ev,MS.put,St.ev,EI,rE]
  | _=>rfl
theorem MJ (m:MS){x y:Option Tmp}(v u:AV)(h :∀d,x=some d->y≠some d):(m.put x v).put y u=(m.put y u).put x v:=by
 cases x with
 | none=>rfl
 | some d=>
  cases y with
  | none=>rfl
  | some e=>
   have rE:d≠e:=λhe=>h d rfl (he▸rfl);simp only[MS.put,MS.mk.injEq,true_and,and_true];funext t;simp only[EI];by_cases h1:t=d
   ·subst h1;simp[rE]
   ·by_cases h2:t=e
    ·subst h2;simp[h1]
    ·simp[h1,h2]
theorem VA (m:MS)(kd:Kind)(d:Option Tmp)(v:AV):(m.put d v).go kd=(m.go kd).put d v:=by cases d<;>rfl
theorem VP {o:Oper}{m:MS}:Ff ops o (m.st R)=Ff ops o ⟨m.n,m.e,[]⟩:=rfl
theorem Hg {oi:Oper}{m:MS}{d:Option Tmp}{u:AV}{kd:Kind}(hd :∀t,d=some t->t ∉ oi.looksAt ops):Ff ops oi (((m.go kd).put d u).st R)=Ff ops oi (m.st R):=by
 rw[VP,VP];unfold Ff;cases hg:oi.guard with
 | none=>rfl
 | some p=>
  obtain⟨j,want⟩:=p;dsimp only;cases ht:(ops[j]?).bind (·.dst) with
  | none=>rfl
  | some t=>
   dsimp only;have:((m.go kd).put d u).e t=m.e t:=Wu (m:=m.go kd) (x:=.tmp t) λt' wx e=>hd t' wx (by
    cases e;exact nm _ (by simp[hg,ht]))
   rw[this]
theorem LM {oi:Oper}{m:MS}{d:Option Tmp}{u:AV}(hd :∀t,d=some t->t ∉ oi.looksAt ops):∀x∈oi.op.operands,(m.put d u).ev x=m.ev x:=λx hx=>
 Wu λt ht hxt=>hd t ht (by
  subst hxt;exact mf _ (mu.2 ⟨.tmp t,by simpa using hx,rfl⟩))
theorem cR.congr {o:Oper}{n:Nat}{ev ev':Operand->AV}{kd:Kind}{v:AV}(h:cR P k R o n ev kd v)(he :∀y∈o.op.operands,ev' y=ev y):cR P k R o n ev' kd v:=
 λx z e hD ho hd=>h x z e hD (λy hy=>(ho y hy).trans (he y hy)) hd
theorem ao {ki kj:Kind}{oi oj:Oper}(hi:ki.fits oi)(hj:kj.fits oj)(hf:¬ (UU oi=true/\UU oj=true))(ha:¬ (UW oi=true/\UW oj=true)){x:Row}{z:List Row}(h1:ki.D x z)(h2:kj.D (ki.fx x) (ki.fz z)):
  kj.D x z/\ki.D (kj.fx x) (kj.fz z)/\ki.fx (kj.fx x)=kj.fx (ki.fx x)/\ki.fz (kj.fz z)=kj.fz (ki.fz z):=by
 cases ki with
 | q=>exact⟨h2,lU,rfl,rfl⟩
 | l x0 y=>
  cases kj with
  | q=>exact⟨lU,h1,rfl,rfl⟩
  | l x1 y1=>exact absurd ⟨hi,hj⟩ hf
  | a row=>exact⟨h2,h1,rfl,rfl⟩
 | a row=>
  cases kj with
  | q=>exact⟨lU,h1,rfl,rfl⟩
  | l x1 y1=>exact⟨h2,h1,rfl,rfl⟩
  | a row1=>exact absurd ⟨hi,hj⟩ ha
theorem gC {oi oj:Oper}{m mi mij:MS}(hap:oi.apart ops oj=true)(hf:¬ (UU oi=true/\UU oj=true))(ha:¬ (UW oi=true/\UW oj=true))(hi:MT P k R ops oi m mi)(hj:MT P k R ops oj mi mij):
  ∃mj,MT P k R ops oj m mj/\MT P k R ops oi mj mij:=by
 obtain⟨h1,h2,h3⟩:=Oper.apart_spec hap;have hq:∀(m:MS),m.go .q=m:=λm=>rfl;rcases hi with ⟨wi,ki,vi,fi,di,rfl,gi⟩|⟨wi,rfl⟩<;>rcases hj with ⟨wj,kj,vj,fj,dj,rfl,gj⟩|⟨wj,rfl⟩
 ·rw[Hg h1]at wj;rw[NN,NO]at dj;obtain⟨e1,e2,e3,e4⟩:=ao fi fj hf ha di dj;refine⟨(m.go kj).put oj.dst vj,.inl ⟨wj,kj,vj,fj,e1,rfl,?_⟩,.inl ⟨by rw[Hg h3];exact wi,ki,vi,fi,by rw[NN,NO];exact e2,?_,?_⟩⟩
  ·rw[NL]at gj;exact gj.congr λy hy=>(LM (m:=m.go ki) (u:=vi) h1 y hy).symm
  ·rw[VA,VA,<- MJ _ vi vj h2];congr 2;simp only[MS.go,e3,e4]
  ·rw[NL];exact gi.congr λy hy=>LM (m:=m.go kj) h3 y hy
 ·rw[Hg h1]at wj;refine⟨m.put oj.dst .un,.inr ⟨wj,rfl⟩,.inl ⟨by have:=Hg (R:=R) (m:=m) (kd:=.q) (u:=.un) h3;rw[hq]at this;rw[this];exact wi,ki,vi,fi,by rw[NN,NO];exact di,?_,?_⟩⟩
  ·rw[VA,<- MJ _ vi .un h2]
  ·rw[NL];exact gi.congr λy hy=>LM h3 y hy
 ·have h5:=Hg (R:=R) (m:=m) (kd:=.q) (u:=.un) h1;rw[hq]at h5;rw[h5]at wj;rw[NN,NO]at dj;refine⟨(m.go kj).put oj.dst vj,.inl ⟨wj,kj,vj,fj,dj,rfl,?_⟩,.inr ⟨by rw[Hg h3];exact wi,?_⟩⟩
  ·rw[NL]at gj;exact gj.congr λy hy=>(LM h1 y hy).symm
  ·rw[VA,<- MJ _ .un vj h2]
 ·have h5:=Hg (R:=R) (m:=m) (kd:=.q) (u:=.un) h1;have h6:=Hg (R:=R) (m:=m) (kd:=.q) (u:=.un) h3;rw[hq]at h5 h6;rw[h5]at wj;exact⟨m.put oj.dst .un,.inr ⟨wj,rfl⟩,.inr ⟨by rw[h6];exact wi,by rw[<- MJ _ .un .un h2]⟩⟩
def anyM (P:Program)(k:Nat)(R:List Row)(md:Region.Mode)(ops:Array Oper)(n:Nat)(L:Array Bool->MS->Prop):Nat->Array Bool->MS->Prop
 | 0,qW,s=>L qW s
 | f+1,qW,s=>Region.ready md ops qW≠[]/\∀i∈Region.ready md ops qW,i<n/\VV P k R ops i (anyM P k R md ops n L f (qW.setIfInBounds i true)) s
theorem XV {F:Nat->Prop}{os:List Own}{a:Act}{w:World}{i:Nat}{K:MS->Prop}{m:MS}(rW :∀o∈ops.toList,DH m.n o.dst=true)(hr:Rel F os (m.st R) a w)(h:VV P k R ops i K m){next:Act->World->Prop}{Q:Exit->Act->World->Prop}
  (hn :∀a' w',Step k m.n F os w (λs=>∃m',s=m'.st R/\K m') a' w'->next a' w'):wpOp P ops Q i next a w:=by
 unfold VV at h;unfold wpOp;split
 ·rename_i ho;simp only[ho]at h;exact hn a w ⟨m.st R,F,os,rfl,⟨m,rfl,h⟩,hr,Ext.refl _ _ _ _⟩
 ·rename_i o ho;simp only[ho]at h;obtain⟨m',hy,hK⟩:=h;have vv:=rW o (by have:=lT (l:=ops.toList) (i:=i) (by simpa using ho);exact this);rcases hy with ⟨hw,kd,v,_,hD,rfl,hg⟩|⟨hw,rfl⟩
  ·rw[ld (NK hr rW hw)];refine .inl (hg m.x m.z m.e hD (λ_ _=>rfl) vv F os a w hr next Q ?_);rintro a' w' ⟨s',F',os',h1,rfl,h3,h4⟩;exact hn a' w' ⟨_,F',os',h1,⟨_,rfl,hK⟩,h3,h4⟩
  ·rw[la (by rw[NK hr rW hw];simp)];exact hn _ w ⟨_,F,os,by rw[Oq];cases o.dst<;>rfl,⟨_,rfl,hK⟩,by rw[Oq];exact hr.un vv,Ext.refl _ _ _ _⟩
theorem Px {n g N:Nat}{L:Array Bool->MS->Prop}{Q':Exit->Act->World->Prop}{F0:Nat->Prop}{os0:List Own}{w0:World}(rW :∀o∈ops.toList,DH N o.dst=true)
  (hL :∀qW (m:MS) F os a w,m.n=N->L qW m->Rel F os (m.st R) a w->Ext F0 os0 w0 F os w k->wpAny P md ops Q' g qW a w) :
  ∀(f:Nat) (qW:Array Bool) (m:MS) F os a w,m.n=N->anyM P k R md ops n L f qW m->Rel F os (m.st R) a w->Ext F0 os0 w0 F os w k->wpAny P md ops Q' (f+g) qW a w
 | 0,qW,s,F,os,a,w,hn,h,hr,he=>by rw[ml];exact hL _ _ _ _ _ _ hn h hr he
 | f+1,qW,s,F,os,a,w,hn,h,hr,he=>by
  rw[show f+1+g=(f+g)+1 by omega];refine⟨λh0=>absurd h0 h.1,λi hi=>?_⟩;refine XV (k:=k) (by rw[hn];exact rW) hr (h.2 i hi).2 ?_;rintro a' w' ⟨s',F',os',h1,⟨m',rfl,h2⟩,h3,h4⟩;exact Px rW hL f _ m' F' os' a' w' (by rw[<- hn];exact h1) h2 h3 (he.trans h4)
def I3 (ops:Array Oper)(i:Nat):Bool:=match ops[i]? with|some o=>UU o|none=>false
def QU (ops:Array Oper)(i:Nat):Bool:=match ops[i]? with|some o=>UW o|none=>false
def gZ (md:Region.Mode)(ops:Array Oper)(j i:Nat):Bool:=match ops[j]? with|some o=>o.after.any λe=>Region.binds md e&&e.on==i|none=>false
def RT (md:Region.Mode)(ops:Array Oper)(n:Nat):Bool:=
 (List.range n).all λj=>(List.range j).all λi=>(!(QU ops i&&QU ops j))&&(!(I3 ops i&&I3 ops j) || ((List.range j).any λm=>decide (i<m)&&I3 ops m) || gZ md ops j i)
theorem Pj {n:Nat}(h:RT md ops n=true){i j:Nat}(vV:i<j)(hj:j<n):¬ (QU ops i=true/\QU ops j=true)/\
  (I3 ops i=true->I3 ops j=true->(∃m,i<m/\m<j/\I3 ops m=true)∨∀oj,ops[j]?=some oj->∃e∈oj.after,Region.binds md e=true/\e.on=i):=by
 unfold RT at h;have h1:=lh.1 (lh.1 h j (na.2 hj)) i (na.2 vV);rw[mE]at h1;refine⟨λ⟨a,b⟩=>?_,λa b=>?_⟩
 ·simp[a,b]at h1
 ·have h2:=h1.2;simp only[a,b,pU,nA,Bool.false_or,Bool.or_eq_true,oC,na,mE,lq]at h2;rcases h2 with ⟨m,hm,h3,h4⟩|h2
  ·exact .inl ⟨m,h3,hm,h4⟩
  ·refine .inr λoj tF=>?_;simp only[gZ,tF,Array.any_eq_true']at h2;obtain⟨e,he,hb⟩:=h2;simp only[mE,beq_iff_eq]at hb;exact⟨e,he,hb⟩
theorem Yi {n:Nat}(h:RT md ops n=true){qW:Array Bool}(inv:HeadInv md ops n qW):∀(d i j:Nat),j-i=d->i<j->j<n->I3 ops i=true->I3 ops j=true->
  qW.getD j false=true->qW.getD i false=true:=by
 intro d
 induction d using Nat.strongRecOn with
 | _ d ih=>
  intro i j hd vV hj hi zY hl;rcases (Pj h vV hj).2 hi zY with ⟨m,h1,h2,h3⟩|h1
  ·have hm:=ih (j-m) (by omega) m j rfl h2 hj h3 zY hl;exact ih (m-i) (by omega) i m rfl h1 (by omega) hi h3 hm
  ·obtain⟨oj,tF⟩ :∃oj,ops[j]?=some oj:=by
    unfold I3 at zY;split at zY
    ·rename_i o ho;exact⟨o,ho⟩
    ·cases zY
   obtain⟨e,he,hb,rfl⟩:=h1 oj tF;exact inv.closed j oj tF hl e he hb
theorem ZT {n:Nat}(h:RT md ops n=true){qW:Array Bool}(inv:HeadInv md ops n qW){i j:Nat}(vV:i<j)(hj:j<n)(hi:I3 ops i=true)(zY:I3 ops j=true)
  (hr:j∈Region.ready md ops qW):qW.getD i false=true:=by
 obtain⟨_,oj,tF,rp⟩:=oR.1 hr;have key:∀(d i:Nat),j-i=d->i<j->I3 ops i=true->qW.getD i false=true:=by
  intro d
  induction d using Nat.strongRecOn with
  | _ d ih=>
   intro i hd vV hi;rcases (Pj h vV hj).2 hi zY with ⟨m,h1,h2,h3⟩|h1
   ·exact Yi h inv _ i m rfl h1 (by omega) hi h3 (ih (j-m) (by omega) m rfl h2 h3)
   ·obtain⟨e,he,hb,rfl⟩:=h1 oj tF;exact rp e he hb
 exact key _ i rfl vV hi
theorem Z7 {n i:Nat}{oi:Oper}{L:Array Bool->MS->Prop}(yj:RT md ops n=true)(hi:ops[i]?=some oi)
  (sE :∀qW,HeadInv md ops n qW->∀i,i<n->qW.getD i true=false->∀t,n<=t->t ∉ Region.ready md ops qW) (re:i<n)
  (uw :∀qW s,L qW s->∀j∈Region.ready md ops qW,n<=j) :
  ∀(f:Nat) (qW:Array Bool) (m mi:MS),HeadInv md ops n qW->(∀j,j<i->qW.getD j true=true)->
   (∀j oj,ops[j]?=some oj->j≠i->qW.getD j true=false->(∀e∈oj.after,Region.binds md e=true->e.on≠i)->oi.apart ops oj=true)->
   i∈Region.ready md ops qW->MT P k R ops oi m mi->
   anyM P k R md ops n L f (qW.setIfInBounds i true) mi->anyM P k R md ops n L (f+1) qW m:=by
 have tS:∀{K:MS->Prop} {m mi:MS},MT P k R ops oi m mi->K mi->VV P k R ops i K m:=λ{K m mi} hy h=>by
  unfold VV;simp only[hi];exact⟨mi,hy,h⟩
 intro f
 induction f with
 | zero=>
  intro qW m mi inv wA _ hr hy H;have sf:=(oR.1 hr).1;refine⟨λh=>(by rw[h]at hr;cases hr),λj hj=>?_⟩;have wP:j<n:=by
   rcases nb j n with h|h
   ·exact h
   ·exact absurd hj (sE _ inv i re sf j h)
  refine⟨wP,?_⟩;by_cases sb:j=i
  ·subst sb;exact tS hy H
  ·have:=uw _ _ H j (oP hj sb);omega
 | succ f ih=>
  intro qW m mi inv wA tE hr hy H;have sf:=(oR.1 hr).1;refine⟨λh=>(by rw[h]at hr;cases hr),λj hj=>?_⟩;have wP:j<n:=by
   rcases nb j n with h|h
   ·exact h
   ·exact absurd hj (sE _ inv i re sf j h)
  refine⟨wP,?_⟩;by_cases sb:j=i
  ·subst sb;exact tS hy H
  ·have h1:=(H.2 j (oP hj sb)).2;obtain⟨tp,oj,tF,rp⟩:=oR.1 hj;have vw:∀e∈oj.after,Region.binds md e=true->e.on≠i:=λe he hb heq=>by
    have h1:=rp e he hb;rw[heq,getD_both sf]at h1;cases h1
   have qw:i<j:=by
    rcases nG i j with h|h|h
    ·exact h
    ·exact absurd h.symm sb
    ·have:=wA j h;rw[tp]at this;cases this
   have hfn:¬ (UU oi=true/\UU oj=true):=λ⟨h1,h2⟩=>by
    have:=ZT yj inv qw wP (by simp[I3,hi,h1]) (by simp[I3,tF,h2]) hj;rw[getD_both sf]at this;cases this
   have wV:¬ (UW oi=true/\UW oj=true):=λ⟨h1,h2⟩=>
    (Pj yj qw wP).1 ⟨by simp[QU,hi,h1],by simp[QU,tF,h2]⟩
   unfold VV at h1;simp only[tF]at h1;obtain⟨mij,hmt,hK⟩:=h1;obtain⟨mj,g1,g2⟩:=gC (tE j oj tF sb tp vw) hfn wV hy hmt;unfold VV;simp only[tF];refine⟨mj,g1,ih (qW.setIfInBounds j true) mj mij (inv.set hj wP) (λq hq=>?_) ?_ (oP hr (nK sb)) g2 ?_⟩
   ·rw[pD true (by omega)];exact wA q hq
   ·intro k ok hk zL sf hno;refine tE k ok hk zL ?_ hno;by_cases hjk:j=k
    ·subst hjk;exact tp
    ·rw[pD true hjk]at sf;exact sf
   ·rw[oU _ _ sb];exact hK
def Kt (P:Program)(k:Nat)(R:List Row):List (Option Tmp)->List Oper->(MS->Prop)->MS->Prop
 | _,[],K,m=>K m
 | ds,o::r,K,m=>I2 ds o (m.st R) (∃m',ke P k R o m m'/\Kt P k R (ds++[o.dst]) r K m') (Kt P k R (ds++[o.dst]) r K (m.put o.dst .un))
theorem YD {n g:Nat}{K:MS->Prop}(yj:RT md ops n=true)(sE :∀qW,HeadInv md ops n qW->∀i,i<n->qW.getD i true=false->∀t,n<=t->t ∉ Region.ready md ops qW):
  ∀(l:List Oper) (ds:List (Option Tmp)) (qW:Array Bool) (m:MS),(∀(j:Nat),j<l.length->l[j]?=ops[ds.length+j]?)->(∀(j:Nat) d,ds[j]?=some d->(ops[j]?).map (·.dst)=some d)->ds.length+l.length=n->HeadInv md ops n qW->
  (∀j,j<ds.length->qW.getD j true=true)->
  Region.lexHead md ops g l.length ds.length qW=true->Kt P k R ds l K m->
  anyM P k R md ops n (λlisted' s'=>Region.seqB md ops g n listed'=true/\K s') l.length qW m
 | [],ds,qW,s,_,_,hk,_,_,hB,h=>by
  have:ds.length=n:=by simpa using hk
  subst this;exact⟨by simpa [Region.lexHead] using hB,h⟩
 | o::l,ds,qW,s,hl,uK,hk,inv,wA,hB,h=>by
  have h0:ops[ds.length]?=some o:=by simpa using (hl 0 (by simp)).symm
  simp only[mN,Region.lexHead,mE]at hB;obtain⟨⟨hr,hf⟩,hB'⟩:=hB;have hkn:ds.length<n:=by simp only[mN]at hk;omega
  have ry:ds.length∈Region.ready md ops qW:=by simpa using hr
  have uz :∀(j:Nat) d,(ds++[o.dst])[j]?=some d->(ops[j]?).map (·.dst)=some d:=λj d hj=>by
   rcases nG j ds.length with h1|h1|h1
   ·rw[lj h1]at hj;exact uK j d hj
   ·subst h1;rw[J0,lX]at hj;rw[h0];simp[hj]
   ·rw[mV (by simp;omega)]at hj;cases hj
  have hlow' :∀j,j<(ds++[o.dst]).length->(qW.setIfInBounds ds.length true).getD j true=true:=λj hj=>by
   simp only[mD,mN,nD]at hj;by_cases hjd:ds.length=j
   ·subst hjd;rcases nb ds.length qW.size with h5|h5
    ·simp[h5]
    ·simp[od h5]
   ·rw[pD true hjd];exact wA j (by omega)
  have rz:∀s',Kt P k R (ds++[o.dst]) l K s'->anyM P k R md ops n (λlisted' s'=>Region.seqB md ops g n listed'=true/\K s') l.length (qW.setIfInBounds ds.length true) s':=λs' hs'=>
   YD yj sE l (ds++[o.dst]) _ s' (λj hj=>by
    have:=hl (j+1) (by simp;omega);simp only[mQ]at this;rw[this];congr 1;simp;omega) uz (by simp only[mN,mD,nD]at hk⊢;omega) (inv.set ry hkn) hlow' (by simpa using hB') hs'
  have tT:∀m',MT P k R ops o s m'->Kt P k R (ds++[o.dst]) l K m'->anyM P k R md ops n (λlisted' s'=>Region.seqB md ops g n listed'=true/\K s') (l.length+1) qW s:=λm' hy hK=>
   Z7 yj h0 sE hkn (λlisted' s' hL=>seqB_ready hL.1) l.length qW s m' inv wA (pb h0 hf) ry hy (rz _ hK)
  simp only[Kt]at h;rcases WJ uK h with ⟨hw,m',h1,h2⟩|⟨hw,h1⟩
  ·exact tT m' (.inl ⟨hw,h1⟩) h2
  ·exact tT _ (.inr ⟨hw,rfl⟩) h1
theorem Bi {id n:Nat}{e:Nat->AV}{x:Row}{Q:Exit->St->Prop}(R:List Row)(m:Nat)(hm:P.follows .mixedOrders=true)(hB:Region.lexTailB .any ops m=true)(hw:RT .any ops m=true)(hd:(ops.toList.all λo=>DH n o.dst)=true)
  (h:Kt P k R [] (ops.toList.take m) (λs'=>AO P k ops Q ((ops.toList.take m).map (·.dst)) (ops.toList.drop m) (s'.st R)) ⟨n,e,x,[]⟩):AW P k (.region id ops true) Q ⟨n,e,x::R⟩:=by
 simp only[Region.lexTailB,mE,lq]at hB;obtain⟨⟨⟨⟨_,hn⟩,hs⟩,hc⟩,hlex⟩:=hB;intro F os a w hr;have hr0:Rel F os (MS.st R ⟨n,e,x,[]⟩) a w:=by simpa [MS.st] using hr
 obtain⟨wy,he1⟩:=hr0.drew (k:=k);refine pV hm ?_;have uL:(ops.toList.take m).length=m:=by simp;omega
 have hdl:(ops.toList.drop m).length=ops.size-m:=by simp
 have H:=YD (md:=.any) (ops:=ops) (n:=m) (g:=ops.size-m) (k:=k) (R:=R) (P:=P) (K:=λs'=>AO P k ops Q ((ops.toList.take m).map (·.dst)) (ops.toList.drop m) (s'.st R)) hw
  (λqW inv i hi sf t ht=>tail_waits hs hc hn inv _ i rfl hi sf t ht) (ops.toList.take m) [] _ _ (λj hj=>by
   rw[uL]at hj;rw[mJ,ld hj];simp) (by simp) (by simpa using uL) (Tu _) (by simp) (by rw[uL];exact hlex) h
 have:=Px (k:=k) (g:=ops.size-m) (N:=n) (R:=R) (Q':=KN k Q F os w) (F0:=F) (os0:=os) (w0:=w) (λo ho=>lh.1 hd o ho) (λqW s' F' os' a' w' hn' hL ry he=>by
  have h1:=hL.2 (λj=>by
    rw[ly,uL,mU];simp) (λj d hj=>by
    simp only[lW,mJ]at hj;split at hj
    ·simpa using hj
    ·cases hj) (by show∀o∈ops.toList,DH s'.n o.dst=true;rw[hn'];exact λo ho=>lh.1 hd o ho) F' os' a' w' ry (KN k Q F os w) λ_ _ _ hp=>KN.trans he hp
  have h2:=wpAny_of_seq (md:=.any) (Q':=KN k Q F os w) (ops.toList.drop m) m qW a' w' (λj=>by simp[mU]) (by rw[hdl];exact hL.1) h1;rwa [hdl]at h2) _ _ _ F os a w.drew rfl H wy he1
 rw[uL,show m+(ops.size-m)=ops.size by omega]at this;exact this
end
section
variable {P : Program} {k : Nat} {R : List Row} {ds : List (Option Tmp)} {r : List Oper} {K : MS -> Prop} {n : Nat} {e : Nat -> AV} {x0 : Row} {z0 : List Row} {t : Tmp} {op : Op} {ty : TypeId} {ps : String} {ed : Array Edge} {gd : Option (Nat × Bool)} {v : AV}
theorem GO.elim {o:Oper}{A B:Prop}{s:St}(hg:GO ds gd s.env)(ho:o.guard=gd)(h:I2 ds o s A B):A:=by
 unfold I2 at h;rw[ho]at h;cases gd with
 | none=>exact h
 | some q=>
  obtain⟨jj,want⟩:=q;obtain⟨tg,hj,ht⟩:=hg;simp only[hj,ht,Z9]at h;exact h.1 rfl
theorem FX (hg:GO ds gd e)(h :∀x z,D7 P ds [⟨some t,op,ty,ps,ed,gd⟩] (λs'=>s'.env t=v) ⟨n,e,x::(R++z)⟩)(hk:Kt P k R (ds++[some t]) r K ⟨n,EI e t v,x0,z0⟩):
  Kt P k R ds (⟨some t,op,ty,ps,ed,gd⟩::r) K ⟨n,e,x0,z0⟩:=by
 refine GO.guard (e:=e) hg ⟨_,⟨.q,v,lU,lU,rfl,?_⟩,hk⟩;intro x z e' _ ho hd F os a w hr next Q hn
 have h1:=h x z;unfold D7 at h1;have h2:=GO.elim (s:=⟨n,e,x::(R++z)⟩) hg rfl h1;obtain⟨v',hv,h3⟩:=Wv h2;have hvv:v'=v:=by simpa [D7,St.put,EI] using hv
 subst hvv;have h4:LI P ⟨some t,op,ty,ps,ed,gd⟩ (MS.st R ⟨n,e',x,z⟩) (·=v'):=OY (s:=⟨n,e,x::(R++z)⟩) rfl (λy hy=>by
  have:=ho y hy;rw[UR,this];cases y<;>rfl) h3
 exact Xx (k:=k) hr hd h4 (by rw[Oq]at hn;exact hn)
theorem E1 {K':St->Prop}{st:List Row}(qz:x0::(R++z0)=st)(h:K' ⟨n,e,st⟩):Kt P k R ds [] (λm=>K' (m.st R)) ⟨n,e,x0,z0⟩:=by
 subst qz;exact h
theorem aM {T:TypeId}{zz:List AV}{m:Nat}(hz:ID P T=some zz)(hm:R.length+1=m)(hk:Kt P k R (ds++[some t]) r K ⟨n,EI e t (.ptr m 0 0 0),x0,[⟨0,T,zz.length,[zz]⟩]⟩):
  Kt P k R ds (⟨some t,.alloc T,ty,ps,ed,none⟩::r) K ⟨n,e,x0,[]⟩:=by
 subst hm;refine⟨_,⟨.a ⟨0,T,zz.length,[zz]⟩,.ptr (R.length+1) 0 0 0,rfl,rfl,rfl,?_⟩,hk⟩;intro x z e' hz0 ho hd F os a w hr next Q hn
 have hz0:z=[]:=hz0;subst hz0;refine LC (k:=k) (K:=(·=MS.st R ((MS.go ⟨n,e',x,[]⟩ (.a ⟨0,T,zz.length,[zz]⟩)).put (some t) (.ptr (R.length+1) 0 0 0)))) hr hd ?_ hn;refine Aq _ hz ?_;simp[MS.st,MS.go,MS.put,St.put,Kind.fx,Kind.fz]
theorem T4 {sel:List Nat}{A z:List Row}(h:sel.all (·<A.length)=true):Cc (A++z) sel=Cc A sel:=by
 unfold Cc
 induction sel with
 | nil=>rfl
 | cons i l ih=>
  simp only[ns,mE,lq]at h;rw[nX,nX,lj h.1,ih h.2]
theorem Uu {sel:List Nat}{rs A z:List Row}(h:sel.all (·<A.length)=true):GC sel rs 0 (A++z)=GC sel rs 0 A++z:=by
 apply nO;intro i;rw[MC,ml];by_cases hi:i<A.length
 ·rw[lj hi,lj (by rw[J5];exact hi),MC,ml]
 ·rw[ln (by omega),ln (by rw[J5];omega),J5];have hx:idx sel i=none:=by
   cases hx:idx sel i with
   | none=>rfl
   | some p=>
    have:=lT (Nt hx);have:=lh.1 h i this;simp at this;omega
  rw[hx];cases z[i-A.length]?<;>rfl
theorem ff {f:FuncId}{ri:Array Operand}{ts:Array TypeId}{args rJ:List AV}{rowsP rows0 rows1 rows1':List Row}{v v':AV}{y0:Row}(sel:List Nat)(hg:GO ds gd e)(hb:Dq P f=true)(hc:Ab P f rJ rows0 λr st=>r=v/\st=rows1)(ha:ri.toList.map (St.ev ⟨n,e,[]⟩)++[]=args)(sC:sel.Nodup)(qw:sel.all (·<R.length+1)=true)
  (hp:Cc (x0::R) sel=rowsP) (hs:SR sel rowsP rows0) (hf:args.map (KT sel)=rJ) (hlen:rows1.length=sel.length) (h1 :∀N,UN sel N rows1 rows1') (hv :∀N,T1 sel N v=v') (sV:GC sel rows1' 0 (x0::R)=y0::R)
  (hk:Kt P k R (ds++[some t]) r K ⟨n,EI e t v',y0,z0⟩):Kt P k R ds (⟨some t,.call ⟨.value (.func f),ri,ts⟩,ty,ps,ed,gd⟩::r) K ⟨n,e,x0,z0⟩:=by
 subst ha;subst hp;refine GO.guard (e:=e) hg ⟨_,⟨.l x0 y0,v',rfl,rfl,rfl,?_⟩,hk⟩;intro x z e' hx ho hd F os a w hr next Q hn
 have hx:x=x0:=hx;subst hx;refine LC (k:=k) (K:=(·=MS.st R ((MS.go ⟨n,e',x,z⟩ (.l x y0)).put (some t) v'))) hr hd ?_ hn;show Dq P f=true/\callThen P k (MS.st R ⟨n,e',x,z⟩) f (ri.toList.map (MS.st R ⟨n,e',x,z⟩).ev++[]) (some t) _;have hev:ri.toList.map (MS.st R ⟨n,e',x,z⟩).ev=ri.toList.map (St.ev ⟨n,e,[]⟩):=S9 (f:=f) (ts:=ts) (s0:=MS.st R ⟨n,e',x,z⟩) (s1:=⟨n,e,[]⟩) λy hy=>by rw[UR];exact ho y hy
 rw[hev];refine⟨hb,Kl λhle=>?_⟩;have tZ:(MS.st R ⟨n,e',x,z⟩).st=(x::R)++z:=rfl;have zZ:sel.all (·<(x::R).length)=true:=by simpa using qw
 have yk:Cc (MS.st R ⟨n,e',x,z⟩).st sel=Cc (x::R) sel:=by rw[tZ];exact T4 zZ
 obtain⟨e1,e3⟩:=hs.spec (st0:=(MS.st R ⟨n,e',x,z⟩).st) hle (λrow qc=>by
  rw[<- yk]at qc;obtain⟨i,_,hi⟩:=mu.1 qc;exact lT hi)
 refine LN (rows2:=[]) sel (by simpa using hc) sC (λi hi=>by
   have:=lh.1 zZ i hi;rw[tZ,mD];simp only[lq]at this;omega) (by rw[yk];exact e1) e3 hf hlen (λrow qc=>by
  rw[mn]at qc;exact (h1 _).leaf row qc) λ_=>?_
 rw[(h1 _).spec,hv,tZ,Uu zZ,sV];simp[MS.st,MS.go,MS.put,St.put,Kind.fx,Kind.fz]
end
end Go.Abs
namespace Go.Abs
open Go
def jJ (e:Nat->AV):List (Nat×AV)->List AV
 | []=>[]
 | (t,_)::r=>e t::jJ e r
def jr:List (Nat×AV)->List AV
 | []=>[]
 | (_,v)::r=>v::jr r
theorem ME.same {e:Nat->AV}:∀{L:List (Nat×AV)},jJ e L=jr L->ME e L
 | [],_=>trivial
 | (t,v)::r,h=>by
  simp only[jJ,jr,oI]at h;obtain⟨h1,h2⟩:=h;subst h1;exact⟨.rfl,ME.same h2⟩
section
variable {P : Program} {k : Nat} {R : List Row} {ds : List (Option Tmp)} {r : List Oper} {K : MS -> Prop} {n : Nat} {e : Nat -> AV} {x0 : Row} {z0 : List Row} {t : Tmp} {op : Op} {ty : TypeId} {ps : String} {ed : Array Edge} {gd : Option (Nat × Bool)}
theorem BN (v:AV)(hg:GO ds gd e)(hl:J3 op=false)(hq :∀x z,AQ P ⟨n,e,x::(R++z)⟩ op v)(hk:Kt P k R (ds++[some t]) r K ⟨n,EI e t v,x0,z0⟩):
  Kt P k R ds (⟨some t,op,ty,ps,ed,gd⟩::r) K ⟨n,e,x0,z0⟩:=
 FX hg (λx z=>IN hg hl (hq x z) (Aw (by simp[EI]))) hk
theorem Gm {f:FuncId}{ri:Array Operand}{ts:Array TypeId}{args rJ:List AV}{rows0 rows1:List Row}{v v':AV}{y0:Row}(sel:List Nat)(hg:GO ds gd e)(hb:Dq P f=true)(hc:Ab P f rJ rows0 λr st=>r=v/\st=rows1)(ha:ri.toList.map (St.ev ⟨n,e,[]⟩)++[]=args)(sC:sel.Nodup)(qw:sel.all (·<R.length+1)=true)
  (hp:Cc (x0::R) sel=rows0) (hs:SR sel rows0 rows0) (hf:args.map (KT sel)=rJ) (hlen:rows1.length=sel.length) (h1 :∀N,UN sel N rows1 rows1) (hv :∀N,T1 sel N v=v') (sV:GC sel rows1 0 (x0::R)=y0::R)
  (hk:Kt P k R (ds++[some t]) r K ⟨n,EI e t v',y0,z0⟩):Kt P k R ds (⟨some t,.call ⟨.value (.func f),ri,ts⟩,ty,ps,ed,gd⟩::r) K ⟨n,e,x0,z0⟩:=
 ff sel hg hb hc ha sC qw hp hs hf hlen h1 hv sV hk
end
section
variable {P : Program} {k : Nat} {s : St} {ops : Array Oper} {Q : Exit -> St -> Prop} {ds : List (Option Tmp)} {r : List Oper} {n : Nat} {e : Nat -> AV} {st st' : List Row} {ty : TypeId} {ps : String} {ed : Array Edge} {d : Option Tmp} {v v' : AV} {gd : Option (Nat × Bool)}
variable {f : FuncId} {ri : Array Operand} {ts : Array TypeId} {args rJ : List AV} {rows0 rows1 : List Row}
theorem CN (sel:List Nat)(hg:GO ds gd e)(hb:Dq P f=true)(hc:Ab P f rJ rows0 λr st=>r=v/\st=rows1)(ha:ri.toList.map (St.ev ⟨n,e,st⟩)++[]=args)(sC:sel.Nodup)(qw:sel.all (·<st.length)=true)
  (hp:Cc st sel=rows0) (hs:SR sel rows0 rows0) (hf:args.map (KT sel)=rJ) (hlen:rows1.length=sel.length) (h1:UN sel st.length rows1 rows1) (h2:UN sel st.length [] []) (hv:T1 sel st.length v=v') (sV:GC sel rows1 0 st=st')
  (hk:AO P k ops Q (ds++[d]) r (St.put ⟨n,e,st'⟩ d v')):AO P k ops Q ds (⟨d,.call ⟨.value (.func f),ri,ts⟩,ty,ps,ed,gd⟩::r) ⟨n,e,st⟩:=
 GH (rows2:=[]) (rows2':=[]) sel hg hb (by simpa using hc) ha sC qw hp hs hf hlen h1 h2 hv (by simpa using sV) hk
end
def kR:Nat->Nat->List Bool
 | 0,_=>[]
 | n+1,m=>(m % 2==1)::kR n (m / 2)
def bm (n m:Nat):Array Bool:=⟨kR n m⟩
end Go.Abs
