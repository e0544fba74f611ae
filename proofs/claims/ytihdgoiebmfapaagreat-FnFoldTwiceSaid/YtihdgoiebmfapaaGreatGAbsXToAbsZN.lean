import Derived.Test.YtihdgoiebmfapaaGreatAbsW
import Derived.Lib.AppendZerosOnto
import Derived.OrdersHeld
set_option linter.all false
namespace Go.Abs
open Go
def PO:AV->Bool
 | .int ..|.bool _|.str _|.zc|.Qm|.Qb|.dv ..=>true
 | _=>false
def Sy (xs:List (List AV)):Prop:=∀x∈xs,∀c∈x,PO c=true
theorem Xr {F S:Nat->Prop}{w:World}{os:List Own}{c:AV}{u:Value}(hc:PO c=true)(hd :∀e s ys,c≠.dv e s ys)(h:Ae F w os c u):ES S w c u:=by
 cases c<;>simp only[PO,jk]at hc<;>simp only[Ae]at h<;>simp only[ES]<;>first|exact h|exact absurd rfl (hd _ _ _)
theorem N5 {F S:Nat->Prop}{w:World}{os:List Own}{c:AV}{u:Value}(h:ES S w c u):Ae F w os c u/\c.kept=true/\PO c=true:=by
 cases c<;>simp only[ES]at h
 case dv=>
  refine⟨?_,rfl,rfl⟩;simp only[Ae];rcases h.2 with ⟨_,a,rfl⟩|⟨b,cap,cur,rfl,_⟩<;>exact⟨_,_,_,rfl⟩
 all_goals first|exact h.elim|exact⟨by simp only[Ae];exact h,rfl,rfl⟩
theorem XJ {w:World}{cur:Array Value}{D:Nat->Nat->Prop}(qC :∀j j' b,D j b->D j' b->j=j'):∀(x:List AV) (o j0:Nat),(∀(j:Nat) c,x[j]?=some c->∃u,cur[o+j]?=some u/\ES (D (j0+j)) w c u)->
  Kj (λb=>∃j,j0<=j/\D j b) w x cur o
 | [],_,_,_=>by simp[Kj]
 | c::r,o,j0,h=>by
  simp only[Kj];obtain⟨u,h1,h2⟩:=h 0 c rfl;refine⟨D j0,λb=>∃j,j0+1<=j/\D j b,λb hb=>⟨j0,jv _,hb⟩,λb ⟨j,hj,hb⟩=>⟨j,by omega,hb⟩,λb hb ⟨j,hj,pX⟩=>by have:=qC _ _ _ hb pX;omega,⟨u,h1,h2⟩,?_⟩;exact XJ qC r (o+1) (j0+1) λj c hc=>by
   obtain⟨u,h1,h2⟩:=h (j+1) c (by simpa using hc);exact⟨u,by rw[<- h1];congr 1;omega,by rw[show j0+1+j=j0+(j+1) by omega];exact h2⟩
theorem W0 {w:World}{cur:Array Value}{size:Nat}{D:Nat->Nat->Nat->Prop}(qC :∀i j i' j' b,D i j b->D i' j' b->i=i'/\j=j'):∀(xs:List (List AV)) (o i0:Nat),(∀x∈xs,x.length=size)->
  (∀(i:Nat) x,xs[i]?=some x->∀(j:Nat) c,x[j]?=some c->∃u,cur[o+i*size+j]?=some u/\ES (D (i0+i) j) w c u)->Kh (λb=>∃i j,i0<=i/\D i j b) w xs cur o
 | [],_,_,_,_=>by simp[Kh]
 | x::r,o,i0,hs,h=>by
  simp only[Kh];refine⟨λb=>∃j,0<=j/\D i0 j b,λb=>∃i j,i0+1<=i/\D i j b,λb ⟨j,_,hb⟩=>⟨i0,j,jv _,hb⟩,λb ⟨i,j,hi,hb⟩=>⟨i,j,by omega,hb⟩,λb ⟨j,_,hb⟩ ⟨i,j',hi,pX⟩=>by have:=(qC _ _ _ _ _ hb pX).1;omega,?_,?_⟩
  ·exact XJ (D:=D i0) (λj j' b h1 h2=>(qC _ _ _ _ _ h1 h2).2) x o 0 λj c hc=>by
    obtain⟨u,h1,h2⟩:=h 0 x rfl j c hc;exact⟨u,by rw[<- h1];congr 1;omega,by simpa using h2⟩
  ·rw[hs x (by simp)];exact W0 qC r (o+size) (i0+1) (λx hx=>hs x (by simp[hx])) λi y hy j c hc=>by
    obtain⟨u,h1,h2⟩:=h (i+1) y (by simpa using hy) j c hc;exact⟨u,by rw[<- h1];congr 1;rw[kP];omega,by rw[show i0+1+i=i0+(i+1) by omega];exact h2⟩
theorem Vg {w:World}{cur:Array Value}:∀{x:List AV} {S:Nat->Prop} {o:Nat},Kj S w x cur o->∃D:Nat->Nat->Prop,(∀j b,D j b->S b)/\(∀j j' b,D j b->D j' b->j=j')/\
  ∀(j:Nat) c,x[j]?=some c->∃u,cur[o+j]?=some u/\ES (D j) w c u
 | [],_,_,_=>⟨λ_ _=>False,λ_ _ h=>h.elim,λ_ _ _ h=>h.elim,λj c h=>by simp at h⟩
 | c::r,S,o,h=>by
  simp only[Kj]at h;obtain⟨S1,S2,h1,h2,h3,⟨u,h4,h5⟩,h6⟩:=h;obtain⟨D,d1,d2,d3⟩:=Vg h6;refine⟨λj=>match j with|0=>S1|j+1=>D j,λj b hb=>?_,λj j' b hb pX=>?_,λj c' hc=>?_⟩
  ·cases j with
   | zero=>exact h1 b hb
   | succ j=>exact h2 b (d1 j b hb)
  ·cases j with
   | zero=>
    cases j' with
    | zero=>rfl
    | succ j'=>exact absurd (d1 j' b pX) (h3 b hb)
   | succ j=>
    cases j' with
    | zero=>exact absurd (d1 j b hb) (h3 b pX)
    | succ j'=>rw[d2 j j' b hb pX]
  ·cases j with
   | zero=>simp only[kK,jh]at hc;subst hc;exact⟨u,h4,h5⟩
   | succ j=>
    obtain⟨u',g1,g2⟩:=d3 j c' (by simpa using hc);exact⟨u',by rw[<- g1];congr 1;omega,g2⟩
theorem Ut {w:World}{cur:Array Value}{size:Nat}:∀{xs:List (List AV)} {S:Nat->Prop} {o:Nat},(∀x∈xs,x.length=size)->Kh S w xs cur o->∃D:Nat->Nat->Nat->Prop,(∀i j b,D i j b->S b)/\
  (∀i j i' j' b,D i j b->D i' j' b->i=i'/\j=j')/\∀(i:Nat) x,xs[i]?=some x->∀(j:Nat) c,x[j]?=some c->∃u,cur[o+i*size+j]?=some u/\ES (D i j) w c u
 | [],_,_,_,_=>⟨λ_ _ _=>False,λ_ _ _ h=>h.elim,λ_ _ _ _ _ h=>h.elim,λi x h=>by simp at h⟩
 | x::r,S,o,hs,h=>by
  simp only[Kh]at h;obtain⟨S1,S2,h1,h2,h3,h4,h5⟩:=h;obtain⟨E,e1,e2,e3⟩:=Vg h4;obtain⟨D,d1,d2,d3⟩:=Ut (λx hx=>hs x (by simp[hx])) h5;refine⟨λi=>match i with|0=>E|i+1=>D i,λi j b hb=>?_,λi j i' j' b hb pX=>?_,λi y hy j c hc=>?_⟩
  ·cases i with
   | zero=>exact h1 b (e1 j b hb)
   | succ i=>exact h2 b (d1 i j b hb)
  ·cases i with
   | zero=>
    cases i' with
    | zero=>exact⟨rfl,e2 j j' b hb pX⟩
    | succ i'=>exact absurd (d1 i' j' b pX) (h3 b (e1 j b hb))
   | succ i=>
    cases i' with
    | zero=>exact absurd (d1 i j b hb) (h3 b (e1 j' b pX))
    | succ i'=>
     obtain⟨q1,q2⟩:=d2 i j i' j' b hb pX;exact⟨by rw[q1],q2⟩
  ·cases i with
   | zero=>
    simp only[kK,jh]at hy;subst hy;obtain⟨u,g1,g2⟩:=e3 j c hc;exact⟨u,by rw[<- g1];congr 1;omega,g2⟩
   | succ i=>
    obtain⟨u,g1,g2⟩:=d3 i y (by simpa using hy) j c hc;rw[hs x (by simp)]at g1;exact⟨u,by rw[<- g1];congr 1;rw[kP];omega,g2⟩
variable {P : Program} {F : Nat -> Prop} {os : List Own} {s : St} {a : Act} {w : World} {k : Nat}
theorem TQ {p:Own}(h:Mc F w os p)(hd:Sy p.row.xs){v:Value}(hv:(p.Fe=none/\∃a,v=.slice a p.row.xs.length 0)∨∃b,p.Fe=some b/\v=.slice (some ⟨b,0,none⟩) p.row.xs.length p.cap):
  ES p.owns w (.dv p.row.elem p.row.size p.row.xs) v:=by
 simp only[ES];refine⟨h.pos,?_⟩;rcases hv with ⟨hb,a,rfl⟩|⟨b,hb,rfl⟩
 ·have:=(h.none hb).1;exact .inl ⟨this,a,by rw[this];rfl⟩
 ·obtain⟨_,cur,pF,pL,hle,qn,pH⟩:=h.some b hb;obtain⟨D,d1,d2,d3⟩:=h.deep;refine .inr ⟨b,p.cap,cur,rfl,hle,qn,.inl hb,pF,pL,λx hx=>(h.lens x hx).1,?_⟩;have:=W0 (w:=w) (cur:=cur) (size:=p.row.size) d2 p.row.xs 0 0 (λx hx=>(h.lens x hx).1) (λi x hx j c hc=>by
   simp only[kt];by_cases hdv :∃e s ys,c=.dv e s ys
   ·obtain⟨e,s,ys,rfl⟩:=hdv;exact d3 b hb cur _ _ pF i x j e s ys hx hc
   ·obtain⟨u,g1,g2⟩:=pH i x hx j c hc;exact⟨u,g1,Xr (hd x (je hx) c (je hc)) (λe s ys e'=>hdv ⟨e,s,ys,e'⟩) g2⟩)
  exact O1 (λc ⟨i,j,_,hc⟩=>⟨.inr (d1 i j c hc),λe=>(h.mo c (d1 i j c hc)).2.2 (by rw[hb,e])⟩) (λ_ _=>rfl) _ _ _ this
theorem KJ {id m g gm size sz n i j nn:Nat}{el rK:TypeId}{xs ys:List (List AV)}{x:List AV}{e:Nat->AV}{st st':List Row}(oY:st[id]?=some ⟨g,el,size,xs⟩)(hx:xs[i]?=some x)(hc:x[j]?=some (.own m gm n))
  (hm:st[m]?=some ⟨gm,rK,sz,ys⟩) (hn:n=ys.length) (pN:id≠m) (rB:k<=m) (hd:Sy ys) (pI:(st.set id ⟨g,el,size,xs.set i (x.set j (.dv rK sz ys))⟩).set m ⟨gm+1,rK,sz,[]⟩=st') :
  Wk k ⟨nn,e,st⟩ ⟨nn,e,st'⟩:=λF os a w hr=>by
 subst pI;subst hn;obtain⟨o,ho,sL⟩:=hr.row oY;obtain⟨p,hp,vf⟩:=hr.row hm;have ob:=hr.rows id o ho;have vg:=hr.rows m p hp;have pI:os.map Own.row=st:=hr.st;have sM:o.row.xs=xs:=by rw[sL]
 have hpx:p.row.xs=ys:=by rw[vf]
 let o':Own:={ o with row:={ o.row with xs:=xs.set i (x.set j (.dv rK sz ys)) },more:=λb=>o.more b∨p.owns b }
 let p':Own:=⟨{ p.row with gen:=p.row.gen+1,xs:=[] },none,0,FX⟩
 have qG:i<xs.length:=(jg.1 hx).1;have sF:j<x.length:=(jg.1 hc).1;have vC:=(jg.1 ho).1;have hml:=(jg.1 hp).1;have qC:∀b,o.owns b->¬ p.owns b:=λb h1 h2=>pN (hr.inj id m o p b ho hp h1 h2);have oe:∀(q:Nat) (oq:Own),((os.set id o').set m p')[q]?=some oq->(q≠id/\q≠m/\os[q]?=some oq)∨(q=id/\oq=o')∨(q=m/\oq=p'):=λq oq hq=>by
  by_cases e:q=m
  ·subst e;rw[ju (by simpa using hml),jh]at hq;exact .inr (.inr ⟨rfl,hq.symm⟩)
  ·rw[kG (lK e)]at hq;by_cases e2:q=id
   ·subst e2;rw[ju vC,jh]at hq;exact .inr (.inl ⟨rfl,hq.symm⟩)
   ·rw[kG (lK e2)]at hq;exact .inl ⟨e2,e,hq⟩
 have pd:FH os ((os.set id o').set m p'):=λq oq hq=>by
  by_cases e:q=m
  ·subst e;rw[hp]at hq;cases hq;exact⟨p',ju (by simpa using hml),Nat.le_succ _,rfl,λe=>by simp[p']at e⟩
  ·rw[kG (lK e)];by_cases e2:q=id
   ·subst e2;rw[ho]at hq;cases hq;exact⟨o',ju vC,jv _,rfl,λ_=>⟨rfl,rfl,by simp[o',sM]⟩⟩
   ·rw[kG (lK e2)];exact⟨oq,hq,jv _,rfl,λ_=>⟨rfl,rfl,rfl⟩⟩
 have oh:∀y v,Ae F w os y v->Ae F w ((os.set id o').set m p') y v:=λy v h=>DU (λ_ h=>h) (λ_ _=>rfl) os _ pd y v h;have vD:∀b,o'.owns b->o.owns b∨p.owns b:=λb hb=>by
  rcases hb with hb|hb|hb
  ·exact .inl (.inl hb)
  ·exact .inl (.inr hb)
  ·exact .inr hb
 have yF:∀b,¬ p'.owns b:=λb hb=>by
  rcases hb with hb|hb
  ·simp[p']at hb
  ·exact hb
 obtain⟨bo,tY⟩ :∃b,o.Fe=some b:=by
  cases hb:o.Fe with
  | none=>have:=(ob.none hb).1;rw[sM]at this;rw[this]at qG;simp at qG
  | some b=>exact⟨b,rfl⟩
 obtain⟨tH,cur,pF,pL,hle,qn,pH⟩:=ob.some bo tY;obtain⟨uv,hu1,qz⟩:=pH i x (by rw[sM];exact hx) j _ hc;have huv:(p.Fe=none/\∃a,uv=.slice a p.row.xs.length 0)∨∃b,p.Fe=some b/\uv=.slice (some ⟨b,0,none⟩) p.row.xs.length p.cap:=by
  simp only[Ae]at qz;obtain⟨q,hq,_,_,hv⟩:=qz;rw[hp]at hq;cases hq;have:=(hv (by rw[vf])).2;rw[hpx]at this⊢;simpa only[lW,nI,nH] using this
 have hRD:ES p.owns w (.dv rK sz ys) uv:=by
  have:=TQ vg (by rw[hpx];exact hd) huv;rw[vf]at this;exact this
 refine⟨F,(os.set id o').set m p',⟨?_,λt=>oh _ _ (hr.env t),hr.size,λq oq hq=>?_,λq q' oq vx b hq uO hb pX=>?_,hr.FR,hr.defers⟩,⟨rfl,rfl,rfl,jv _,λ_ h=>h,λ_ _=>rfl,λb _ h1 h2=>⟨rfl,h1,λoq hoq hb=>?_⟩,λq oq _ hq=>pd q oq hq⟩⟩
 ·rw[ln,ln,pI];simp only[o',p',sL,vf]
 ·rcases oe q oq hq with ⟨_,_,h⟩|⟨_,rfl⟩|⟨_,rfl⟩
  ·have h0:=hr.rows q oq h;refine⟨h0.pos,h0.lens,h0.none,λb hb=>?_,h0.mo,h0.deep⟩;obtain⟨e1,cur,e2,e3,e4,e5,e6⟩:=h0.some b hb;exact⟨e1,cur,e2,e3,e4,e5,λi' y hy j' c hc=>by obtain⟨u,f1,f2⟩:=e6 i' y hy j' c hc;exact⟨u,f1,oh _ _ f2⟩⟩
  ·refine⟨ob.pos,λy hy=>?_,(λhn=>by simp only[o']at hn;rw[tY]at hn;cases hn),λb hb=>?_,λb hb=>?_,?_⟩
   ·rcases kp hy with hy|rfl
    ·exact ob.lens y (by rw[sM];exact hy)
    ·have h0:=ob.lens x (by rw[sM];exact je hx);refine⟨by rw[nh];exact h0.1,λc qW=>?_⟩;rcases kp qW with h|rfl
     ·exact h0.2 c h
     ·rfl
   ·simp only[o']at hb;rw[tY]at hb;cases hb;refine⟨tH,cur,pF,pL,by simpa [o',sM] using hle,qn,λi' y hy j' c rY=>?_⟩;simp only[o']at hy⊢;by_cases hi:i'=i
    ·subst hi;rw[ju qG,jh]at hy;subst hy;by_cases hj:j'=j
     ·subst hj;rw[ju sF,jh]at rY;subst rY;exact⟨uv,hu1,(N5 hRD).1⟩
     ·rw[kG (lK hj)]at rY;obtain⟨u,f1,f2⟩:=pH i' x (by rw[sM];exact hx) j' c rY;exact⟨u,f1,oh _ _ f2⟩
    ·rw[kG (lK hi)]at hy;obtain⟨u,f1,f2⟩:=pH i' y (by rw[sM];exact hy) j' c rY;exact⟨u,f1,oh _ _ f2⟩
   ·rcases hb with hb|hb
    ·exact ob.mo b hb
    ·exact⟨vg.nF hb,vg.lt hb,λe=>qC b (.inl e) hb⟩
   ·obtain⟨D,d1,d2,d3⟩:=ob.deep;refine⟨λi' j' b=>if i'=i/\j'=j then p.owns b else D i' j' b,λi' j' b hb=>?_,λi1 j1 i2 j2 b h1 h2=>?_,λb hb sG el2 l pa i' y j' e2 s2 zs hy rY=>?_⟩
    ·simp only at hb;split at hb
     ·exact .inr hb
     ·exact .inl (d1 i' j' b hb)
    ·simp only at h1 h2;split at h1<;>split at h2
     ·rename_i q1 q2;exact⟨q1.1.trans q2.1.symm,q1.2.trans q2.2.symm⟩
     ·exact absurd h1 (qC b (.inr (d1 _ _ _ h2)))
     ·exact absurd h2 (qC b (.inr (d1 _ _ _ h1)))
     ·exact d2 _ _ _ _ _ h1 h2
    ·simp only[o']at hb hy⊢;rw[tY]at hb;cases hb;rw[pF]at pa;cases pa;by_cases tN:i'=i/\j'=j
     ·obtain⟨rfl,rfl⟩:=tN;rw[ju qG,jh]at hy;subst hy;rw[ju sF,jh]at rY;cases rY;exact⟨uv,hu1,by simpa using hRD⟩
     ·have hold:∃y0,o.row.xs[i']?=some y0/\y0[j']?=some (.dv e2 s2 zs):=by
       rw[sM];by_cases hi:i'=i
       ·subst hi;rw[ju qG,jh]at hy;subst hy;have hj:j'≠j:=λe=>tN ⟨rfl,e⟩;rw[kG (lK hj)]at rY;exact⟨x,hx,rY⟩
       ·rw[kG (lK hi)]at hy;exact⟨y,hy,rY⟩
      obtain⟨y0,vX,qj⟩:=hold;obtain⟨u,f1,f2⟩:=d3 bo tY cur _ _ pF i' y0 j' e2 s2 zs vX qj;exact⟨u,f1,by simpa only[tN,kH] using f2⟩
  ·exact⟨vg.pos,by simp[p'],by simp[p'],by simp[p'],λb hb=>hb.elim,Er (by simp[p'])⟩
 ·rcases oe q oq hq with ⟨q1,q2,h⟩|⟨rfl,rfl⟩|⟨_,rfl⟩<;>rcases oe q' vx uO with ⟨q1',q2',h'⟩|⟨rfl,rfl⟩|⟨_,rfl⟩
  ·exact hr.inj q q' oq vx b h h' hb pX
  ·rcases vD b pX with e|e
   ·exact hr.inj q _ oq o b h ho hb e
   ·exact absurd (hr.inj q m oq p b h hp hb e) q2
  ·exact absurd pX (yF b)
  ·rcases vD b hb with e|e
   ·exact hr.inj _ q' o vx b ho h' e pX
   ·exact absurd (hr.inj m q' p vx b hp h' e pX).symm q2'
  ·rfl
  ·exact absurd pX (yF b)
  ·exact absurd hb (yF b)
  ·exact absurd hb (yF b)
  ·exact absurd hb (yF b)
 ·obtain⟨q,hq⟩:=jz.1 hoq;rcases oe q oq hq with ⟨_,_,h⟩|⟨_,rfl⟩|⟨_,rfl⟩
  ·exact h2 oq (je h) hb
  ·rcases vD b hb with e|e
   ·exact h2 o (je ho) e
   ·exact h2 p (je hp) e
  ·exact yF b hb
end Go.Abs
namespace Go.Abs
open Go
variable {P : Program} {F : Nat -> Prop} {os : List Own} {s : St} {a : Act} {w : World} {k : Nat}
theorem Xs {S:Nat->Prop}{el sz:Nat}{ys:List (List AV)}{u:Value}(hS :∀b,S b->¬ F b/\b<w.heap.size)(h:ES S w (.dv el sz ys) u):
  ∃p:Own,p.row=⟨0,el,sz,ys⟩/\(∀b,p.owns b->S b)/\(∀os,Mc F w os p)/\((p.Fe=none/\∃a,u=.slice a ys.length 0)∨∃b,p.Fe=some b/\u=.slice (some ⟨b,0,none⟩) ys.length p.cap):=by
 simp only[ES]at h;obtain⟨hp,h⟩:=h;rcases h with ⟨rfl,a,rfl⟩|⟨b,cap,cur,rfl,h2,h3,h4,h5,h6,h7,h8⟩
 ·refine⟨⟨⟨0,el,sz,[]⟩,none,0,FX⟩,rfl,λb hb=>?_,λos=>⟨hp,by simp,by simp,by simp,λb hb=>hb.elim,Er (by simp)⟩,.inl ⟨rfl,a,rfl⟩⟩;rcases hb with hb|hb
  ·cases hb
  ·exact hb.elim
 ·obtain⟨D,d1,d2,d3⟩:=Ut h7 h8;refine⟨⟨⟨0,el,sz,ys⟩,some b,cap,λc=>S c/\c≠b⟩,rfl,λc hc=>?_,λos=>⟨hp,λx hx=>⟨h7 x hx,λc hc=>?_⟩,by simp,λb' pX=>?_,λc hc=>⟨(hS c hc.1).1,(hS c hc.1).2,λe=>hc.2 (by simpa using e.symm)⟩,⟨D,d1,d2,λb' pX sG el2 l pa i x j e s zs hx hc=>?_⟩⟩,.inr ⟨b,rfl,rfl⟩⟩
  ·rcases hc with hc|hc
   ·cases hc;exact h4
   ·exact hc.1
  ·obtain⟨i,hi⟩:=jz.1 hx;obtain⟨j,hj⟩:=jz.1 hc;obtain⟨u,_,g2⟩:=d3 i x hi j c hj;exact (N5 (F:=F) (os:=os) g2).2.1
  ·simp only[jh]at pX;subst pX;refine⟨(hS _ h4).1,cur,h5,h6,h2,h3,λi x hx j c hc=>?_⟩;obtain⟨u,g1,g2⟩:=d3 i x hx j c hc;exact⟨u,by simpa using g1,(N5 g2).1⟩
  ·simp only[jh]at pX;subst pX;rw[h5]at pa;cases pa;obtain⟨u,g1,g2⟩:=d3 i x hx j _ hc;exact⟨u,by simpa using g1,g2⟩
theorem OO {id m g size sz n i j nn:Nat}{el rK:TypeId}{xs ys:List (List AV)}{x:List AV}{e:Nat->AV}{st st':List Row}(oY:st[id]?=some ⟨g,el,size,xs⟩)(hx:xs[i]?=some x)(hc:x[j]?=some (.dv rK sz ys))
  (hm:st.length=m) (hn:n=ys.length) (pI:st.set id ⟨g,el,size,xs.set i (x.set j (.own m 0 n))⟩++[⟨0,rK,sz,ys⟩]=st'):Wk k ⟨nn,e,st⟩ ⟨nn,e,st'⟩:=λF os a w hr=>by
 subst pI;subst hn;subst hm;obtain⟨o,ho,sL⟩:=hr.row oY;have ob:=hr.rows id o ho;have pI:os.map Own.row=st:=hr.st;have hol:os.length=st.length:=by rw[<- pI];simp
 have sM:o.row.xs=xs:=by rw[sL]
 have qG:i<xs.length:=(jg.1 hx).1;have sF:j<x.length:=(jg.1 hc).1;have vC:=(jg.1 ho).1;obtain⟨bo,tY⟩ :∃b,o.Fe=some b:=by
  cases hb:o.Fe with
  | none=>have:=(ob.none hb).1;rw[sM]at this;rw[this]at qG;simp at qG
  | some b=>exact⟨b,rfl⟩
 obtain⟨tH,cur,pF,pL,hle,qn,pH⟩:=ob.some bo tY;obtain⟨D,d1,d2,d3⟩:=ob.deep;obtain⟨uv,hu1,qz⟩:=d3 bo tY cur _ _ pF i x j rK sz ys (by rw[sM];exact hx) hc;obtain⟨p,vf,hpo,vg,zK⟩:=Xs (F:=F) (λb hb=>⟨(ob.mo b (d1 _ _ _ hb)).1,(ob.mo b (d1 _ _ _ hb)).2.1⟩) qz
 let o':Own:={ o with row:={ o.row with xs:=xs.set i (x.set j (.own st.length 0 ys.length)) },more:=λb=>o.more b/\¬ D i j b }
 have oe:∀(q:Nat) (oq:Own),(os.set id o'++[p])[q]?=some oq->(q≠id/\q<os.length/\os[q]?=some oq)∨(q=id/\oq=o')∨(q=os.length/\oq=p):=λq oq hq=>by
  rcases lH q os.length with h|h|h
  ·rw[jr (by simpa using h)]at hq;by_cases e2:q=id
   ·subst e2;rw[ju vC,jh]at hq;exact .inr (.inl ⟨rfl,hq.symm⟩)
   ·rw[kG (lK e2)]at hq;exact .inl ⟨e2,h,hq⟩
  ·subst h;rw[jt (by simp)]at hq;simp at hq;exact .inr (.inr ⟨rfl,hq.symm⟩)
  ·rw[kq (by simp;omega)]at hq;cases hq
 have zL:(os.set id o'++[p])[st.length]?=some p:=by
  rw[jt (by simp;omega)];simp[hol]
 have pd:FH os (os.set id o'++[p]):=λq oq hq=>by
  have hql:=(jg.1 hq).1;rw[jr (by simpa using hql)];by_cases e2:q=id
  ·subst e2;rw[ho]at hq;cases hq;exact⟨o',ju vC,jv _,rfl,λ_=>⟨rfl,rfl,by simp[o',sM]⟩⟩
  ·rw[kG (lK e2)];exact⟨oq,hq,jv _,rfl,λ_=>⟨rfl,rfl,rfl⟩⟩
 have oh:∀y v,Ae F w os y v->Ae F w (os.set id o'++[p]) y v:=λy v h=>DU (λ_ h=>h) (λ_ _=>rfl) os _ pd y v h;have xL :∀b,o'.owns b->o.owns b:=λb hb=>by
  rcases hb with hb|hb
  ·exact .inl hb
  ·exact .inr hb.1
 have xM:∀b,p.owns b->o.owns b:=λb hb=>.inr (d1 _ _ _ (hpo b hb));have qC:∀b,o'.owns b->¬ p.owns b:=λb h1 h2=>by
  have h3:=hpo b h2;rcases h1 with h1|h1
  ·exact (ob.mo b (d1 _ _ _ h3)).2.2 h1
  ·exact h1.2 h3
 have uq:Ae F w (os.set id o'++[p]) (.own st.length 0 ys.length) uv:=by
  simp only[Ae];refine⟨p,zL,kE _,?_,λ_=>⟨by rw[vf];exact jv _,by rw[vf];simpa only[lW,nI,nH] using zK⟩⟩;rcases zK with ⟨_,a,rfl⟩|⟨b,_,rfl⟩<;>exact⟨_,_,_,rfl⟩
 refine⟨F,os.set id o'++[p],⟨?_,λt=>oh _ _ (hr.env t),hr.size,λq oq hq=>?_,λq q' oq vx b hq uO hb pX=>?_,hr.FR,hr.defers⟩,⟨rfl,rfl,rfl,jv _,λ_ h=>h,λ_ _=>rfl,λb _ h1 h2=>⟨rfl,h1,λoq hoq hb=>?_⟩,λq oq _ hq=>pd q oq hq⟩⟩
 ·rw[lJ,ln,pI];simp only[o',sL,kI,lV,vf]
 ·rcases oe q oq hq with ⟨_,_,h⟩|⟨_,rfl⟩|⟨_,rfl⟩
  ·have h0:=hr.rows q oq h;refine⟨h0.pos,h0.lens,h0.none,λb hb=>?_,h0.mo,h0.deep⟩;obtain⟨e1,cur,e2,e3,e4,e5,e6⟩:=h0.some b hb;exact⟨e1,cur,e2,e3,e4,e5,λi' y hy j' c hc=>by obtain⟨u,f1,f2⟩:=e6 i' y hy j' c hc;exact⟨u,f1,oh _ _ f2⟩⟩
  ·refine⟨ob.pos,λy hy=>?_,(λhn=>by simp only[o']at hn;rw[tY]at hn;cases hn),λb hb=>?_,λb hb=>ob.mo b hb.1,?_⟩
   ·rcases kp hy with hy|rfl
    ·exact ob.lens y (by rw[sM];exact hy)
    ·have h0:=ob.lens x (by rw[sM];exact je hx);refine⟨by rw[nh];exact h0.1,λc qW=>?_⟩;rcases kp qW with h|rfl
     ·exact h0.2 c h
     ·rfl
   ·simp only[o']at hb;rw[tY]at hb;cases hb;refine⟨tH,cur,pF,pL,by simpa [o',sM] using hle,qn,λi' y hy j' c rY=>?_⟩;simp only[o']at hy⊢;by_cases hi:i'=i
    ·subst hi;rw[ju qG,jh]at hy;subst hy;by_cases hj:j'=j
     ·subst hj;rw[ju sF,jh]at rY;subst rY;exact⟨uv,hu1,uq⟩
     ·rw[kG (lK hj)]at rY;obtain⟨u,f1,f2⟩:=pH i' x (by rw[sM];exact hx) j' c rY;exact⟨u,f1,oh _ _ f2⟩
    ·rw[kG (lK hi)]at hy;obtain⟨u,f1,f2⟩:=pH i' y (by rw[sM];exact hy) j' c rY;exact⟨u,f1,oh _ _ f2⟩
   ·refine⟨λi' j' b=>if i'=i/\j'=j then False else D i' j' b,λi' j' b hb=>?_,λi1 j1 i2 j2 b h1 h2=>?_,λb hb sG el2 l pa i' y j' e2 s2 zs hy rY=>?_⟩
    ·simp only at hb;split at hb
     ·exact hb.elim
     ·rename_i tN;exact⟨d1 i' j' b hb,λh=>tN (d2 _ _ _ _ _ hb h)⟩
    ·simp only at h1 h2;split at h1<;>split at h2<;>first|exact h1.elim|exact h2.elim|exact d2 _ _ _ _ _ h1 h2
    ·simp only[o']at hb hy⊢;rw[tY]at hb;cases hb;rw[pF]at pa;cases pa;have hold:(¬ (i'=i/\j'=j))/\∃y0,o.row.xs[i']?=some y0/\y0[j']?=some (.dv e2 s2 zs):=by
      rw[sM];by_cases hi:i'=i
      ·subst hi;rw[ju qG,jh]at hy;subst hy;by_cases hj:j'=j
       ·subst hj;rw[ju sF,jh]at rY;cases rY
       ·rw[kG (lK hj)]at rY;exact⟨λh=>hj h.2,x,hx,rY⟩
      ·rw[kG (lK hi)]at hy;exact⟨λh=>hi h.1,y,hy,rY⟩
     obtain⟨tN,y0,vX,qj⟩:=hold;obtain⟨u,f1,f2⟩:=d3 bo tY cur _ _ pF i' y0 j' e2 s2 zs vX qj;exact⟨u,f1,by simpa only[tN,kH] using f2⟩
  ·exact vg _
 ·rcases oe q oq hq with ⟨q1,q2,h⟩|⟨rfl,rfl⟩|⟨rfl,rfl⟩<;>rcases oe q' vx uO with ⟨q1',q2',h'⟩|⟨rfl,rfl⟩|⟨rfl,rfl⟩
  ·exact hr.inj q q' oq vx b h h' hb pX
  ·exact hr.inj q _ oq o b h ho hb (xL b pX)
  ·exact absurd (hr.inj q id oq o b h ho hb (xM b pX)) q1
  ·exact hr.inj _ q' o vx b ho h' (xL b hb) pX
  ·rfl
  ·exact absurd pX (qC b hb)
  ·exact absurd (hr.inj id q' o vx b ho h' (xM b hb) pX).symm q1'
  ·exact absurd hb (qC b pX)
  ·rfl
 ·obtain⟨q,hq⟩:=jz.1 hoq;rcases oe q oq hq with ⟨_,_,h⟩|⟨_,rfl⟩|⟨_,rfl⟩
  ·exact h2 oq (je h) hb
  ·exact h2 o (je ho) (xL b hb)
  ·exact h2 o (je ho) (xM b hb)
variable {α β : Type} {l : List α} {enc : α -> List AV}
def hole (l:List α)(enc:α->List AV)(i:Int)(x:List AV):List (List AV):=(l.map enc).set i.toNat x
theorem aV {i:Int}{u:α}{x:List AV}(h:x=enc u):hole l enc i x=(Sh.put l i u).map enc:=by subst h;exact Yp
theorem FB {i:Int}{u:α}{x:List AV}(h:Sh.get l i=some u):(hole l enc i x)[i.toNat]?=some x:=by
 have:=(Sh.get_some h).2.2;have h0:=(Sh.get_some h).1;exact ju (by simp;omega)
theorem Si {i:Int}{x y:List AV}:(hole l enc i x).set i.toNat y=hole l enc i y:=by unfold hole;rw[List.set_set]
theorem GK {id m g size sz nn j:Nat}{el rK:TypeId}{i:Int}{c:α}{ys:List β}{encY:β->List AV}{x x':List AV}{e:Nat->AV}{st st':List Row}(oY:st[id]?=some ⟨g,el,size,l.map enc⟩)(hi:Sh.get l i=some c)(hx:enc c=x)(hc:x[j]?=some (.dv rK sz (ys.map encY)))
  (hm:st.length=m) (rO:x.set j (.own m 0 ys.length)=x') (pI:st.set id ⟨g,el,size,hole l enc i x'⟩++[⟨0,rK,sz,ys.map encY⟩]=st'):Wk k ⟨nn,e,st⟩ ⟨nn,e,st'⟩:=by
 subst pI;subst rO;subst hx;exact OO oY (CU hi) hc hm (n:=ys.length) (by simp) rfl
theorem Wk.take {id m g gm size sz nn j n:Nat}{el rK:TypeId}{i:Int}{c:α}{ys:List β}{encY:β->List AV}{x x':List AV}{e:Nat->AV}{st st':List Row}(oY:st[id]?=some ⟨g,el,size,hole l enc i x⟩)(hi:Sh.get l i=some c)(hc:x[j]?=some (.own m gm n))
  (hm:st[m]?=some ⟨gm,rK,sz,ys.map encY⟩) (hn:n=ys.length) (pN:id≠m) (rB:k<=m) (hd :∀y,(encY y).all PO=true) (rO:x.set j (.dv rK sz (ys.map encY))=x') (pI:(st.set id ⟨g,el,size,hole l enc i x'⟩).set m ⟨gm+1,rK,sz,[]⟩=st') :
  Wk k ⟨nn,e,st⟩ ⟨nn,e,st'⟩:=by
 subst pI;subst rO;refine KJ oY (FB hi) hc hm (by simpa using hn) pN rB (λy hy c hc=>?_) (by rw[Si]);obtain⟨z,_,rfl⟩:=kC.1 hy;exact jq.1 (hd z) c hc
theorem R0 {id g size nn:Nat}{el:TypeId}{i:Int}{u:α}{x:List AV}{e:Nat->AV}{st st':List Row}(oY:st[id]?=some ⟨g,el,size,hole l enc i x⟩)(hx:x=enc u)(pI:st.set id ⟨g,el,size,(Sh.put l i u).map enc⟩=st'):Wk k ⟨nn,e,st⟩ ⟨nn,e,st'⟩:=by
 rw[aV hx]at oY;have:st.set id ⟨g,el,size,(Sh.put l i u).map enc⟩=st:=by
  obtain⟨h1,h2⟩:=jg.1 oY;rw[<- h2];exact my h1
 rw[this]at pI;exact Fo pI
section
variable {ops : Array Oper} {Q : Exit -> St -> Prop} {ds : List (Option Tmp)} {r : List Oper} {n : Nat} {e : Nat -> AV} {st st' : List Row} {ty : TypeId} {ps : String} {ed : Array Edge} {t : Tmp} {v : AV} {gd : Option (Nat × Bool)} {T : TypeId} {x y : Operand} {ag : Bool} {sz id g size : Nat} {el : TypeId} {cs : List AV} {c : α} {i : Int}
end
end Go.Abs
namespace Go.Abs
open Go
variable {P : Program} {F : Nat -> Prop} {os : List Own} {s : St} {a : Act} {w : World} {k : Nat}
section
variable {α : Type} {l : List α} {enc : α -> List AV}
variable {ops : Array Oper} {Q : Exit -> St -> Prop} {ds : List (Option Tmp)} {r : List Oper} {n : Nat} {e : Nat -> AV} {st st' : List Row} {ty : TypeId} {ps : String} {ed : Array Edge} {t : Tmp} {T : TypeId} {x y : Operand} {m bytes size : Nat} {el : TypeId} {zz : List AV} {u : α} {j : Int} {kk sX : IntKind}
end
end Go.Abs
namespace Go.Abs
open Go
variable {P : Program} {F : Nat -> Prop} {os : List Own} {s : St} {a : Act} {w : World} {k : Nat}
variable {α β : Type} {l : List α} {enc : α -> List AV}
theorem Gz {id g size nn:Nat}{el:TypeId}{i:Int}{c:α}{x:List AV}{e:Nat->AV}{st st':List Row}(oY:st[id]?=some ⟨g,el,size,hole l enc i x⟩)(hi:Sh.get l i=some c)(hx:x=enc c)(pI:st.set id ⟨g,el,size,l.map enc⟩=st'):Wk k ⟨nn,e,st⟩ ⟨nn,e,st'⟩:=by
 have h2:hole l enc i x=l.map enc:=by
  subst hx;unfold hole;have:=CU (enc:=enc) hi;obtain⟨h1,h2⟩:=jg.1 this;rw[<- h2];exact my h1
 rw[h2]at oY;have:st.set id ⟨g,el,size,l.map enc⟩=st:=by
  obtain⟨h1,h2⟩:=jg.1 oY;rw[<- h2];exact my h1
 rw[this]at pI;exact Fo pI
end Go.Abs
namespace Go.Abs
open Go
theorem Ym {α:Type}{l l':List α}{c:α}{b:Nat}(h:Sh.app l [c] b=some l'):Sh.get l' (Sh.len l)=some c:=by
 unfold Sh.app at h;split at h
 ·simp only[jh]at h;subst h;unfold Sh.get Sh.len;rw[jm (me _)];simp
 ·cases h
section
variable {P : Program} {k : Nat} {α : Type} {l l' : List α} {enc : α -> List AV} {c : α}
variable {ops : Array Oper} {Q : Exit -> St -> Prop} {ds : List (Option Tmp)} {r : List Oper} {n : Nat} {e : Nat -> AV} {st st' : List Row} {ty : TypeId} {ps : String} {ed : Array Edge} {t : Tmp} {gd : Option (Nat × Bool)} {T : TypeId} {x y : Operand} {bytes size id g m q gq size' : Nat} {el rK : TypeId} {zz cs : List AV}
theorem av (hg:GO ds gd e)(he:D2 P T=some ⟨el,size,bytes,zz⟩)(hx:St.ev ⟨n,e,st⟩ x=.own id g m)(hr:st[id]?=some ⟨g,el,size,l.map enc⟩)(hm:m=l.length)(hy:St.ev ⟨n,e,st⟩ y=.own q gq 1)(hq:st[q]?=some ⟨gq,rK,size',[cs]⟩)
  (pn:cs.all AV.leaf=true) (qk:cs.length=size) (ha:Sh.app l [c] bytes=some l') (pI:st.set id ⟨g+1,el,size,hole l' enc (Sh.len l) cs⟩=st') (hk:AO P k ops Q (ds++[some t]) r ⟨n,EC e t (.own id (g+1) l'.length),st'⟩) :
  AO P k ops Q ds (⟨some t,.call ⟨.builtin .append,#[x,y],#[T,T]⟩,ty,ps,ed,gd⟩::r) ⟨n,e,st⟩:=by
 subst pI;subst hm;refine L9 hg ?_;rw[Uk];refine⟨rfl,?_⟩;rw[hx,hy];unfold Sh.app at ha;split at ha
 ·rename_i h;simp only[jh]at ha;subst ha;refine Ap _ he (Ap _ hq ⟨rfl,λz hz c hc=>?_,rfl,λz hz=>?_,Ap _ hr ⟨rfl,(kB _).symm,rfl,rfl,by simpa using h.1,by simpa using h.2,?_⟩⟩)
  ·simp only[jy]at hz;subst hz;exact jq.1 pn c hc
  ·simp only[List.take_one,List.head?_cons,Option.toList_some,jy]at hz;subst hz;exact qk
  ·have e1:(l.map enc).take l.length=l.map enc:=by rw[<- kB (f:=enc) (as:=l),lM]
   have e3:List.map enc l++[cs]=hole (l++[c]) enc (Sh.len l) cs:=by simp[hole,Sh.len]
   simp only[e1,List.take_one,List.head?_cons,Option.toList_some,e3,List.length_singleton];rw[show l.length+1=(l++[c]).length by simp];exact hk
 ·cases ha
end
end Go.Abs
namespace Go.Abs
open Go
variable {P : Program} {F : Nat -> Prop} {os : List Own} {s : St} {a : Act} {w : World} {k : Nat}
def Ob (id g:Nat)(xs:List (List AV)):AV->AV
 | .own pW g' n=>if pW=id/\g'=g then (if n=xs.length then .sl (KO xs) else .E2) else .own pW g' n
 | v=>v
def Z5 (id g:Nat)(xs:List (List AV)):AV->AV
 | .agg cs=>.agg (cs.map (Ob id g xs))
 | .Dp cs=>.Dp (cs.map (Ob id g xs))
 | v=>Ob id g xs v
theorem Wk.eM {id:Nat}{row:Row}(rP:k<=id)(oY:s.st[id]?=some row)(hp:Sy row.xs):
  Wk k s ⟨s.n,λt=>Z5 id row.gen row.xs (s.env t),s.st.set id { row with gen:=row.gen+1,xs:=[] }⟩:=λF os a w hr=>by
 obtain⟨o,ho,rfl⟩:=hr.row oY;have ob:=hr.rows id o ho;refine⟨λb=>F b∨o.owns b,os.set id ⟨{ o.row with gen:=o.row.gen+1,xs:=[] },none,0,FX⟩,?_,?_⟩
 case refine_2=>
  refine⟨rfl,rfl,rfl,jv _,λ_ h=>.inl h,λ_ _=>rfl,λb _ h1 h2=>⟨rfl,λh=>h.elim h1 (λe=>h2 o (je ho) e),λo' pQ=>?_⟩,λi oi hi rG=>⟨oi,?_,jv _,rfl,λ_=>⟨rfl,rfl,rfl⟩⟩⟩
  ·rcases kp pQ with h|rfl
   ·exact h2 o' h
   ·intro hh;rcases hh with hh|hh
    ·simp at hh
    ·exact hh
  ·rw[kG (by omega)];exact rG
 have hF:∀b,F b->(λb=>F b∨o.owns b) b:=λ_ h=>.inl h;have pd:FH os (os.set id ⟨{ o.row with gen:=o.row.gen+1,xs:=[] },none,0,FX⟩):=FH.set ho (by simp) rfl (λe=>by simp at e);have oh:∀x v,Ae F w os x v->Ae (λb=>F b∨o.owns b) w (os.set id ⟨{ o.row with gen:=o.row.gen+1,xs:=[] },none,0,FX⟩) x v:=λx v h=>
  DU hF (λ_ _=>rfl) os _ pd x v h
 have h1:∀x v,Ae F w os x v->Ae (λb=>F b∨o.owns b) w (os.set id ⟨{ o.row with gen:=o.row.gen+1,xs:=[] },none,0,FX⟩) (Ob id o.row.gen o.row.xs x) v:=λx v h=>by
  cases x with
  | own pW g' n=>
   simp only[Ob];split
   ·rename_i wO;obtain⟨rfl,rfl⟩:=wO;split
    ·rename_i tK;subst tK;simp only[Ae]at h;obtain⟨o',pQ,_,_,h⟩:=h;rw[ho]at pQ;cases pQ;obtain⟨_,hv⟩:=h rfl;have hD:=TQ ob hp (v:=v) (by simpa only[lW,nI,nH] using hv);have:=(Sp (F:=λb=>F b∨o.owns b) (λb hb=>.inr hb) _ _ hD).1;simp only[Ot,Ae]at this⊢;exact this
    ·simp[Ae]
   ·exact oh _ _ h
  | _=>exact oh _ _ h
 have hL:∀xs us,Br F w os xs us->Br (λb=>F b∨o.owns b) w (os.set id ⟨{ o.row with gen:=o.row.gen+1,xs:=[] },none,0,FX⟩) (xs.map (Ob id o.row.gen o.row.xs)) us:=λxs us h=>
  DZ (by simp[BY h]) λi x u hx hu=>by
   simp only[ji,jo]at hx;obtain⟨y,hy,rfl⟩:=hx;obtain⟨u',e1,e2⟩:=CN h i y hy;rw[hu]at e1;cases e1;exact h1 _ _ e2
 have oe:∀(i:Nat) (oi:Own),(os.set id ⟨{ o.row with gen:=o.row.gen+1,xs:=[] },none,0,FX⟩)[i]?=some oi->(i≠id/\os[i]?=some oi)∨(i=id/\oi=⟨{ o.row with gen:=o.row.gen+1,xs:=[] },none,0,FX⟩):=λi oi hi=>by
  by_cases e:i=id
  ·subst e;rw[ju (jg.1 ho).1,jh]at hi;exact .inr ⟨rfl,hi.symm⟩
  ·rw[kG (lK e)]at hi;exact .inl ⟨e,hi⟩
 refine⟨by rw[ln,hr.st],λt=>?_,hr.size,λi oi hi=>?_,λi j oi oj b hi hj qX qY=>?_,λb hb=>?_,hr.defers⟩
 ·have:=hr.env t;simp only;generalize s.env t=x at this⊢;cases x with
  | agg cs=>simp only[Z5,Ae]at this⊢;obtain⟨us,e,h⟩:=this;exact⟨us,e,hL _ _ h⟩
  | Dp cs=>simp only[Z5,Ae]at this⊢;obtain⟨us,e,h⟩:=this;exact⟨us,e,hL _ _ h⟩
  | _=>exact h1 _ _ this
 ·rcases oe i oi hi with ⟨pN,h⟩|⟨_,rfl⟩
  ·have qf:=hr.rows i oi h;refine⟨qf.pos,qf.lens,qf.none,λb hb=>?_,λb hb=>⟨λhF=>hF.elim (qf.mo b hb).1 (λrI=>pN (hr.inj i id oi o b h ho (.inr hb) rI)),(qf.mo b hb).2⟩,qf.deep⟩;obtain⟨e1,cur,e2,e3,e4,e5,e6⟩:=qf.some b hb;refine⟨λhF=>hF.elim e1 (λrI=>pN (hr.inj i id oi o b h ho (.inl hb) rI)),cur,e2,e3,e4,e5,λi' x hx j c hc=>?_⟩;obtain⟨u,f1,f2⟩:=e6 i' x hx j c hc;exact⟨u,f1,oh _ _ f2⟩
  ·exact⟨ob.pos,by simp,by simp,by simp,λb hb=>hb.elim,Er (by simp)⟩
 ·rcases oe i oi hi with ⟨pN,h⟩|⟨h,rfl⟩<;>rcases oe j oj hj with ⟨ug,h'⟩|⟨h',rfl⟩
  ·exact hr.inj i j oi oj b h h' qX qY
  ·exact qY.elim (λe=>by simp at e) λe=>e.elim
  ·exact qX.elim (λe=>by simp at e) λe=>e.elim
  ·omega
 ·rcases hb with hb|hb|hb
  ·exact hr.FR b hb
  ·obtain⟨_,cur,pF,_⟩:=ob.some b hb;exact (kR.1 pF).1
  ·exact (ob.mo b hb).2.1
variable {α : Type} {l : List α} {enc qK : α -> List AV} {n id g m size : Nat} {e : Nat -> AV} {st st' : List Row} {L : List (Nat × AV)} {el : TypeId} {xs : List (List AV)}
theorem U1 (h:m=l.length)(hu :∀x,Hz (enc x)=qK x):Ob id g (l.map enc) (.own id g m)=.sl (l.map qK):=by
 subst h;simp only[Ob,and_self,kO,kB];rw[Hx,lU];congr 1;exact kM λx _=>hu x
theorem le.Ob (h:m=l.length)(hu :∀x,Hz (enc x)=qK x):le (Abs.Ob id g (l.map enc) (.own id g m)) (.sl (l.map qK)):=le.of (U1 h hu)
theorem le.Z5 (h:m=l.length)(hu :∀x,Hz (enc x)=qK x):le (Abs.Z5 id g (l.map enc) (.own id g m)) (.sl (l.map qK)):=le.of (U1 h hu)
theorem I1 (h :∀x,(enc x).all PO=true):Sy (l.map enc):=λx hx c hc=>by
 obtain⟨y,_,rfl⟩:=kC.1 hx;exact jq.1 (h y) c hc
theorem RD (oY:st[id]?=some ⟨g,el,size,xs⟩)(rP:k<=id)(hp:Sy xs)(h:ME (λt=>Abs.Z5 id g xs (e t)) L)(pI:st.set id ⟨g+1,el,size,[]⟩=st'):Wk k ⟨n,e,st⟩ ⟨n,Aa L,st'⟩:=by
 subst pI;exact (Wk.eM (s:=⟨n,e,st⟩) rP oY hp).trans (Ag h)
end Go.Abs
namespace Go.Abs
open Go
variable {P : Program} {F : Nat -> Prop} {os : List Own} {s : St} {a : Act} {w : World} {k : Nat}
def gk (x:AV):AV:=bif flat x then x else .E2
theorem eP {F':Nat->Prop}{w':World}(hF :∀b,F b->F' b)(hw :∀b,F b->w'.heap[b]?=w.heap[b]?)(os':List Own){x:AV}{v:Value}(h:Ae F w os x v):Ae F' w' os' (gk x) v:=by
  unfold gk;cases hf:flat x with
  | false=>simp[Ae]
  | true=>exact JX hf os' (DU hF hw [] [] (by simp) x v (JX hf [] h))
def fP (x:AV):AV:=bif flat x then x else match x with
  | .ptr (id+1) g i off=>.ptr (id+1) g i off
  | _=>.E2
theorem dB {F':Nat->Prop}{w':World}(hF :∀b,F b->F' b)(hw :∀b,F b->w'.heap[b]?=w.heap[b]?){o o':Own}{qp:List Own}{x:AV}{v:Value}(h:Ae F w (o::qp) x v):Ae F' w' (o'::qp) (fP x) v:=by
  unfold fP;cases hf:flat x with
  | true=>exact JX hf _ (DU hF hw [] [] (by simp) x v (JX hf [] h))
  | false=>
    cases x<;>simp only[cond_false]<;>try simp[Ae]
    rename_i id g i off;cases id with
    | zero=>simp[Ae]
    | succ id=>
      simp only[Ae,kT]at h⊢;exact h
theorem Rf {P:Program}{ops:Array Oper}{md:Region.Mode}{Q Q':Exit->Act->World->Prop}(hp :∀c a w,Q (.panic c) a w->Q' (.panic c) a w)(tp:LetsOut Q->LetsOut Q')(hn :∀a w,Q .normal a w->Q' .normal a w):
    ∀(fuel:Nat) {oS:Array Bool} {a:Act} {w:World},wpAny P md ops Q fuel oS a w->wpAny P md ops Q' fuel oS a w
  | 0,_,_,_,h=>⟨h.1,hn _ _ h.2⟩
  | fuel+1,oS,a,w,h=>by
    refine⟨λh0=>hn _ _ (h.1 h0),λi hi=>?_⟩;have:=h.2 i hi;unfold wpOp at this⊢;split
    · rename_i ho;simp only[ho]at this;exact Rf hp tp hn fuel this
    · rename_i o ho;simp only[ho]at this;split
      · rename_i hw;rw[jm hw]at this;exact this.imp (λh=>OC hp tp (Oper.wp_mono (λa w h=>Rf hp tp hn fuel h) h)) λh=>⟨h.1,tp h.2⟩
      · rename_i hw;rw[jn hw]at this;exact Rf hp tp hn fuel this
def bX (row rr:Row)(Q:Exit->St->Prop):Exit->St->Prop:=λex s'=>(∃r,s'.st=rr::r)/\Q ex ⟨s'.n,λt=>gk (s'.env t),[row]⟩
theorem Qq {xs:List (List AV)}(hp:EK xs){o:Own}(ob:Mc F w os o)(hx:o.row.xs=xs):∀x∈xs,∀c∈x,c.leaf=true:=λx hm c hc=>by
  have h1:=hp x hm c hc;have h2:=(ob.lens x (by rw[hx];exact hm)).2 c hc;cases c<;>simp_all [simple,AV.leaf,AV.kept]
theorem bn {Q:Exit->St->Prop}{o:Own}{qp:List Own}{g:Nat}{el:TypeId}{size b0:Nat}{xs ys:List (List AV)}(hp:EK (xs++ys))(oY:o.row=⟨g,el,size,xs⟩)(wV:o.Fe=some b0)(tH:¬ F b0){w1:World}(ht:Hb w w1 (some b0))
    {e:Exit} {a':Act} {w':World} (h:J4 1 (bX ⟨g,el,size,xs⟩ ⟨g,el,size,xs++ys⟩ Q) F (⟨⟨g,el,size,xs++ys⟩,some b0,o.cap,o.more⟩::qp) w1 e a' w') (hold :∀b,F b->b<w.heap.size):J4 1 Q F (o::qp) w e a' w':=by
  obtain⟨s',F',os',⟨⟨rst',pI⟩,hQ⟩,hR,hE⟩:=h;have pd:∃o' vy,os'=o'::vy/\o'.row=⟨g,el,size,xs++ys⟩:=by
    have:=hR.st;rw[pI]at this;cases os' with
    | nil=>cases this
    | cons o' vy=>
      simp only[kI,mL]at this;exact⟨o',vy,rfl,this.1⟩
  obtain⟨o',vy,rfl,hrow'⟩:=pd;obtain⟨o2,e2,_,_,e3⟩:=hE.Tf 0 _ (by omega) rfl;simp only[kK,jh]at e2;subst e2;obtain⟨e4,e5,_⟩:=e3 (by rw[hrow']);dsimp only at e4 e5;have vE:=hR.rows 0 o' rfl;have pn:=Qq hp vE (by rw[hrow']);have hF:∀b,F b->w1.heap[b]?=w.heap[b]?:=λb hb=>ht.FR b (hold b hb) (λe=>tH (by cases e;exact hb));refine⟨_,F',[{ o' with row:=⟨g,el,size,xs⟩ }],hQ,⟨rfl,λt=>eP (λ_ h=>h) (λ_ _=>rfl) _ (hR.env t),hR.size,λi oi hi=>?_,λi j oi oj b hi hj qX qY=>?_,hR.FR,hR.defers⟩,?_⟩
  · match i,hi with
    | 0,hi=>
      simp only[kK,jh]at hi;subst hi;refine⟨by have:=vE.pos;rw[hrow']at this;exact this,λx hx=>?_,λhn=>(by rw[e4]at hn;cases hn),λb hb=>?_,λb hb=>vE.mo b hb,Er λx hx c hc=>pn x (ko _ hx) c hc⟩
      · have:=vE.lens x (by rw[hrow'];exact ko _ hx);rw[hrow']at this;exact this
      · obtain⟨h1,cur,h2,h3,h4,h5,h6⟩:=vE.some b hb;rw[hrow']at h2 h3 h4 h6;refine⟨h1,cur,h2,h3,by simp only[kD]at h4⊢;omega,h5,λi x hx j c hc=>?_⟩;obtain⟨u,f1,f2⟩:=h6 i x (by simp only at hx⊢;rw[jr (jg.1 hx).1];exact hx) j c hc;exact⟨u,f1,FZ (hp x (ko _ (je hx)) c (je hc)) _ f2⟩
  · match i,j,hi,hj with
    | 0,0,_,_=>rfl
  · refine⟨hE.sys.trans ht.sys,hE.tape.trans ht.tape,hE.output.trans ht.output,mB ht.size hE.size,hE.NB,λb hb=>(hE.IJ b hb).trans (hF b hb),λb hb h1 h2=>?_,λi oi hi rG=>?_⟩
    · have pN:b≠b0:=λe=>h2 o (by simp) (.inl (by rw[e];exact wV));have hnm:¬ o.more b:=λhm=>h2 o (by simp) (.inr hm);obtain⟨f1,f2,f3⟩:=hE.other b (ke hb ht.size) h1 (λq hq rI=>by
        rcases js.1 hq with rfl|hq
        · rcases rI with rI|rI
          · simp only[jh]at rI;exact pN rI.symm
          · exact hnm rI
        · exact h2 q (by simp[hq]) rI)
      refine⟨f1.trans (ht.FR b hb (λe=>pN (by cases e;rfl))),f2,λq hq rI=>?_⟩;simp only[jy]at hq;subst hq;exact f3 o' (by simp) rI
    · match i,rG with
      | 0,rG=>
        simp only[kK,jh]at rG;subst rG;exact⟨_,rfl,by rw[oY];exact jv _,by rw[oY],λ_=>⟨by rw[wV];exact e4,e5,by rw[oY]⟩⟩
      | _+1,_=>omega
theorem X0 {t ty:TypeId}{ei:aa}{g:Nat}{xs:List (List AV)}{ys:List (List AV)}{y:AV}{ux ud:Value}(hr:Rel F os s a w){sZ:List Row}(pI:s.st=⟨g,ei.e,ei.size,xs⟩::sZ)(xN :∀row∈sZ,EK row.xs)(he:D2 P t=some ei)
    (hd:Ae F w os (.own 0 g xs.length) ud) (hx:Ae F w os y ux) (uM:EL s.st y ys) (hys :∀z∈ys,z.length=ei.size) (hp:EK (xs++ys)) (pN:ys≠[]) (hb:(xs.length+ys.length)*ei.bytes<=140737488355328) (hm:xs.length+ys.length<=9223372036854775807) :
    ∃o qp u w',os=o::qp/\o.row=⟨g,ei.e,ei.size,xs⟩/\(Builtin.append_ #[t,t] ty #[ud,ux]).run P w=.ok u w'/\
      ((∃b0,o.Fe=some b0/\¬ F b0/\Hb w w' (some b0)/\Rel F (⟨⟨g,ei.e,ei.size,xs++ys⟩,some b0,o.cap,o.more⟩::qp) ⟨s.n,λt=>fP (s.env t),⟨g,ei.e,ei.size,xs++ys⟩::sZ⟩ a w'/\
          u=.slice (some ⟨b0,0,none⟩) (xs.length+ys.length) o.cap)∨
       (∃cap,Rel F (os++[⟨⟨0,ei.e,ei.size,xs++ys⟩,some w.heap.size,cap,FX⟩]) { s with st:=s.st++[⟨0,ei.e,ei.size,xs++ys⟩] } a w'/\Ext F os w F (os++[⟨⟨0,ei.e,ei.size,xs++ys⟩,some w.heap.size,cap,FX⟩]) w' k/\
          u=.slice (some ⟨w.heap.size,0,none⟩) (xs.length+ys.length) cap)):=by
  obtain⟨inf,z,hu,hi,hz,rQ,pZ,pL,hby,_,_⟩:=H8 he;obtain⟨qu,h,hys',tJ,⟨ad,c,rfl,hsrc⟩⟩:=Ud (size:=ei.size) (K:=λz=>z=ys) hr (uM _ ⟨hys,rfl⟩) hx;subst h;have pd:∃o qp,os=o::qp/\o.row=⟨g,ei.e,ei.size,xs⟩/\qp.map Own.row=sZ:=by
    have:=hr.st;rw[pI]at this;cases os with
    | nil=>cases this
    | cons o qp=>
      simp only[kI,mL]at this;exact⟨o,qp,rfl,this.1,this.2⟩
  obtain⟨o,qp,rfl,oY,hros⟩:=pd;have tJ:∀y∈qu,∀c∈y,c.leaf=true:=by
    rcases tJ with e|h
    · exact absurd e pN
    · exact h
  have hylen:0<qu.length:=nE.2 pN;have ta:∃b off,ad=some ⟨b,off,none⟩/\∃us:List Value,us.length=qu.length*inf.size/\(∀(j:Nat) u,us[j]?=some u->w.cell? ((⟨b,off,none⟩:Addr).add j)=some u)/\(∀u∈us,u.oneCell'=true)/\GZ F w (o::qp) ei.size us qu:=by
    rcases hsrc with e|⟨b,off,rfl,hc⟩
    · exact absurd e pN
    · obtain⟨us,h1,h2,h3,h4⟩:=Pr hys' hc;exact⟨b,off,rfl,us,by rw[h1,pL],h2,h3,h1,λi y hy j c hc=>by obtain⟨u,e1,_,e2⟩:=h4 i y hy j c hc;exact⟨u,e1,e2⟩⟩
  obtain⟨b,off,rfl,us,sI,pb,tl,hrep⟩:=ta;have ob:=hr.rows 0 o rfl;have hxlf:=Qq (xs:=xs) (λx hx=>hp x (ko _ hx)) ob (by rw[oY]);have px:∀x∈xs++qu,x.length=ei.size/\∀c∈x,c.leaf=true:=λx hx=>by
    rcases kJ.1 hx with h|h
    · have:=(ob.lens x (by rw[oY];exact h)).1;rw[oY]at this;exact⟨this,hxlf x h⟩
    · exact⟨hys' x h,tJ x h⟩
  have wX:∀(cap:Nat) (pz:List Value),GZ F w (o::qp) ei.size pz xs->xs.length+qu.length<=cap->cap<=maxLen->
      Rel F ((o::qp)++[⟨⟨0,ei.e,ei.size,xs++qu⟩,some w.heap.size,cap,FX⟩]) { s with st:=s.st++[⟨0,ei.e,ei.size,xs++qu⟩] } a (w.drew.alloc (.cells (pz.toArray++us.toArray++Builtin.zeroCells z.cells (cap-(xs.length+qu.length))) ei.e))/\
      Ext F (o::qp) w F ((o::qp)++[⟨⟨0,ei.e,ei.size,xs++qu⟩,some w.heap.size,cap,FX⟩]) (w.drew.alloc (.cells (pz.toArray++us.toArray++Builtin.zeroCells z.cells (cap-(xs.length+qu.length))) ei.e)) k:=λcap pz hold rj qn=>by
    obtain⟨e1,e2⟩:=OU (F:=F) (w:=w) (os:=o::qp) (z:=z) (size:=ei.size) (n:=xs.length) (m:=qu.length) (cap:=cap) (by rw[rQ,pL]) rfl rfl hold hrep rj;have:=hr.OQ (k:=k) (.inr rfl) (cur:=_) (e:=ei.e) (size:=ei.size) (cap:=cap) (xs:=xs++qu) (by omega) px e1 (by simpa using rj) qn (λi x hx j c hc=>e2 i x hx j c hc);exact⟨this.1,this.2.1⟩
  have rz:=grownCap_ge w (xs.length+qu.length);have uu:=mh w (xs.length+qu.length);simp only[Ae]at hd;obtain⟨o',pQ,_,_,hd⟩:=hd;simp only[kK,jh]at pQ;subst pQ;obtain⟨_,hd⟩:=hd (by rw[oY]);rw[oY]at hd;simp only[lW,nI,nH]at hd;rcases hd with ⟨tA,a0,rfl⟩|⟨b0,Je,rfl⟩
  · have tK:=(ob.none tA).1;rw[oY]at tK;dsimp only at tK;subst tK;have pK:(Builtin.append_ #[t,t] ty #[.slice a0 0 0,.slice (some ⟨b,off,none⟩) qu.length c]).run P w=.ok (.slice (some ⟨w.heap.size,0,none⟩) (0+qu.length) (grownCap w (0+qu.length) 0 ei.e))
        (w.drew.alloc (.cells (([]:List Value).toArray++us.toArray++Builtin.zeroCells z.cells (grownCap w (0+qu.length) 0 ei.e-(0+qu.length))) ei.e)):=by
      cases a0 with
      | none=>
        have:=run_append_nil (P:=P) w t ty ei.e inf z hu hi hz ⟨b,off,none⟩ qu.length c us sI pb (by omega) (by simp at hm;omega) (by rw[<- hby];simp at hb;omega);simpa using this
      | some a0=>
        have:=mc (P:=P) w t ty ei.e inf z hu hi hz a0 0 0 [] (by simp) (by simp) ⟨b,off,none⟩ qu.length c us sI pb (by omega) (by omega) (mr (by simp at hm;omega) (by rw[<- hby];simpa using hb));simpa using this
    have tn:=wX (grownCap w (0+qu.length) 0 ei.e) [] (by simp[GZ]) (by simpa using rz 0 ei.e) (by simpa using uu 0 ei.e (by simp[maxLen]at hm⊢;omega));exact⟨o,qp,_,_,rfl,oY,pK,.inr ⟨_,tn.1,tn.2,rfl⟩⟩
  · obtain⟨tH,cur,pF,qk,vW,tc,pH⟩:=ob.some b0 Je;rw[oY]at pF qk vW pH;dsimp only at pF qk vW pH;by_cases hroom:xs.length+qu.length<=o.cap
    · have qN:xs.length*inf.size+us.length<=cur.size:=by rw[sI,qk,pL,<- kP];exact kS _ hroom
      have pK:=run_append_room (P:=P) w t ty ei.e inf hu hi b0 xs.length o.cap cur pF ⟨b,off,none⟩ qu.length c us sI pb tl hroom qN;have hT:=Hb.setRow w b0 (cur.toList.take (xs.length*inf.size)++us++cur.toList.drop (xs.length*inf.size+us.length)).toArray;have hF:∀g,F g->(w.setRow b0 (cur.toList.take (xs.length*inf.size)++us++cur.toList.drop (xs.length*inf.size+us.length)).toArray).heap[g]?=w.heap[g]?:=λg hg=>hT.FR g (hr.FR g hg) (λe=>tH (by cases e;exact hg));refine⟨o,qp,_,_,rfl,oY,pK,.inl ⟨b0,Je,tH,hT,⟨by simp only[kI,hros],λt=>dB (λ_ h=>h) hF (hr.env t),hr.size,λi oi hi=>?_,λi j oi oj b hi hj qX qY=>?_,λg hg=>ke (hr.FR g hg) hT.size,hr.defers⟩,rfl⟩⟩
      · match i,hi with
        | 0,hi=>
          simp only[kK,jh]at hi;subst hi;have qW:∀c u,simple c=true->Ae F w (o::qp) c u->∀os',Ae F (w.setRow b0 (cur.toList.take (xs.length*inf.size)++us++cur.toList.drop (xs.length*inf.size+us.length)).toArray) os' c u:=λc u hc h os'=>
            FZ hc os' (DU (λ_ h=>h) hF [] [] (by simp) c u (FZ hc [] h))
          refine⟨by have:=ob.pos;rw[oY]at this;exact this,λx hx=>⟨(px x hx).1,λc hc=>Dz ((px x hx).2 c hc)⟩,λhn=>(by cases hn),λb' pX=>?_,λg hg=>⟨(ob.mo g hg).1,by simpa using (ob.mo g hg).2.1,by rw[<- Je];exact (ob.mo g hg).2.2⟩,Er λx hx c hc=>(px x hx).2 c hc⟩;simp only[jh]at pX;subst pX;refine⟨tH,_,nS w b0 cur _ _ _ pF,?_,by simpa using hroom,tc,λi y hy j c hc=>?_⟩
          · simp only[mO,kD,lu,mI,ly]at qN⊢;rw[<- qk];omega
          · simp only at hy⊢;rw[J6 qN];by_cases pt:i<xs.length
            · rw[jr pt]at hy;obtain⟨u,f1,f2⟩:=pH i y hy j c hc;have sF:j<ei.size:=by rw[<- (px y (ko _ (je hy))).1];exact (jg.1 hc).1
              have:(i+1)*ei.size<=xs.length*ei.size:=kS _ pt;rw[kP]at this;refine⟨u,?_,qW c u (hp y (ko _ (je hy)) c (je hc)) f2 _⟩;rw[jm (by rw[<- pL];omega)];exact f1
            · rw[jt (by omega)]at hy;obtain⟨u,f1,f2⟩:=hrep.2 _ y hy j c hc;refine⟨u,?_,qW c u (hp y (mD _ (je hy)) c (je hc)) f2 _⟩;have pG:=(jg.1 f1).1;have h3:xs.length*ei.size<=i*ei.size:=kS _ (by omega);rw[Nat.sub_mul]at f1 pG;rw[jn (by rw[<- pL];omega),jm (by rw[<- pL];omega),<- f1];congr 1;rw[<- pL];omega
        | i+1,hi=>
          simp only[kT]at hi;have rG:=hr.rows (i+1) oi (by simpa using hi);have hpi:EK oi.row.xs:=xN oi.row (by rw[<- hros];exact lD (je hi));have hlfi:=Qq hpi rG rfl;have hni:∀b,oi.owns b->b≠b0:=λb hb e=>by
            have:=hr.inj (i+1) 0 oi o b (by simpa using hi) rfl hb (.inl (by rw[e];exact Je));omega
          refine⟨rG.pos,rG.lens,rG.none,λb hb=>?_,λb hb=>⟨(rG.mo b hb).1,ke (rG.mo b hb).2.1 hT.size,(rG.mo b hb).2.2⟩,Er hlfi⟩;obtain⟨f1,sG,f2,f3,f4,f5,f6⟩:=rG.some b hb;refine⟨f1,sG,?_,f3,f4,f5,λi' x hx j c hc=>?_⟩
          · rw[hT.FR b (rG.lt (.inl hb)) (λe=>hni b (.inl hb) (by cases e;rfl))];exact f2
          · obtain⟨u,g1,g2⟩:=f6 i' x hx j c hc;have rp:=hpi x (je hx) c (je hc);exact⟨u,g1,FZ rp _ (DU (λ_ h=>h) hF [] [] (by simp) c u (FZ rp [] g2))⟩
      · have key:∀(i:Nat) oi b,((⟨⟨g,ei.e,ei.size,xs++qu⟩,some b0,o.cap,o.more⟩:Own)::qp)[i]?=some oi->oi.owns b->∃tw,(o::qp)[i]?=some tw/\tw.owns b:=λi oi b hi hb=>by
          cases i with
          | zero=>
            simp only[kK,jh]at hi;subst hi;exact⟨o,rfl,hb.imp (λhb=>by rw[Je];exact hb) id⟩
          | succ i=>exact⟨oi,hi,hb⟩
        obtain⟨tw,q1,q2⟩:=key i oi b hi qX;obtain⟨zH,q3,q4⟩:=key j oj b hj qY;exact hr.inj i j tw zH b q1 q3 q2 q4
    · have hold:∀(i:Nat) y,xs[i]?=some y->L7 F w (o::qp) b0 (0+i*ei.size) y:=λi y hy=>by
        have:=hr.Np (id:=0) (o:=o) rfl Je (i:=i) (x:=y) (by rw[oY];exact hy);rw[oY]at this;simpa using this
      obtain⟨pz,h1,h2,_,h4⟩:=Pr (λx hx=>(px x (ko _ hx)).1) hold;have pK:=mc (P:=P) w t ty ei.e inf z hu hi hz ⟨b0,0,none⟩ xs.length o.cap pz (by rw[h1,pL]) h2 ⟨b,off,none⟩ qu.length c us sI pb (by omega) (by omega) (mr (by omega) (by rw[<- hby];exact hb));have tn:=wX (grownCap w (xs.length+qu.length) o.cap ei.e) pz ⟨h1,λi y hy j c hc=>by obtain⟨u,f1,_,f2⟩:=h4 i y hy j c hc;exact⟨u,f1,f2⟩⟩ (rz o.cap ei.e) (uu o.cap ei.e (by simp[maxLen];omega));exact⟨o,qp,_,_,rfl,oY,pK,.inr ⟨_,tn.1,tn.2,rfl⟩⟩
section
variable {P : Program} {ops : Array Oper} {Q : Exit -> St -> Prop} {n N f i : Nat} {oS listed' : Array Bool} {e : Nat -> AV} {ty : TypeId} {p : String} {ed : Array Edge} {t : Tmp} {α : Type} {l l2 l' : List α} {enc : α -> List AV} {x y : Operand} {g m size bytes : Nat} {el : TypeId} {zz : List AV} {T : TypeId} {sZ : List Row} {k : Nat}
theorem BG (h:oS=listed'){s:St}(ha:AX P k ops Q N f oS s):AX P k ops Q N f listed' s:=h▸ha
theorem AX.two (row rr:Row){s:St}(h :∀A A':Nat->Array Bool->St->Prop,(∀f l s,A f l s↔AX P k ops Q N f l s)->(∀f l s,A' f l s↔AX P k ops (bX row rr Q) N f l s)->A f oS s):AX P k ops Q N f oS s:=
  h (AX P k ops Q N) (AX P k ops (bX row rr Q) N) (λ_ _ _=>Iff.rfl) (λ_ _ _=>Iff.rfl)
theorem J7 {s:St}(h :∀A:Nat->Array Bool->St->Prop,(∀f l s,A f l s↔AX P k ops Q N f l s)->A f oS s):AX P k ops Q N f oS s:=
  h (AX P k ops Q N) (λ_ _ _=>Iff.rfl)
theorem J5 {ys:AV}(ho:ops[i]?=some ⟨some t,.call ⟨.builtin .append,#[x,y],#[T,T]⟩,ty,p,ed,none⟩)(tq:DC n (some t)=true)(he:D2 P T=some ⟨el,size,bytes,zz⟩)(xN :∀row∈sZ,EK row.xs)(hx:St.ev ⟨n,e,⟨g,el,size,l.map enc⟩::sZ⟩ x=.own 0 g m)(hm:m=l.length)(hy:St.ev ⟨n,e,⟨g,el,size,l.map enc⟩::sZ⟩ y=ys)(uM:EL (⟨g,el,size,l.map enc⟩::sZ) ys (l2.map enc))
    (uP:l2.isEmpty=false) (hs :∀a,(enc a).length=size) (hp :∀l:List α,EK (l.map enc)) (ha:Sh.app l l2 bytes=some l')
    (h1:AX P 1 ops (bX ⟨g,el,size,l.map enc⟩ ⟨g,el,size,l'.map enc⟩ Q) N f (oS.setIfInBounds i true) ⟨n,EC (λt=>fP (e t)) t (.own 0 g l'.length),⟨g,el,size,l'.map enc⟩::sZ⟩)
    (h2:AX P 1 ops Q N f (oS.setIfInBounds i true) ⟨n,EC e t (.own (sZ.length+1) 0 l'.length),⟨g,el,size,l.map enc⟩::(sZ++[⟨0,el,size,l'.map enc⟩])⟩) :
    Ec P 1 ops Q N f oS ⟨n,e,⟨g,el,size,l.map enc⟩::sZ⟩ i:=by
  subst hm;unfold Sh.app at ha;split at ha
  case isFalse=>cases ha
  rename_i zM;simp only[jh]at ha;subst ha;intro F0 os0 w0 F os a w hr vF;have zN:=hr.ev x;rw[hx]at zN;have zO:=hr.ev y;rw[hy]at zO;have hpp:=hp (l++l2);rw[lJ]at hpp h1 h2;obtain⟨o,qp,u,w',rfl,oY,pK,hA⟩:=X0 (k:=1) (ty:=ty) (ei:=⟨el,size,bytes,zz⟩) (g:=g) (xs:=l.map enc) (ys:=l2.map enc) hr rfl xN he (by simpa using zN) zO uM
    (λz hz=>by obtain⟨q,_,rfl⟩:=kC.1 hz;exact hs q) hpp (by intro e;rw[mX]at e;rw[e]at uP;cases uP) (by simpa using zM.1) (by simpa using zM.2)
  unfold wpOp;simp only[ho];rw[jm (by rfl)];refine .inl ?_;unfold Oper.wp;simp only[execOp,resolve,invoke,builtin,kX,ku,kV,nZ,kI,lV,pK,Oper.upon];rcases hA with ⟨b0,Je,tH,hT,hR,rfl⟩|⟨cap,hR,hE,rfl⟩
  · have h3:=h1.2 F _ w' F _ _ w' (hR.put (d:=some t) tq (v:=.own 0 g (l++l2).length) (u:=.slice (some ⟨b0,0,none⟩) ((l.map enc).length+(l2.map enc).length) o.cap) (by
      simp only[Ae];exact⟨_,rfl,jv _,⟨_,_,_,rfl⟩,λ_=>⟨by simp,.inr ⟨b0,rfl,by simp⟩⟩⟩)) (Ext.refl _ _ _ _)
    refine Rf (λc a'' vV hp=>?_) (λhl=>?_) (λa'' vV hp=>?_) _ h3
    · obtain⟨_,_,_,h4,_⟩:=hp;exact nomatch h4.1
    · obtain⟨_,_,h4,_⟩:=hl;exact nomatch h4
    obtain⟨s',F',os',⟨h4,h5⟩,h6,h7⟩:=hp;obtain⟨s2,F2,os2,h8,h9,h10⟩:=bn (Q:=λe s=>e=.normal/\Q e s) hpp oY Je tH hT ⟨s',F',os',⟨h5.1,h4,h5.2⟩,h6,h7⟩ hr.FR;exact⟨s2,F2,os2,h8,h9,vF.trans h10⟩
  · refine h2.2 F0 os0 w0 F _ _ w' ?_ (vF.trans hE);have hlen:qp.length=sZ.length:=by
      have:=hr.st;simp only[kI,mL]at this;rw[<- this.2,kB]
    refine hR.put (d:=some t) tq (v:=.own (sZ.length+1) 0 (l++l2).length) ?_;simp only[Ae];exact⟨⟨⟨0,el,size,l.map enc++l2.map enc⟩,some w.heap.size,cap,FX⟩,by rw[<- hlen];simp,jv _,⟨_,_,_,rfl⟩,λ_=>⟨by simp,.inr ⟨_,rfl,by simp⟩⟩⟩
end
section
variable {P : Program} {ds : List (Option Tmp)} {r : List Oper} {KS : St -> Prop} {n : Nat} {e : Nat -> AV} {st : List Row} {ty : TypeId} {ps : String} {ed : Array Edge} {t : Tmp} {gd : Option (Nat × Bool)} {α : Type} {l l' : List α} {enc : α -> List AV} {x : Operand} {size bytes : Nat} {el T : TypeId} {zz : List AV}
theorem ae {lo hi:Option Operand}{i j:Int}(hg:GO ds gd e)(he:D2 P T=some ⟨el,size,bytes,zz⟩)(hx:St.ev ⟨n,e,st⟩ x=.sl (l.map enc))(h1:TM (lo.map (St.ev ⟨n,e,st⟩)) 0=some i)(h2:TM (hi.map (St.ev ⟨n,e,st⟩)) l.length=some j)(hs :∀a,(enc a).length=size)(hl:Sh.sl l i j=some l')
    (hk:D6 P (ds++[some t]) r KS ⟨n,EC e t (.sl (l'.map enc)),st⟩):D6 P ds (⟨some t,.slice T x lo hi none,ty,ps,ed,gd⟩::r) KS ⟨n,e,st⟩:=by
  refine cE hg rfl (λs0 e1 e2 hd k F os a w hr next Q hn=>?_) hk;refine Kl (k:=k) (K:=(·=s0.put (some t) (.sl (l'.map enc)))) hr hd ?_ hn;show US P s0.st T (s0.ev x) (lo.map s0.ev) (hi.map s0.ev) (Option.map s0.ev none) (λv st=>({ s0 with st:=st }:St).put (some t) v=s0.put (some t) (.sl (l'.map enc)));have ex:s0.ev x=St.ev ⟨n,e,st⟩ x:=e2 x (by simp[Op.operands]);have elo:lo.map s0.ev=lo.map (St.ev ⟨n,e,st⟩):=by
    cases lo with
    | none=>rfl
    | some y=>simp only[kb];rw[e2 y (by simp[Op.operands])]
  have ehi:hi.map s0.ev=hi.map (St.ev ⟨n,e,st⟩):=by
    cases hi with
    | none=>rfl
    | some y=>simp only[kb];rw[e2 y (by simp[Op.operands])]
  rw[ex,elo,ehi,hx];unfold Sh.sl at hl;split at hl
  · rename_i h;simp only[jh]at hl;subst hl;refine Ap _ he (Ap _ h1 (Ap _ (by rw[kB];exact h2) ⟨h.1,h.2.1,by simpa using h.2.2,λz hz=>?_,?_⟩))
    · obtain⟨q,_,rfl⟩:=kC.1 hz;exact hs q
    · rw[List.map_drop,List.map_take]
  · cases hl
theorem VV {f:FuncId}{pw:Array Operand}{ts:Array TypeId}{args pS:List AV}{rowsP rows0 rows1 rows1':List Row}{v v':AV}(sel:List Nat)(hg:GO ds gd e)(hb:Dl P f=true)(hc:Ab P f pS rows0 λr st=>r=v/\st=rows1)(ha:pw.toList.map (St.ev ⟨n,e,st⟩)++[]=args)(qM:sel.Nodup)(pG:sel.all (·<st.length)=true)
    (hp:Cc st sel=rowsP) (hs:SR sel rowsP rows0) (hf:args.map (KB sel)=pS) (hlen:rows1.length=sel.length) (h1:UN sel st.length rows1 rows1') (hv:Sn sel st.length v=v') (qg:Fz sel rows1' 0 st=st)
    (hk:D6 P (ds++[some t]) r KS ⟨n,EC e t v',st⟩):D6 P ds (⟨some t,.call ⟨.value (.func f),pw,ts⟩,ty,ps,ed,gd⟩::r) KS ⟨n,e,st⟩:=by
  subst ha;subst hv;subst hp;refine cE hg rfl (λs0 e1 e2 hd k F os a w hr next Q hn=>?_) hk;refine Kl (k:=k) (K:=(·=s0.put (some t) (Sn sel st.length v))) hr hd ?_ hn;show Dl P f=true/\callThen P k s0 f (pw.toList.map s0.ev++[]) (some t) _;rw[Rz e2];refine⟨hb,KN λhle=>?_⟩;subst e1;obtain⟨e1,e3⟩:=hs.spec (st0:=s0.st) hle (λrow oY=>by
    obtain⟨i,_,hi⟩:=kz.1 oY;exact je hi)
  refine Kt (rows2:=[]) sel (by simpa using hc) qM (λi hi=>by simpa using jq.1 pG i hi) e1 e3 hf hlen (λrow oY=>by
    rw[ky]at oY;exact h1.leaf row oY) λ_=>?_
  simp only[h1.spec,lV,ky,qg]
end
end Go.Abs
namespace Go.Abs
open Go
section
variable {P : Program} {k : Nat} {ops : Array Oper} {Q : Exit -> St -> Prop} {ds : List (Option Tmp)} {r : List Oper} {n : Nat} {e : Nat -> AV} {st st' : List Row} {ty : TypeId} {p : String} {ed : Array Edge} {t : Tmp} {x y : Operand} {size bytes m : Nat} {el T Tn : TypeId} {zz : List AV} {α : Type} {enc : α -> List AV} {u : α} {l' : List α} {kk : IntKind} {j : Int} {v : AV} {o : Oper}
theorem aI (hn:o.guard=none)(h :∀F os a w,Rel F os ⟨n,e,st⟩ a w->∃z w' F' os',(execOp a.eval o).run P w=.ok (.value z) w'/\Rel F' os' ⟨n,e,st'⟩ a w'/\Ae F' w' os' v z/\Ext F os w F' os' w' k)
  (hk:AO P k ops Q (ds++[o.dst]) r (St.put ⟨n,e,st'⟩ o.dst v)):AO P k ops Q ds (o::r) ⟨n,e,st⟩:=by
 intro hl sJ ph F os a w hr Q' hQ;have ho:ops[ds.length]?=some o:=by have:=hl 0;simpa using this.symm
 have tq:DC n o.dst=true:=ph o (by have:=je (l:=ops.toList) (i:=ds.length) (by simpa using ho);exact this);have sy :∀(j:Nat),r[j]?=ops[(ds++[o.dst]).length+j]?:=λj=>by
  have:=hl (j+1);simp only[kT]at this;rw[this];congr 1;simp;omega
 have sk :∀(j:Nat) d,(ds++[o.dst])[j]?=some d->(ops[j]?).map (·.dst)=some d:=λj d hj=>by
  rcases lH j ds.length with h1|h1|h1
  ·rw[jr h1]at hj;exact sJ j d hj
  ·subst h1;rw[Jg,jh]at hj;rw[ho];simp[hj]
  ·rw[kq (by simp;omega)]at hj;cases hj
 obtain⟨z,w',F',os',h1,h2,h3,h4⟩:=h F os a w hr;unfold wpList;rw[jm (by unfold Region.wanted;rw[hn])];refine .inl ?_;unfold Oper.wp;rw[h1];simp only[Oper.upon];refine hk sy sk (by cases o.dst<;>exact ph) F' os' _ w' (h2.put tq h3) Q' λ_ _ _ hp=>hQ _ _ _ (hp.trans h4)
theorem YS (hs:DT P T=true)(hx:St.ev ⟨n,e,st⟩ x=.zc)(hk:AO P k ops Q (ds++[some t]) r ⟨n,EC e t (i64 0),st⟩):
  AO P k ops Q ds (⟨some t,.call ⟨.builtin .cap,#[x],#[T]⟩,ty,p,ed,none⟩::r) ⟨n,e,st⟩:=by
 refine aI rfl (st':=st) (v:=i64 0) (λF os a w hr=>?_) hk;have h1:=hr.ev x;rw[hx]at h1;simp only[Ae]at h1;obtain⟨ad,h1⟩:=h1;unfold DT at hs;split at hs
 case h_2=>cases hs
 rename_i el hu;refine⟨.int .i64 0,w,F,os,?_,hr,by simp[Ae],Ext.refl _ _ _ _⟩;simp only[execOp,resolve,invoke,builtin,kX,ku,kV,nZ,kI,lV,h1,Builtin.cap_];simp[kg hu,goInt]
theorem fp {hi:Option Operand}(he:D2 P T=some ⟨el,size,bytes,zz⟩)(hx:St.ev ⟨n,e,st⟩ x=.zc)(h2:TM (hi.map (St.ev ⟨n,e,st⟩)) 0=some 0)
  (hk:AO P k ops Q (ds++[some t]) r ⟨n,EC e t .zc,st⟩):AO P k ops Q ds (⟨some t,.slice T x none hi none,ty,p,ed,none⟩::r) ⟨n,e,st⟩:=by
 refine L9 AI ?_;rw[S0];simp only[ni];rw[hx];exact Ap _ he (Ap _ rfl (Ap _ h2 ⟨rfl,rfl,hk⟩))
theorem db {kn:IntKind}(he:D2 P T=some ⟨el,size,bytes,zz⟩)(hn:P.underlying Tn=some (.int kn))(hx:St.ev ⟨n,e,st⟩ x=.zc)(hy:St.ev ⟨n,e,st⟩ y=.int kk j)(h0:decide (0<j)=true)(hz:enc u=zz)(hj:Sh.mk u j bytes=some l')(hm:st.length=m)(pI:st++[⟨0,el,size,l'.map enc⟩]=st')
  (hk:AO P k ops Q (ds++[some t]) r ⟨n,EC e t (.own m 0 l'.length),st'⟩):AO P k ops Q ds (⟨some t,.call ⟨.builtin .append,#[x,y],#[T,Tn]⟩,ty,p,ed,none⟩::r) ⟨n,e,st⟩:=by
 subst hm;subst pI;subst hz;unfold Sh.mk at hj;split at hj
 case isFalse=>cases hj
 rename_i zM;simp only[jh]at hj;subst hj;refine aI rfl (st':=st++[(⟨0,el,size,(List.replicate j.toNat u).map enc⟩:Row)]) (v:=.own st.length 0 (List.replicate j.toNat u).length) (λF os a w hr=>?_) hk;have h1:=hr.ev x;rw[hx]at h1;simp only[Ae]at h1;obtain⟨ad,h1⟩:=h1;have h2:=hr.ev y;rw[hy]at h2;simp only[Ae]at h2;obtain⟨inf,z,hu,hi,hz,rQ,pZ,pL,hby,hzz,pn⟩:=H8 he;dsimp only at hu hi rQ pZ pL hby hzz pn;have hj0:0<j:=lB h0;obtain⟨q,rfl⟩:=kZ (Int.le_of_lt hj0);rw[lY];have hq0:0<q:=by omega
 have zP:q*inf.bytes<=281474976710656:=by
  have h9:((q*bytes:Nat):Int)<=281474976710656:=by rw[ng];exact zM.2.1
  rw[<- hby];omega
 have hold:(Builtin.firstCells inf.size 0 (.slice ad 0 0)).run P w.drew=.ok ([]:List Value).toArray w.drew:=by
  cases ad with
  | none=>exact run_firstCells_none w.drew inf.size 0 0 0
  | some ad=>exact run_firstCells_some w.drew inf.size 0 ad 0 0 [] (by simp) (by simp)
 have qN:Builtin.nextslicecap (0+q) 0*inf.bytes<=281474976710656:=by rw[kt,nextslicecap_zero hq0];exact zP
 have pK:=Lib.run_append_grow_zeros (P:=P) w T Tn ty el inf z kk kn hu hn hi hz ad 0 0 [] hold q hq0 (by omega) (by omega) (by omega) zP qN;rw[kt]at pK;have rz:=grownCap_ge w q 0 el;have hle:=mh w q 0 el (by unfold maxLen;omega);have hzc:∀i,i<z.cells.size->∃c',z.cells[i]?=some c':=λi hi=>⟨_,lA hi⟩;have rZ:=hr.OQ (k:=k) (.inr rfl) (cur:=([]:List Value).toArray++Builtin.zeroCells z.cells q++Builtin.zeroCells z.cells (grownCap w q 0 el-q)) (e:=el) (size:=size) (cap:=grownCap w q 0 el) (xs:=(List.replicate q u).map enc)
  (by omega) (λx hx=>by
   rw[nL]at hx;rw[List.eq_of_mem_replicate hx,hzz];refine⟨by simp[rQ,pL],λc hc=>pn c (by rw[hzz];exact hc)⟩)
  (by
   simp only[Array.size_append,mO,lE,size_zeroCells,rQ,pL,kt,<- kP];congr 1;omega)
  (by rw[kB,mu];omega) hle (λi x hx jj c hc=>by
   rw[nL]at hx;have hi:i<q:=by
    have:=(jg.1 hx).1;simpa using this
   have rO:x=enc u:=List.eq_of_mem_replicate (je hx);subst rO;rw[hzz]at hc;simp only[ji,jo,lq]at hc;obtain⟨c',hc1,rfl⟩:=hc;have sF:jj<z.cells.size:=(kR.1 hc1).1;refine⟨c',?_,Lm F w os c'⟩;have pG:i*size+jj<q*size:=by
    have:(i+1)*size<=q*size:=kS _ hi;rw[kP]at this;omega
   rw[Array.append_assoc,show (([]:List Value).toArray++(Builtin.zeroCells z.cells q++Builtin.zeroCells z.cells (grownCap w q 0 el-q)))=(Builtin.zeroCells z.cells q++Builtin.zeroCells z.cells (grownCap w q 0 el-q)) by simp];rw[lP (by rw[size_zeroCells,rQ,<- pL];exact pG)];unfold Builtin.zeroCells;rw[Array.getElem?_map,Array.getElem?_range];rw[jm (by rw[rQ,<- pL];exact pG)];simp only[kb,jh];have sf:(i*size+jj) % z.cells.size=jj:=by
    rw[rQ,<- pL,nf,Nat.mul_add_mod];exact mT (by omega)
   rw[sf];simp[Array.getElem!_eq_getD,Array.getD,sF,(kR.1 hc1).2])
 refine⟨.slice (some ⟨w.heap.size,0,none⟩) q (grownCap w q 0 el),_,F,_,?_,rZ.1,?_,rZ.2.1⟩
 ·simp only[execOp,resolve,invoke,builtin,kX,ku,kV,nZ,kI,lV,h1,h2];rw[pK];simp
 ·simp only[Ae];have hlen:st.length=os.length:=hr.len;exact⟨_,by rw[hlen];exact Jg _ _,jv _,⟨_,_,_,rfl⟩,λ_=>⟨by simp,.inr ⟨_,rfl,by simp⟩⟩⟩
end
section
variable {P : Program} {ds : List (Option Tmp)} {r : List Oper} {KS : St -> Prop} {n : Nat} {e : Nat -> AV} {st : List Row} {ty : TypeId} {ps : String} {ed : Array Edge} {t : Tmp} {gd : Option (Nat × Bool)} {α : Type} {l : List α} {enc : α -> List AV} {u : α} {x y : Operand} {size bytes : Nat} {el T : TypeId} {zz : List AV} {kk sX : IntKind} {j : Int}
theorem iu (hg:GO ds gd e)(he:D2 P T=some ⟨el,size,bytes,zz⟩)(hx:St.ev ⟨n,e,st⟩ x=.int kk j)(hy:St.ev ⟨n,e,st⟩ y=.int sX j)(hz:enc u=zz)(hl:Sh.mk u j bytes=some l)(hpu:EK (l.map enc))
  (hk:D6 P (ds++[some t]) r KS ⟨n,EC e t (.sl (l.map enc)),st⟩):D6 P ds (⟨some t,.makeSlice T x y,ty,ps,ed,gd⟩::r) KS ⟨n,e,st⟩:=by
 subst hz;refine cE hg rfl (λs0 e1 e2 hd k F os a w hr next Q hn=>?_) hk;have ex:s0.ev x=.int kk j:=(e2 x (by simp[Op.operands])).trans hx;have ey:s0.ev y=.int sX j:=(e2 y (by simp[Op.operands])).trans hy;have zN:=hr.ev x;have zO:=hr.ev y;rw[ex]at zN;rw[ey]at zO;unfold Sh.mk at hl;split at hl
 case isFalse=>cases hl
 rename_i h;simp only[jh]at hl;subst hl;have h9:Hr P 0 F [] ⟨s0.n,λ_=>.E2,[]⟩ a w (Instr.makeSlice T (a.eval x) (a.eval y)) (λz st=>z=.own 0 0 (List.replicate j.toNat u).length/\st=[⟨0,el,size,(List.replicate j.toNat u).map enc⟩]):=by
  refine XI (l:=.int kk j) (c:=.int sX j) hr.bare (Ap _ he ⟨rfl,h.1,h.2.1,h.2.2,?_⟩) (FZ (x:=.int kk j) rfl [] zN) (FZ (x:=.int sX j) rfl [] zO);simp
 obtain⟨u',w',F',g1,g2,g3,g4⟩:=N1 (k:=k) hr h9 (VM hpu) rfl;unfold Oper.wp;simp only[execOp,kX,g1,kV,ku,Oper.upon];exact hn _ _ (Ov (st':=s0.st) hd rfl g2 g3 g4)
end
theorem Hn {row:Row}{sZ:List Row}(h:EK row.xs)(g :∀q∈sZ,EK q.xs):∀q∈row::sZ,EK q.xs:=λq hq=>by
 rcases js.1 hq with rfl|hq
 ·exact h
 ·exact g q hq
section
variable {P : Program} {k : Nat} {ops : Array Oper} {Q : Exit -> St -> Prop} {ds : List (Option Tmp)} {r : List Oper} {n : Nat} {e : Nat -> AV} {st st' : List Row} {ty : TypeId} {p : String} {ed : Array Edge} {t : Tmp} {x y : Operand} {size bytes m : Nat} {el T : TypeId} {zz : List AV} {kk sX : IntKind} {c : Nat}
theorem bz (he:D2 P T=some ⟨el,size,bytes,zz⟩)(hx:St.ev ⟨n,e,st⟩ x=.int kk 0)(hy:St.ev ⟨n,e,st⟩ y=.int sX (c:Int))(hc:decide (c*bytes<=281474976710656/\c<=9223372036854775807)=true)(hm:st.length=m)(pI:st++[⟨0,el,size,[]⟩]=st')
  (hk:AO P k ops Q (ds++[some t]) r ⟨n,EC e t (.own m 0 0),st'⟩):AO P k ops Q ds (⟨some t,.makeSlice T x y,ty,p,ed,none⟩::r) ⟨n,e,st⟩:=by
 subst hm;subst pI;have zM:=lB hc;refine aI rfl (st':=st++[(⟨0,el,size,[]⟩:Row)]) (v:=.own st.length 0 0) (λF os a w hr=>?_) hk;have h1:=hr.ev x;rw[hx]at h1;simp only[Ae]at h1;have h2:=hr.ev y;rw[hy]at h2;simp only[Ae]at h2;obtain⟨inf,z,hu,hi,hz,rQ,pZ,pL,hby,hzz,pn⟩:=H8 he;dsimp only at hu hi rQ pZ pL hby hzz pn;have pK:=run_make (P:=P) w T el inf z hu hi hz kk sX 0 (c:Int) (by omega) (by omega) (by rw[<- hby,<- ng,nf];omega) (by omega);have rZ:=hr.OQ (k:=k) (.inl rfl) (cur:=madeCells z.cells (c*inf.size)) (e:=el) (size:=size) (cap:=c) (xs:=[]) (by omega) (by simp) (by rw[size_madeCells,pL]) (by simp) (by simp[maxLen];omega) (by simp);refine⟨.slice (some ⟨w.heap.size,0,none⟩) 0 c,_,F,_,?_,rZ.1,?_,rZ.2.1⟩
 ·simp only[execOp,kX,ku,kV,h1,h2];rw[pK];simp
 ·simp only[Ae];have hlen:st.length=os.length:=hr.len;exact⟨_,by rw[hlen];exact Jg _ _,jv _,⟨_,_,_,rfl⟩,λ_=>⟨by simp,.inr ⟨_,rfl,by simp⟩⟩⟩
end
end Go.Abs
namespace Go.Abs
open Go
variable {P : Program} {n : Nat} {e : Nat -> AV} {st : List Row} {t : Tmp} {ty : TypeId} {ps : String} {ed : Array Edge} {x : Operand}
theorem Jz {id g i off ru el size j f:Nat}{tt:TypeId}{xs:List (List AV)}(hf:Hd P tt f=some j)(h:St.ev ⟨n,e,st⟩ x=.ptr id g i off)(oY:st[id]?=some ⟨g,el,size,xs⟩)(hl:off+j<=size)(ho:off+j=ru):OW P ⟨n,e,st⟩ ⟨some t,.fieldAddr tt x f,ty,ps,ed,none⟩ (.ptr id g i ru):=
 ⟨rfl,λF os a w hr=>by
  subst ho;have h1:=hr.ev x;rw[h]at h1;unfold Hd at hf;split at hf<;>try (cases hf;done)
  rename_i fs hu;split at hf<;>try (cases hf;done)
  rename_i g1 hg;split at hf<;>try (cases hf;done)
  rename_i i1 hi;split at hf
  ·cases hf
  rename_i hz;simp only[jh]at hf;have pK:∀b off w',(Instr.fieldAt tt (.pointer (some ⟨b,off,none⟩)) f).run P w'=.ok (.pointer (some ⟨b,off+j,none⟩)) w':=λb off w'=>by
   simp[Instr.fieldAt,kg hu,hg,Instr.sureAddr,fieldPlace,sizeOf,typeInfo,hi,hz,DI,hf]
  obtain⟨ow,how,hrw⟩:=hr.row oY;simp only[Ae]at h1;obtain⟨o',pQ,rz,_,hv⟩:=h1;rw[how]at pQ;cases pQ;have tn:ow.row.gen=g:=by rw[hrw]
  obtain⟨h2,h3,b,hb,e2⟩:=hv tn;refine⟨.pointer (some ⟨b,i*ow.row.size+off+j,none⟩),λw'=>?_,?_⟩
  ·simp[execOp,e2,pK]
  ·simp only[Ae];exact⟨ow,how,rz,⟨_,rfl⟩,λ_=>⟨h2,by rw[hrw];exact hl,b,hb,by rw[lS]⟩⟩⟩
end Go.Abs
namespace Go.Abs
open Go
def SF (F:Nat->Prop)(w:World):World->Prop:=λw'=>∀b,F b->w'.heap[b]?=w.heap[b]?
section
variable {P : Program} {k : Nat} {ops : Array Oper} {Q : Exit -> St -> Prop} {N f i : Nat} {oS listed' : Array Bool} {s s' : St} {o : Oper}
def AY (P:Program)(k:Nat)(ops:Array Oper)(Q:Exit->St->Prop)(N f:Nat)(oS:Array Bool)(s:St):Prop:=
 s.n=N/\∀F0 os0 w0 F os a w,Rel F os s a w->Ext F0 os0 w0 F os w k->wpAnyH P .any ops (NI k Q F0 os0 w0) (SF F0 w0) f oS a w
def Y4 (P:Program)(k:Nat)(ops:Array Oper)(Q:Exit->St->Prop)(N f:Nat)(oS:Array Bool)(s:St)(i:Nat):Prop:=
 ∀F0 os0 w0 F os a w,Rel F os s a w->Ext F0 os0 w0 F os w k->wpOp P ops (NI k Q F0 os0 w0) i (λa' w'=>SF F0 w0 w'/\wpAnyH P .any ops (NI k Q F0 os0 w0) (SF F0 w0) f (oS.setIfInBounds i true) a' w') a w
def cL (P:Program)(k:Nat)(ops:Array Oper)(Q:Exit->St->Prop)(N f:Nat)(oS:Array Bool)(s:St):List Nat->Prop
 | []=>True
 | i::r=>Y4 P k ops Q N f oS s i/\cL P k ops Q N f oS s r
theorem cL.get:∀{l:List Nat},cL P k ops Q N f oS s l->∀i∈l,Y4 P k ops Q N f oS s i
 | j::r,h,i,hi=>by
  rcases js.1 hi with rfl|hi
  ·exact h.1
  ·exact cL.get h.2 i hi
theorem AY.all (rs:List Nat)(hn:s.n=N)(hr:Region.ready .any ops oS=rs)(pN:rs≠[])(h:cL P k ops Q N f oS s rs):AY P k ops Q N (f+1) oS s:=
 ⟨hn,λF0 os0 w0 F os a w hrel he=>wpAnyH_all hr pN λi hi=>h.get i hi F0 os0 w0 F os a w hrel he⟩
theorem Qu (hn:s.n=N)(hr:Region.ready .any ops oS=[])(h:Q .normal s):AY P k ops Q N f oS s:=
 ⟨hn,λ_ _ _ F os a w hrel he=>wpAnyH_done hr ⟨s,F,os,⟨rfl,h⟩,hrel,he⟩ f⟩
theorem Rx (hw:Wk k s s')(h:AY P k ops Q N f oS s')(hn:s.n=N):AY P k ops Q N f oS s:=
 ⟨hn,λF0 os0 w0 F os a w hrel he=>by
  obtain⟨F1,pU,h1,e1⟩:=hw F os a w hrel;exact h.2 F0 os0 w0 F1 pU a w h1 (he.trans e1)⟩
theorem Wy (h:oS=listed')(ha:AY P k ops Q N f oS s):AY P k ops Q N f listed' s:=h▸ha
theorem Sr (h :∀A:Nat->Array Bool->St->Prop,(∀f l s,A f l s↔AY P k ops Q N f l s)->A f oS s):AY P k ops Q N f oS s:=
 h (AY P k ops Q N) (λ_ _ _=>Iff.rfl)
theorem Y4.of (ho:ops[i]?=some o)(hg:Nq o i=true)(hd:(ops.toList.all λo=>DC s.n o.dst)=true)
  (h:AO P k (ops.extract 0 (i+1)) (λe s'=>e=.normal/\AY P k ops Q N f (oS.setIfInBounds i true) s') ((ops.toList.take i).map (·.dst)) [o] s):Y4 P k ops Q N f oS s i:=by
 intro F0 os0 w0 F os a w hrel he;have hi:i<ops.size:=(kR.1 ho).1;have hex:∀j,(ops.extract 0 (i+1))[j]?=if j<i+1 then ops[j]? else none:=λj=>by
  rw[Array.getElem?_extract];split<;>split<;>simp_all<;>omega
 have h1:=h (λj=>by
   have hlen:((ops.toList.take i).map (·.dst)).length=i:=by simp;omega
   rw[hlen,hex];cases j with
   | zero=>simp[ho]
   | succ j=>rw[jn (by omega)];simp) (λj d hj=>by
   simp only[ji,kL]at hj;split at hj
   ·rw[hex,jm (by omega)];simpa using hj
   ·cases hj) (λo' pQ=>by
   obtain⟨j,hj⟩:=jz.1 pQ;rw[lq,hex]at hj;split at hj
   ·exact jq.1 hd o' (je (i:=j) (by simpa using hj))
   ·cases hj) F os a w hrel (λe a' w'=>e=.normal/\SF F0 w0 w'/\wpAnyH P .any ops (NI k Q F0 os0 w0) (SF F0 w0) f (oS.setIfInBounds i true) a' w') (by
   rintro e a' w' ⟨s',F',os',⟨rfl,hax⟩,qF,he'⟩;exact⟨rfl,(he.trans he').IJ,hax.2 F0 os0 w0 F' os' a' w' qF (he.trans he')⟩)
 have hy:Region.wanted o (yielded (ops.extract 0 (i+1)) a.tmps)=Region.wanted o (yielded ops a.tmps):=by
  unfold Region.wanted;unfold Nq at hg;cases hgd:o.guard with
  | none=>rfl
  | some p=>
   obtain⟨j,want⟩:=p;rw[hgd]at hg;simp only[jw]at hg;simp only[yielded,hex,jm hg]
 unfold wpList at h1;unfold wpOp;simp only[ho];rw[hy]at h1;split at h1
 ·rename_i hw;rw[jm hw];rcases h1 with h1|⟨_,a1,w1,h1,_⟩
  ·refine .inl (Oper.wp_mono (λa' w' h'=>?_) (OC (λc a' w' h'=>?_) (λh'=>?_) h1))
   ·exact h'.2
   ·exact nomatch h'.1
   ·obtain⟨_,_,h2,_⟩:=h';exact nomatch h2
  ·exact nomatch h1
 ·rename_i hw;rw[jn hw];exact h1.2
theorem TR (i:Nat){v:AV}(hn:s.n=N)(ho:ops[i]?=some o)(hs:Region.noSelect ops=true)(hf:Region.free .any ops oS i=true)(hr:(Region.ready .any ops oS).contains i=true)(hd:DC s.n o.dst=true)(hh:OW P s o v)
  (h:AY P k ops Q N f (oS.setIfInBounds i true) (s.put o.dst v)):AY P k ops Q N (f+1) oS s:=
 ⟨hn,λF0 os0 w0 F os a w hrel he=>by
  obtain⟨hg,hh⟩:=hh;obtain⟨u,hu,hv⟩:=hh F os a w hrel;refine wpAnyH_take ho hs hf hr (λc a w ⟨_,_,_,hp,_⟩=>nomatch hp.1) (.inl ⟨by unfold Region.wanted;rw[hg],λw' _=>hu w'⟩) he.IJ ?_;exact h.2 F0 os0 w0 F os _ w (hrel.put hd hv) he⟩
def AZ (P:Program)(k:Nat)(ops:Array Oper)(Q:Exit->St->Prop)(N f:Nat)(oS:Array Bool)(s:St):Prop:=
 s.n=N/\∀F os a w,Rel F os s a w->wpAnyH P .any ops (NI k Q F os w) (SF F w) f oS a w
theorem VY {f':Nat}(hf:f=f')(hl:oS=listed')(h:AZ P k ops Q N f' listed' s):AZ P k ops Q N f oS s:=hf▸hl▸h
theorem V3 (h:AY P k ops Q N f oS s):AZ P k ops Q N f oS s:=
 ⟨h.1,λF os a w hr=>h.2 F os w F os a w hr (Ext.refl F os w k)⟩
theorem PI {id:Nat}(hm:P.follows .mixedOrders=true)(h:AZ P k ops Q s.n ops.size (Array.replicate ops.size false) s):AW P k (.region id ops true) Q s:=by
 intro F os a w hr;obtain⟨vA,he1⟩:=hr.drew (k:=k);refine mK (wp_region_held hm (h.2 F os a w.drew vA)) ?_;rintro e a' w' ⟨s',F',os',⟨rfl,hq⟩,h1,h2⟩;exact⟨s',F',os',hq,h1,he1.trans h2⟩
def P1 (P:Program)(s:St)(o:Oper)(v:AV):Prop:=
 o.guard=none/\∀F os a w,Rel F os s a w->∃u,(∀w',SF F w w'->(execOp a.eval o).run P w'=.ok (.value u) w')/\Ae F w os v u
theorem E3 {v:AV}(h:OW P s o v):P1 P s o v:=⟨h.1,λF os a w hr=>let ⟨u,h1,h2⟩:=h.2 F os a w hr;⟨u,λw' _=>h1 w',h2⟩⟩
theorem DV (i:Nat){v:AV}(hn:s.n=N)(ho:ops[i]?=some o)(hs:Region.noSelect ops=true)(hf:Region.free .any ops oS i=true)(hr:(Region.ready .any ops oS).contains i=true)(hd:DC s.n o.dst=true)(hh:P1 P s o v)
  (h:AZ P k ops Q N f (oS.setIfInBounds i true) (s.put o.dst v)):AZ P k ops Q N (f+1) oS s:=
 ⟨hn,λF os a w hrel=>by
  obtain⟨hg,hh⟩:=hh;obtain⟨u,hu,hv⟩:=hh F os a w hrel;refine wpAnyH_take ho hs hf hr (λc a w ⟨_,_,_,hp,_⟩=>nomatch hp.1) (.inl ⟨by unfold Region.wanted;rw[hg],hu⟩) (λ_ _=>rfl) ?_;exact h.2 F os _ w (hrel.put hd hv)⟩
end
section
variable {P : Program} {n : Nat} {e : Nat -> AV} {st : List Row} {t : Tmp} {ty : TypeId} {ps : String} {ed : Array Edge} {x : Operand}
theorem Md {off ru j f:Nat}{tt:TypeId}{cs:List AV}(hf:Hd P tt f=some j)(h:St.ev ⟨n,e,st⟩ x=.Bh cs off)(ho:off+j=ru):OW P ⟨n,e,st⟩ ⟨some t,.fieldAddr tt x f,ty,ps,ed,none⟩ (.Bh cs ru):=
 ⟨rfl,λF os a w hr=>by
  subst ho;have h1:=hr.ev x;rw[h]at h1;unfold Hd at hf;split at hf<;>try (cases hf;done)
  rename_i fs hu;split at hf<;>try (cases hf;done)
  rename_i g1 hg;split at hf<;>try (cases hf;done)
  rename_i i1 hi;split at hf
  ·cases hf
  rename_i hz;simp only[jh]at hf;have pK:∀b off w',(Instr.fieldAt tt (.pointer (some ⟨b,off,none⟩)) f).run P w'=.ok (.pointer (some ⟨b,off+j,none⟩)) w':=λb off w'=>by
   simp[Instr.fieldAt,kg hu,hg,Instr.sureAddr,fieldPlace,sizeOf,typeInfo,hi,hz,DI,hf]
  simp only[Ae]at h1;obtain⟨b,o',e2,hb,hc⟩:=h1;refine⟨.pointer (some ⟨b,o'+off+j,none⟩),λw'=>?_,?_⟩
  ·simp[execOp,e2,pK]
  ·simp only[Ae];exact⟨b,o',by rw[lS],hb,hc⟩⟩
theorem OV {off sz:Nat}{tt:TypeId}{cs:List AV}{c:AV}(xO:D7 P tt=some (false,sz))(h:St.ev ⟨n,e,st⟩ x=.Bh cs off)(hc:cs[off]?=some c):P1 P ⟨n,e,st⟩ ⟨some t,.load tt x,ty,ps,ed,none⟩ c:=
 ⟨rfl,λF os a w hr=>by
  have h1:=hr.ev x;rw[h]at h1;simp only[Ae]at h1;obtain⟨b,o',e2,hb,qk⟩:=h1;obtain⟨d,i,hud,hi,e1,e3⟩:=I5 xO;obtain⟨u,hu1,qz,hu3⟩:=Kw (os:=os) qk off c hc;refine⟨u,λw' xP=>?_,hu3⟩;have rR:=Kf (w:=w') hud;rw[<- e1]at rR;have pb:w'.cell? ⟨b,o'+off,none⟩=some u:=by rw[<- hu1];exact mF (xP b hb)
  simp[execOp,e2,Instr.loadAt,Instr.sureAddr,loadVar,rR,pb]⟩
theorem TW {off sz:Nat}{tt:TypeId}{cs:List AV}{c:AV}(xO:D7 P tt=some (true,sz))(h:St.ev ⟨n,e,st⟩ x=.Bh cs off)(hl:off+sz<=cs.length)(hc:.agg ((cs.drop off).take sz)=c):P1 P ⟨n,e,st⟩ ⟨some t,.load tt x,ty,ps,ed,none⟩ c:=
 ⟨rfl,λF os a w hr=>by
  subst hc;have h1:=hr.ev x;rw[h]at h1;simp only[Ae]at h1;obtain⟨b,o',e2,hb,qk⟩:=h1;obtain⟨d,i,hud,hi,e1,e3⟩:=I5 xO;have hx:=Kw (os:=os) qk;have yX:∃f:Nat->Value,∀j,j<sz->w.cell? ((⟨b,o'+off,none⟩:Addr).add j)=some (f j)/\∀c,cs[off+j]?=some c->Ae F w os c (f j):=
   ⟨λj=>(w.cell? ((⟨b,o'+off,none⟩:Addr).add j)).getD undef,λj hj=>by
    have pG:off+j<cs.length:=by omega
    obtain⟨u,hu1,_,qz⟩:=hx (off+j) cs[off+j] (jl pG);have xQ:w.cell? ((⟨b,o'+off,none⟩:Addr).add j)=some u:=by rw[DI,<- hu1,lS]
    simp only[xQ,lg];refine⟨jf,λc hc=>?_⟩;rw[jl pG,jh]at hc;exact hc▸qz⟩
  obtain⟨f,hf⟩:=yX;refine⟨.agg ((List.range sz).map f).toArray,λw' xP=>?_,?_⟩
  ·have rR:=Kf (w:=w') hud;rw[<- e1]at rR;have pL:(sizeOf tt).run P w'=.ok i.size w':=by simp[sizeOf,typeInfo,hi]
   have vW:=run_loadCells (P:=P) w' ⟨b,o'+off,none⟩ sz f (λj hj=>by
    rw[<- (hf j hj).1,DI];exact mF (xP b hb))
   simp only at e3;simp[execOp,e2,Instr.loadAt,Instr.sureAddr,loadVar,rR,pL,<- e3,vW]
  ·simp only[Ae];refine⟨_,rfl,DZ (by simp;omega) λj c u hc hu=>?_⟩;simp only[kL,kW]at hc;split at hc
   ·rename_i hj;simp only[ji,lN hj,kb,jh]at hu;subst hu;exact (hf j hj).2 c hc
   ·cases hc⟩
end
section
variable {P : Program} {k : Nat} {α : Type} {l : List α} {enc : α -> List AV}
variable {ops : Array Oper} {Q : Exit -> St -> Prop} {ds : List (Option Tmp)} {r : List Oper} {n : Nat} {e : Nat -> AV} {st st' : List Row} {ty : TypeId} {ps : String} {ed : Array Edge} {v : AV} {gd : Option (Nat × Bool)} {T : TypeId} {x y : Operand} {ag : Bool} {sz id g size off : Nat} {el : TypeId} {cs cs' : List AV} {c : α} {i : Int}
end
end Go.Abs
namespace Go.Abs
open Go
end Go.Abs
namespace Go.Abs
open Go
def Sa (size:Nat):Nat->List (Nat×AV)->List (List AV)->Prop
 | _,[],[]=>True
 | k,(i,v)::r,c::cs=>i=k/\KK v=some c/\c.length=size/\Sa size (k+1) r cs
 | _,_,_=>False
theorem Sa.len {size:Nat}:∀{k:Nat} {pv:List (Nat×AV)} {vG:List (List AV)},Sa size k pv vG->pv.length=vG.length/\∀c∈vG,c.length=size
 | _,[],[],_=>⟨rfl,by simp⟩
 | k,(i,v)::r,c::cs,h=>by
  obtain⟨h1,h2⟩:=Sa.len h.2.2.2;refine⟨by simp[h1],λx hx=>?_⟩;rcases js.1 hx with rfl|hx
  ·exact h.2.2.1
  ·exact h2 x hx
theorem Tl {size:Nat}:∀(pv:List (Nat×AV)) (vG:List (List AV)) (k:Nat) (pre rest:List AV),pre.length=k*size->rest.length=pv.length*size->Sa size k pv vG->MH (λi=>some (i*size,size)) (pre++rest) pv=some (pre++vG.flatten)
 | [],[],k,pre,rest,_,h2,_=>by
  have:rest=[]:=ka (by simpa using h2);subst this;rfl
 | (i,v)::r,c::cs,k,pre,rest,h1,h2,h=>by
  obtain⟨rfl,hv,hc,hr⟩:=h;rw[kQ,kP,Nat.one_mul]at h2;have pG:size<=rest.length:=by omega
  unfold MH;simp only[hv];rw[jm ⟨hc,by rw[kD];omega⟩];have hs:G5 (pre++rest) (i*size) c=(pre++c)++rest.drop size:=by
   unfold G5;rw[<- h1,List.take_left,hc,List.drop_append,lz (by omega),lR,show pre.length+size-pre.length=size by omega]
  rw[hs,Tl r cs (i+1) (pre++c) (rest.drop size) (by rw[kD,kP];omega) (by rw[mI];omega) hr];simp
theorem Td {size:Nat}:∀(vG:List (List AV)),(∀c∈vG,c.length=size)->chunk size vG.length vG.flatten=vG
 | [],_=>rfl
 | c::cs,h=>by
  have hc:=h c (by simp);show (c++cs.flatten).take size::chunk size cs.length ((c++cs.flatten).drop size)=_;rw[<- hc,List.take_left,List.drop_left,hc,Td cs λx hx=>h x (by simp[hx])]
theorem AT {k n:Nat}{e:Nat->AV}{st st':List Row}{L:List (Nat×AV)}(sel:List Nat)(hk:sel.take k=List.range k)(qM:sel.Nodup)(pG:sel.all (·<st.length)=true)(hp:Cc st sel=st')(hs:SR sel st' st')(h:ME (λt=>KB sel (e t)) L):
  Wk k ⟨n,e,st⟩ ⟨n,Aa L,st'⟩:=LC sel hk qM pG hp hs h
section
variable {P : Program} {k : Nat} {α : Type} {l : List α} {enc : α -> List AV} {ops : Array Oper} {Q : Exit -> St -> Prop} {ds : List (Option Tmp)} {r : List Oper} {n : Nat} {e : Nat -> AV} {st st' : List Row} {ty : TypeId} {ps : String} {ed : Array Edge} {t : Tmp} {gd : Option (Nat × Bool)} {T : TypeId} {bytes size m : Nat} {el : TypeId} {zz : List AV}
theorem eu {len:Nat}{parts:Array (Nat×Operand)}{pv:List (Nat×AV)}(hg:GO ds gd e)(he:D2 P T=some ⟨el,size,bytes,zz⟩)(hle:len*size<=16777216)(hp:(parts.toList.map λp=>(p.1,St.ev ⟨n,e,st⟩ p.2))=pv)
  (hz:zz.length=size) (hf:Sa size 0 pv (l.map enc)) (wT:len=l.length) (hm:st.length=m) (pI:st++[⟨0,el,size,l.map enc⟩]=st') (hk:AO P k ops Q (ds++[some t]) r ⟨n,EC e t (.own m 0 l.length),st'⟩) :
  AO P k ops Q ds (⟨some t,.buildSlice T len parts,ty,ps,ed,gd⟩::r) ⟨n,e,st⟩:=by
 obtain⟨h1,h2⟩:=hf.len;have hl:(l.map enc).length=len:=by rw[kB,wT]
 have ha:=Tl pv (l.map enc) 0 [] (List.replicate len zz).flatten (by simp) (by rw[h1,hl];simp[hz]) hf;rw[lR,lR]at ha;refine BF (cs:=(l.map enc).flatten) hg he hle hp ha ?_ wT hm pI hk;rw[<- hl];exact Td _ h2
end
end Go.Abs
namespace Go.Abs
open Go
section
variable {P : Program} {k : Nat} {ops : Array Oper} {Q : Exit -> St -> Prop} {ds : List (Option Tmp)} {r : List Oper} {n : Nat} {e : Nat -> AV} {st st' : List Row} {ty : TypeId} {ps : String} {ed : Array Edge} {gd : Option (Nat × Bool)} {T : TypeId} {x y : Operand} {size id g sz : Nat} {el : TypeId} {α : Type} {l : List α} {enc : α -> List AV} {c : α} {i : Int} {v : AV} {cs x0 : List AV} {ag : Bool}
end
end Go.Abs
namespace Go.Abs
open Go
structure MS where
 n:Nat
 e:Nat->AV
 x:Row
 z:List Row
def MS.st (R:List Row)(m:MS):St:=⟨m.n,m.e,m.x::(R++m.z)⟩
def MS.put (m:MS)(d:Option Tmp)(v:AV):MS:=match d with
 | some d=>{ m with e:=EC m.e d v }
 | none=>m
theorem OT (R:List Row)(m:MS)(d:Option Tmp)(v:AV):(m.put d v).st R=(m.st R).put d v:=by cases d<;>rfl
theorem Mp (m:MS)(d:Option Tmp)(v:AV):(m.put d v).x=m.x:=by cases d<;>rfl
theorem Mo (m:MS)(d:Option Tmp)(v:AV):(m.put d v).z=m.z:=by cases d<;>rfl
theorem Mi (m:MS)(d:Option Tmp)(v:AV):(m.put d v).n=m.n:=by cases d<;>rfl
def MS.ev (m:MS)(x:Operand):AV:=St.ev ⟨m.n,m.e,[]⟩ x
theorem Tq (R:List Row)(m:MS)(x:Operand):(m.st R).ev x=m.ev x:=by cases x<;>rfl
inductive Kind where
 | q
 | l (x y:Row)
 | a (row:Row)
def Kind.D:Kind->Row->List Row->Prop
 | .q,_,_=>True
 | .l x0 _,x,_=>x=x0
 | .a _,_,z=>z=[]
def Kind.fx:Kind->Row->Row
 | .l _ y,_=>y
 | _,x=>x
def Kind.fz:Kind->List Row->List Row
 | .a row,_=>[row]
 | _,z=>z
def Th (o:Oper):Bool:=match o.op with
 | .call ⟨.value _,_,_⟩=>true
 | _=>false
def Ta (o:Oper):Bool:=match o.op with
 | .alloc _=>true
 | _=>false
def Kind.fits:Kind->Oper->Prop
 | .q,_=>True
 | .l ..,o=>Th o=true
 | .a _,o=>Ta o=true
def MS.go (m:MS)(kd:Kind):MS:=⟨m.n,m.e,kd.fx m.x,kd.fz m.z⟩
section
variable {P : Program} {k : Nat} {ops : Array Oper} {md : Region.Mode} {R : List Row}
def jU (P:Program)(k:Nat)(o:Oper)(s s':St):Prop:=
 ∀(F:Nat->Prop) (os:List Own) (a:Act) (w:World),Rel F os s a w->∀(next:Act->World->Prop) (Q:Exit->Act->World->Prop),
  (∀a' w',Step k s.n F os w (·=s') a' w'->next a' w')->o.wp P a w next Q
def bP (P:Program)(k:Nat)(R:List Row)(o:Oper)(n:Nat)(ev:Operand->AV)(kd:Kind)(v:AV):Prop:=
 ∀x z e,kd.D x z->(∀y∈o.op.operands,MS.ev ⟨n,e,x,z⟩ y=ev y)->DC n o.dst=true->jU P k o (MS.st R ⟨n,e,x,z⟩) (MS.st R ((MS.go ⟨n,e,x,z⟩ kd).put o.dst v))
def ib (P:Program)(k:Nat)(R:List Row)(o:Oper)(m m':MS):Prop:=
 ∃kd v,Kind.fits kd o/\kd.D m.x m.z/\m'=(m.go kd).put o.dst v/\bP P k R o m.n m.ev kd v
def MT (P:Program)(k:Nat)(R:List Row)(ops:Array Oper)(o:Oper)(m m':MS):Prop:=
 (FY ops o (m.st R)=some true/\ib P k R o m m')∨(FY ops o (m.st R)=some false/\m'=m.put o.dst .un)
def U6 (P:Program)(k:Nat)(R:List Row)(ops:Array Oper)(i:Nat)(K:MS->Prop)(m:MS):Prop:=
 match ops[i]? with
 | none=>K m
 | some o=>∃m',MT P k R ops o m m'/\K m'
theorem VD {m:MS}{d:Option Tmp}{v:AV}{x:Operand}(h :∀t,d=some t->x≠.tmp t):(m.put d v).ev x=m.ev x:=by
 cases d with
 | none=>rfl
 | some d=>
  cases x with
  | tmp t=>
   have pN:t≠d:=λe=>h d rfl (e▸rfl);simp[MS.ev,MS.put,St.ev,EC,pN]
  | _=>rfl
theorem Lp (m:MS){x y:Option Tmp}(v u:AV)(h :∀d,x=some d->y≠some d):(m.put x v).put y u=(m.put y u).put x v:=by
 cases x with
 | none=>rfl
 | some d=>
  cases y with
  | none=>rfl
  | some e=>
   have pN:d≠e:=λhe=>h d rfl (he▸rfl);simp only[MS.put,MS.mk.injEq,true_and,and_true];funext t;simp only[EC];by_cases h1:t=d
   ·subst h1;simp[pN]
   ·by_cases h2:t=e
    ·subst h2;simp[h1]
    ·simp[h1,h2]
theorem UW (m:MS)(kd:Kind)(d:Option Tmp)(v:AV):(m.put d v).go kd=(m.go kd).put d v:=by cases d<;>rfl
theorem VO {o:Oper}{m:MS}:FY ops o (m.st R)=FY ops o ⟨m.n,m.e,[]⟩:=rfl
theorem HL {oi:Oper}{m:MS}{d:Option Tmp}{u:AV}{kd:Kind}(hd :∀t,d=some t->t ∉ oi.looksAt ops):FY ops oi (((m.go kd).put d u).st R)=FY ops oi (m.st R):=by
 rw[VO,VO];unfold FY;cases hg:oi.guard with
 | none=>rfl
 | some p=>
  obtain⟨j,want⟩:=p;dsimp only;cases ht:(ops[j]?).bind (·.dst) with
  | none=>rfl
  | some t=>
   dsimp only;have:((m.go kd).put d u).e t=m.e t:=VD (m:=m.go kd) (x:=.tmp t) λt' uz e=>hd t' uz (by
    cases e;exact mD _ (by simp[hg,ht]))
   rw[this]
theorem Ku {oi:Oper}{m:MS}{d:Option Tmp}{u:AV}(hd :∀t,d=some t->t ∉ oi.looksAt ops):∀x∈oi.op.operands,(m.put d u).ev x=m.ev x:=λx hx=>
 VD λt ht yu=>hd t ht (by
  subst yu;exact ko _ (kz.2 ⟨.tmp t,by simpa using hx,rfl⟩))
theorem bP.congr {o:Oper}{n:Nat}{ev ev':Operand->AV}{kd:Kind}{v:AV}(h:bP P k R o n ev kd v)(he :∀y∈o.op.operands,ev' y=ev y):bP P k R o n ev' kd v:=
 λx z e hD ho hd=>h x z e hD (λy hy=>(ho y hy).trans (he y hy)) hd
theorem Zv {ki kj:Kind}{oi oj:Oper}(hi:ki.fits oi)(hj:kj.fits oj)(hf:¬ (Th oi=true/\Th oj=true))(ha:¬ (Ta oi=true/\Ta oj=true)){x:Row}{z:List Row}(h1:ki.D x z)(h2:kj.D (ki.fx x) (ki.fz z)):
  kj.D x z/\ki.D (kj.fx x) (kj.fz z)/\ki.fx (kj.fx x)=kj.fx (ki.fx x)/\ki.fz (kj.fz z)=kj.fz (ki.fz z):=by
 cases ki with
 | q=>exact⟨h2,jf,rfl,rfl⟩
 | l x0 y=>
  cases kj with
  | q=>exact⟨jf,h1,rfl,rfl⟩
  | l x1 y1=>exact absurd ⟨hi,hj⟩ hf
  | a row=>exact⟨h2,h1,rfl,rfl⟩
 | a row=>
  cases kj with
  | q=>exact⟨jf,h1,rfl,rfl⟩
  | l x1 y1=>exact⟨h2,h1,rfl,rfl⟩
  | a row1=>exact absurd ⟨hi,hj⟩ ha
theorem dx {oi oj:Oper}{m mi mij:MS}(yv:oi.apart ops oj=true)(hf:¬ (Th oi=true/\Th oj=true))(ha:¬ (Ta oi=true/\Ta oj=true))(hi:MT P k R ops oi m mi)(hj:MT P k R ops oj mi mij):
  ∃mj,MT P k R ops oj m mj/\MT P k R ops oi mj mij:=by
 obtain⟨h1,h2,h3⟩:=Oper.apart_spec yv;have hq:∀(m:MS),m.go .q=m:=λm=>rfl;rcases hi with ⟨wi,ki,vi,fi,di,rfl,gi⟩|⟨wi,rfl⟩<;>rcases hj with ⟨wj,kj,vj,fj,dj,rfl,gj⟩|⟨wj,rfl⟩
 ·rw[HL h1]at wj;rw[Mp,Mo]at dj;obtain⟨e1,e2,e3,e4⟩:=Zv fi fj hf ha di dj;refine⟨(m.go kj).put oj.dst vj,.inl ⟨wj,kj,vj,fj,e1,rfl,?_⟩,.inl ⟨by rw[HL h3];exact wi,ki,vi,fi,by rw[Mp,Mo];exact e2,?_,?_⟩⟩
  ·rw[Mi]at gj;exact gj.congr λy hy=>(Ku (m:=m.go ki) (u:=vi) h1 y hy).symm
  ·rw[UW,UW,<- Lp _ vi vj h2];congr 2;simp only[MS.go,e3,e4]
  ·rw[Mi];exact gi.congr λy hy=>Ku (m:=m.go kj) h3 y hy
 ·rw[HL h1]at wj;refine⟨m.put oj.dst .un,.inr ⟨wj,rfl⟩,.inl ⟨by have:=HL (R:=R) (m:=m) (kd:=.q) (u:=.un) h3;rw[hq]at this;rw[this];exact wi,ki,vi,fi,by rw[Mp,Mo];exact di,?_,?_⟩⟩
  ·rw[UW,<- Lp _ vi .un h2]
  ·rw[Mi];exact gi.congr λy hy=>Ku h3 y hy
 ·have h5:=HL (R:=R) (m:=m) (kd:=.q) (u:=.un) h1;rw[hq]at h5;rw[h5]at wj;rw[Mp,Mo]at dj;refine⟨(m.go kj).put oj.dst vj,.inl ⟨wj,kj,vj,fj,dj,rfl,?_⟩,.inr ⟨by rw[HL h3];exact wi,?_⟩⟩
  ·rw[Mi]at gj;exact gj.congr λy hy=>(Ku h1 y hy).symm
  ·rw[UW,<- Lp _ .un vj h2]
 ·have h5:=HL (R:=R) (m:=m) (kd:=.q) (u:=.un) h1;have h6:=HL (R:=R) (m:=m) (kd:=.q) (u:=.un) h3;rw[hq]at h5 h6;rw[h5]at wj;exact⟨m.put oj.dst .un,.inr ⟨wj,rfl⟩,.inr ⟨by rw[h6];exact wi,by rw[<- Lp _ .un .un h2]⟩⟩
def anyM (P:Program)(k:Nat)(R:List Row)(md:Region.Mode)(ops:Array Oper)(n:Nat)(L:Array Bool->MS->Prop):Nat->Array Bool->MS->Prop
 | 0,oS,s=>L oS s
 | f+1,oS,s=>Region.ready md ops oS≠[]/\∀i∈Region.ready md ops oS,i<n/\U6 P k R ops i (anyM P k R md ops n L f (oS.setIfInBounds i true)) s
theorem WH {F:Nat->Prop}{os:List Own}{a:Act}{w:World}{i:Nat}{K:MS->Prop}{m:MS}(ph :∀o∈ops.toList,DC m.n o.dst=true)(hr:Rel F os (m.st R) a w)(h:U6 P k R ops i K m){next:Act->World->Prop}{Q:Exit->Act->World->Prop}
  (hn :∀a' w',Step k m.n F os w (λs=>∃m',s=m'.st R/\K m') a' w'->next a' w'):wpOp P ops Q i next a w:=by
 unfold U6 at h;unfold wpOp;split
 ·rename_i ho;simp only[ho]at h;exact hn a w ⟨m.st R,F,os,rfl,⟨m,rfl,h⟩,hr,Ext.refl _ _ _ _⟩
 ·rename_i o ho;simp only[ho]at h;obtain⟨m',hy,hK⟩:=h;have tq:=ph o (by have:=je (l:=ops.toList) (i:=i) (by simpa using ho);exact this);rcases hy with ⟨hw,kd,v,_,hD,rfl,hg⟩|⟨hw,rfl⟩
  ·rw[jm (My hr ph hw)];refine .inl (hg m.x m.z m.e hD (λ_ _=>rfl) tq F os a w hr next Q ?_);rintro a' w' ⟨s',F',os',h1,rfl,h3,h4⟩;exact hn a' w' ⟨_,F',os',h1,⟨_,rfl,hK⟩,h3,h4⟩
  ·rw[jn (by rw[My hr ph hw];simp)];exact hn _ w ⟨_,F,os,by rw[OT];cases o.dst<;>rfl,⟨_,rfl,hK⟩,by rw[OT];exact hr.un tq,Ext.refl _ _ _ _⟩
theorem Ox {n g N:Nat}{L:Array Bool->MS->Prop}{Q':Exit->Act->World->Prop}{F0:Nat->Prop}{os0:List Own}{w0:World}(ph :∀o∈ops.toList,DC N o.dst=true)
  (hL :∀oS (m:MS) F os a w,m.n=N->L oS m->Rel F os (m.st R) a w->Ext F0 os0 w0 F os w k->wpAny P md ops Q' g oS a w) :
  ∀(f:Nat) (oS:Array Bool) (m:MS) F os a w,m.n=N->anyM P k R md ops n L f oS m->Rel F os (m.st R) a w->Ext F0 os0 w0 F os w k->wpAny P md ops Q' (f+g) oS a w
 | 0,oS,s,F,os,a,w,hn,h,hr,he=>by rw[kt];exact hL _ _ _ _ _ _ hn h hr he
 | f+1,oS,s,F,os,a,w,hn,h,hr,he=>by
  rw[show f+1+g=(f+g)+1 by omega];refine⟨λh0=>absurd h0 h.1,λi hi=>?_⟩;refine WH (k:=k) (by rw[hn];exact ph) hr (h.2 i hi).2 ?_;rintro a' w' ⟨s',F',os',h1,⟨m',rfl,h2⟩,h3,h4⟩;exact Ox ph hL f _ m' F' os' a' w' (by rw[<- hn];exact h1) h2 h3 (he.trans h4)
def Iv (ops:Array Oper)(i:Nat):Bool:=match ops[i]? with|some o=>Th o|none=>false
def Pu (ops:Array Oper)(i:Nat):Bool:=match ops[i]? with|some o=>Ta o|none=>false
def eV (md:Region.Mode)(ops:Array Oper)(j i:Nat):Bool:=match ops[j]? with|some o=>o.after.any λe=>Region.binds md e&&e.on==i|none=>false
def RM (md:Region.Mode)(ops:Array Oper)(n:Nat):Bool:=
 (List.range n).all λj=>(List.range j).all λi=>(!(Pu ops i&&Pu ops j))&&(!(Iv ops i&&Iv ops j) || ((List.range j).any λm=>decide (i<m)&&Iv ops m) || eV md ops j i)
theorem PW {n:Nat}(h:RM md ops n=true){i j:Nat}(tN:i<j)(hj:j<n):¬ (Pu ops i=true/\Pu ops j=true)/\
  (Iv ops i=true->Iv ops j=true->(∃m,i<m/\m<j/\Iv ops m=true)∨∀oj,ops[j]?=some oj->∃e∈oj.after,Region.binds md e=true/\e.on=i):=by
 unfold RM at h;have h1:=jq.1 (jq.1 h j (lp.2 hj)) i (lp.2 tN);rw[kF]at h1;refine⟨λ⟨a,b⟩=>?_,λa b=>?_⟩
 ·simp[a,b]at h1
 ·have h2:=h1.2;simp only[a,b,nT,lL,Bool.false_or,Bool.or_eq_true,mG,lp,kF,jw]at h2;rcases h2 with ⟨m,hm,h3,h4⟩|h2
  ·exact .inl ⟨m,h3,hm,h4⟩
  ·refine .inr λoj rF=>?_;simp only[eV,rF,Array.any_eq_true']at h2;obtain⟨e,he,hb⟩:=h2;simp only[kF,beq_iff_eq]at hb;exact⟨e,he,hb⟩
theorem XP {n:Nat}(h:RM md ops n=true){oS:Array Bool}(inv:HeadInv md ops n oS):∀(d i j:Nat),j-i=d->i<j->j<n->Iv ops i=true->Iv ops j=true->
  oS.getD j false=true->oS.getD i false=true:=by
 intro d
 induction d using Nat.strongRecOn with
 | _ d ih=>
  intro i j hd tN hj hi xR hl;rcases (PW h tN hj).2 hi xR with ⟨m,h1,h2,h3⟩|h1
  ·have hm:=ih (j-m) (by omega) m j rfl h2 hj h3 xR hl;exact ih (m-i) (by omega) i m rfl h1 (by omega) hi h3 hm
  ·obtain⟨oj,rF⟩ :∃oj,ops[j]?=some oj:=by
    unfold Iv at xR;split at xR
    ·rename_i o ho;exact⟨o,ho⟩
    ·cases xR
   obtain⟨e,he,hb,rfl⟩:=h1 oj rF;exact inv.closed j oj rF hl e he hb
theorem Ys {n:Nat}(h:RM md ops n=true){oS:Array Bool}(inv:HeadInv md ops n oS){i j:Nat}(tN:i<j)(hj:j<n)(hi:Iv ops i=true)(xR:Iv ops j=true)
  (hr:j∈Region.ready md ops oS):oS.getD i false=true:=by
 obtain⟨_,oj,rF,qB⟩:=mV.1 hr;have key:∀(d i:Nat),j-i=d->i<j->Iv ops i=true->oS.getD i false=true:=by
  intro d
  induction d using Nat.strongRecOn with
  | _ d ih=>
   intro i hd tN hi;rcases (PW h tN hj).2 hi xR with ⟨m,h1,h2,h3⟩|h1
   ·exact XP h inv _ i m rfl h1 (by omega) hi h3 (ih (j-m) (by omega) m rfl h2 h3)
   ·obtain⟨e,he,hb,rfl⟩:=h1 oj rF;exact qB e he hb
 exact key _ i rfl tN hi
theorem YT {n i:Nat}{oi:Oper}{L:Array Bool->MS->Prop}(wY:RM md ops n=true)(hi:ops[i]?=some oi)
  (qO :∀oS,HeadInv md ops n oS->∀i,i<n->oS.getD i true=false->∀t,n<=t->t ∉ Region.ready md ops oS) (pt:i<n)
  (sj :∀oS s,L oS s->∀j∈Region.ready md ops oS,n<=j) :
  ∀(f:Nat) (oS:Array Bool) (m mi:MS),HeadInv md ops n oS->(∀j,j<i->oS.getD j true=true)->
   (∀j oj,ops[j]?=some oj->j≠i->oS.getD j true=false->(∀e∈oj.after,Region.binds md e=true->e.on≠i)->oi.apart ops oj=true)->
   i∈Region.ready md ops oS->MT P k R ops oi m mi->
   anyM P k R md ops n L f (oS.setIfInBounds i true) mi->anyM P k R md ops n L (f+1) oS m:=by
 have rT:∀{K:MS->Prop} {m mi:MS},MT P k R ops oi m mi->K mi->U6 P k R ops i K m:=λ{K m mi} hy h=>by
  unfold U6;simp only[hi];exact⟨mi,hy,h⟩
 intro f
 induction f with
 | zero=>
  intro oS m mi inv tx _ hr hy H;have qo:=(mV.1 hr).1;refine⟨λh=>(by rw[h]at hr;cases hr),λj hj=>?_⟩;have uN:j<n:=by
   rcases la j n with h|h
   ·exact h
   ·exact absurd hj (qO _ inv i pt qo j h)
  refine⟨uN,?_⟩;by_cases ql:j=i
  ·subst ql;exact rT hy H
  ·have:=sj _ _ H j (mS hj ql);omega
 | succ f ih=>
  intro oS m mi inv tx rE hr hy H;have qo:=(mV.1 hr).1;refine⟨λh=>(by rw[h]at hr;cases hr),λj hj=>?_⟩;have uN:j<n:=by
   rcases la j n with h|h
   ·exact h
   ·exact absurd hj (qO _ inv i pt qo j h)
  refine⟨uN,?_⟩;by_cases ql:j=i
  ·subst ql;exact rT hy H
  ·have h1:=(H.2 j (mS hj ql)).2;obtain⟨rq,oj,rF,qB⟩:=mV.1 hj;have tr:∀e∈oj.after,Region.binds md e=true->e.on≠i:=λe he hb heq=>by
    have h1:=qB e he hb;rw[heq,getD_both qo]at h1;cases h1
   have pG:i<j:=by
    rcases lH i j with h|h|h
    ·exact h
    ·exact absurd h.symm ql
    ·have:=tx j h;rw[rq]at this;cases this
   have yn:¬ (Th oi=true/\Th oj=true):=λ⟨h1,h2⟩=>by
    have:=Ys wY inv pG uN (by simp[Iv,hi,h1]) (by simp[Iv,rF,h2]) hj;rw[getD_both qo]at this;cases this
   have uT:¬ (Ta oi=true/\Ta oj=true):=λ⟨h1,h2⟩=>
    (PW wY pG uN).1 ⟨by simp[Pu,hi,h1],by simp[Pu,rF,h2]⟩
   unfold U6 at h1;simp only[rF]at h1;obtain⟨mij,zQ,hK⟩:=h1;obtain⟨mj,g1,g2⟩:=dx (rE j oj rF ql rq tr) yn uT hy zQ;unfold U6;simp only[rF];refine⟨mj,g1,ih (oS.setIfInBounds j true) mj mij (inv.set hj uN) (λq hq=>?_) ?_ (mS hr (lK ql)) g2 ?_⟩
   ·rw[nD true (by omega)];exact tx q hq
   ·intro k ok hk xE qo yy;refine rE k ok hk xE ?_ yy;by_cases hjk:j=k
    ·subst hjk;exact rq
    ·rw[nD true hjk]at qo;exact qo
   ·rw[mY _ _ ql];exact hK
def Kb (P:Program)(k:Nat)(R:List Row):List (Option Tmp)->List Oper->(MS->Prop)->MS->Prop
 | _,[],K,m=>K m
 | ds,o::r,K,m=>Iu ds o (m.st R) (∃m',ib P k R o m m'/\Kb P k R (ds++[o.dst]) r K m') (Kb P k R (ds++[o.dst]) r K (m.put o.dst .un))
theorem XL {n g:Nat}{K:MS->Prop}(wY:RM md ops n=true)(qO :∀oS,HeadInv md ops n oS->∀i,i<n->oS.getD i true=false->∀t,n<=t->t ∉ Region.ready md ops oS):
  ∀(l:List Oper) (ds:List (Option Tmp)) (oS:Array Bool) (m:MS),(∀(j:Nat),j<l.length->l[j]?=ops[ds.length+j]?)->(∀(j:Nat) d,ds[j]?=some d->(ops[j]?).map (·.dst)=some d)->ds.length+l.length=n->HeadInv md ops n oS->
  (∀j,j<ds.length->oS.getD j true=true)->
  Region.lexHead md ops g l.length ds.length oS=true->Kb P k R ds l K m->
  anyM P k R md ops n (λlisted' s'=>Region.seqB md ops g n listed'=true/\K s') l.length oS m
 | [],ds,oS,s,_,_,hk,_,_,hB,h=>by
  have:ds.length=n:=by simpa using hk
  subst this;exact⟨by simpa [Region.lexHead] using hB,h⟩
 | o::l,ds,oS,s,hl,sJ,hk,inv,tx,hB,h=>by
  have h0:ops[ds.length]?=some o:=by simpa using (hl 0 (by simp)).symm
  simp only[kQ,Region.lexHead,kF]at hB;obtain⟨⟨hr,hf⟩,hB'⟩:=hB;have zA:ds.length<n:=by simp only[kQ]at hk;omega
  have qF:ds.length∈Region.ready md ops oS:=by simpa using hr
  have sk :∀(j:Nat) d,(ds++[o.dst])[j]?=some d->(ops[j]?).map (·.dst)=some d:=λj d hj=>by
   rcases lH j ds.length with h1|h1|h1
   ·rw[jr h1]at hj;exact sJ j d hj
   ·subst h1;rw[Jg,jh]at hj;rw[h0];simp[hj]
   ·rw[kq (by simp;omega)]at hj;cases hj
  have zR :∀j,j<(ds++[o.dst]).length->(oS.setIfInBounds ds.length true).getD j true=true:=λj hj=>by
   simp only[kD,kQ,lE]at hj;by_cases hjd:ds.length=j
   ·subst hjd;rcases la ds.length oS.size with h5|h5
    ·simp[h5]
    ·simp[mm h5]
   ·rw[nD true hjd];exact tx j (by omega)
  have qH:∀s',Kb P k R (ds++[o.dst]) l K s'->anyM P k R md ops n (λlisted' s'=>Region.seqB md ops g n listed'=true/\K s') l.length (oS.setIfInBounds ds.length true) s':=λs' hs'=>
   XL wY qO l (ds++[o.dst]) _ s' (λj hj=>by
    have:=hl (j+1) (by simp;omega);simp only[kT]at this;rw[this];congr 1;simp;omega) sk (by simp only[kQ,kD,lE]at hk⊢;omega) (inv.set qF zA) zR (by simpa using hB') hs'
  have rU:∀m',MT P k R ops o s m'->Kb P k R (ds++[o.dst]) l K m'->anyM P k R md ops n (λlisted' s'=>Region.seqB md ops g n listed'=true/\K s') (l.length+1) oS s:=λm' hy hK=>
   YT wY h0 qO zA (λlisted' s' hL=>seqB_ready hL.1) l.length oS s m' inv tx (nb h0 hf) qF hy (qH _ hK)
  simp only[Kb]at h;rcases VS sJ h with ⟨hw,m',h1,h2⟩|⟨hw,h1⟩
  ·exact rU m' (.inl ⟨hw,h1⟩) h2
  ·exact rU _ (.inr ⟨hw,rfl⟩) h1
theorem Bd {id n:Nat}{e:Nat->AV}{x:Row}{Q:Exit->St->Prop}(R:List Row)(m:Nat)(hm:P.follows .mixedOrders=true)(hB:Region.lexTailB .any ops m=true)(hw:RM .any ops m=true)(hd:(ops.toList.all λo=>DC n o.dst)=true)
  (h:Kb P k R [] (ops.toList.take m) (λs'=>AO P k ops Q ((ops.toList.take m).map (·.dst)) (ops.toList.drop m) (s'.st R)) ⟨n,e,x,[]⟩):AW P k (.region id ops true) Q ⟨n,e,x::R⟩:=by
 simp only[Region.lexTailB,kF,jw]at hB;obtain⟨⟨⟨⟨_,hn⟩,hs⟩,hc⟩,hlex⟩:=hB;intro F os a w hr;have hr0:Rel F os (MS.st R ⟨n,e,x,[]⟩) a w:=by simpa [MS.st] using hr
 obtain⟨vA,he1⟩:=hr0.drew (k:=k);refine nU hm ?_;have sK:(ops.toList.take m).length=m:=by simp;omega
 have yD:(ops.toList.drop m).length=ops.size-m:=by simp
 have H:=XL (md:=.any) (ops:=ops) (n:=m) (g:=ops.size-m) (k:=k) (R:=R) (P:=P) (K:=λs'=>AO P k ops Q ((ops.toList.take m).map (·.dst)) (ops.toList.drop m) (s'.st R)) hw
  (λoS inv i hi qo t ht=>tail_waits hs hc hn inv _ i rfl hi qo t ht) (ops.toList.take m) [] _ _ (λj hj=>by
   rw[sK]at hj;rw[kL,jm hj];simp) (by simp) (by simpa using sK) (So _) (by simp) (by rw[sK];exact hlex) h
 have:=Ox (k:=k) (g:=ops.size-m) (N:=n) (R:=R) (Q':=J4 k Q F os w) (F0:=F) (os0:=os) (w0:=w) (λo ho=>jq.1 hd o ho) (λoS s' F' os' a' w' hn' hL qF he=>by
  have h1:=hL.2 (λj=>by
    rw[kB,sK,kW];simp) (λj d hj=>by
    simp only[ji,kL]at hj;split at hj
    ·simpa using hj
    ·cases hj) (by show∀o∈ops.toList,DC s'.n o.dst=true;rw[hn'];exact λo ho=>jq.1 hd o ho) F' os' a' w' qF (J4 k Q F os w) λ_ _ _ hp=>J4.trans he hp
  have h2:=wpAny_of_seq (md:=.any) (Q':=J4 k Q F os w) (ops.toList.drop m) m oS a' w' (λj=>by simp[kW]) (by rw[yD];exact hL.1) h1;rwa [yD]at h2) _ _ _ F os a w.drew rfl H vA he1
 rw[sK,show m+(ops.size-m)=ops.size by omega]at this;exact this
end
section
variable {P : Program} {k : Nat} {R : List Row} {ds : List (Option Tmp)} {r : List Oper} {K : MS -> Prop} {n : Nat} {e : Nat -> AV} {x0 : Row} {z0 : List Row} {t : Tmp} {op : Op} {ty : TypeId} {ps : String} {ed : Array Edge} {gd : Option (Nat × Bool)} {v : AV}
theorem GO.elim {o:Oper}{A B:Prop}{s:St}(hg:GO ds gd s.env)(ho:o.guard=gd)(h:Iu ds o s A B):A:=by
 unfold Iu at h;rw[ho]at h;cases gd with
 | none=>exact h
 | some q=>
  obtain⟨jj,want⟩:=q;obtain⟨tg,hj,ht⟩:=hg;simp only[hj,ht,ZI]at h;exact h.1 rfl
theorem FO (hg:GO ds gd e)(h :∀x z,D6 P ds [⟨some t,op,ty,ps,ed,gd⟩] (λs'=>s'.env t=v) ⟨n,e,x::(R++z)⟩)(hk:Kb P k R (ds++[some t]) r K ⟨n,EC e t v,x0,z0⟩):
  Kb P k R ds (⟨some t,op,ty,ps,ed,gd⟩::r) K ⟨n,e,x0,z0⟩:=by
 refine GO.guard (e:=e) hg ⟨_,⟨.q,v,jf,jf,rfl,?_⟩,hk⟩;intro x z e' _ ho hd F os a w hr next Q hn
 have h1:=h x z;unfold D6 at h1;have h2:=GO.elim (s:=⟨n,e,x::(R++z)⟩) hg rfl h1;obtain⟨v',hv,h3⟩:=U9 h2;have hvv:v'=v:=by simpa [D6,St.put,EC] using hv
 subst hvv;have h4:Kd P ⟨some t,op,ty,ps,ed,gd⟩ (MS.st R ⟨n,e',x,z⟩) (·=v'):=N8 (s:=⟨n,e,x::(R++z)⟩) rfl (λy hy=>by
  have:=ho y hy;rw[Tq,this];cases y<;>rfl) h3
 exact XA (k:=k) hr hd h4 (by rw[OT]at hn;exact hn)
theorem Ez {K':St->Prop}{st:List Row}(pI:x0::(R++z0)=st)(h:K' ⟨n,e,st⟩):Kb P k R ds [] (λm=>K' (m.st R)) ⟨n,e,x0,z0⟩:=by
 subst pI;exact h
theorem ZS {T:TypeId}{zz:List AV}{m:Nat}(hz:ID P T=some zz)(hm:R.length+1=m)(hk:Kb P k R (ds++[some t]) r K ⟨n,EC e t (.ptr m 0 0 0),x0,[⟨0,T,zz.length,[zz]⟩]⟩):
  Kb P k R ds (⟨some t,.alloc T,ty,ps,ed,none⟩::r) K ⟨n,e,x0,[]⟩:=by
 subst hm;refine⟨_,⟨.a ⟨0,T,zz.length,[zz]⟩,.ptr (R.length+1) 0 0 0,rfl,rfl,rfl,?_⟩,hk⟩;intro x z e' yi ho hd F os a w hr next Q hn
 have yi:z=[]:=yi;subst yi;refine Kl (k:=k) (K:=(·=MS.st R ((MS.go ⟨n,e',x,[]⟩ (.a ⟨0,T,zz.length,[zz]⟩)).put (some t) (.ptr (R.length+1) 0 0 0)))) hr hd ?_ hn;refine Ap _ hz ?_;simp[MS.st,MS.go,MS.put,St.put,Kind.fx,Kind.fz]
theorem SU {sel:List Nat}{A z:List Row}(h:sel.all (·<A.length)=true):Cc (A++z) sel=Cc A sel:=by
 unfold Cc
 induction sel with
 | nil=>rfl
 | cons i l ih=>
  simp only[lx,kF,jw]at h;rw[lX,lX,jr h.1,ih h.2]
theorem UG {sel:List Nat}{rs A z:List Row}(h:sel.all (·<A.length)=true):Fz sel rs 0 (A++z)=Fz sel rs 0 A++z:=by
 apply lk;intro i;rw[Lr,kt];by_cases hi:i<A.length
 ·rw[jr hi,jr (by rw[Jo];exact hi),Lr,kt]
 ·rw[jt (by omega),jt (by rw[Jo];omega),Jo];have hx:idx sel i=none:=by
   cases hx:idx sel i with
   | none=>rfl
   | some p=>
    have:=je (Nc hx);have:=jq.1 h i this;simp at this;omega
  rw[hx];cases z[i-A.length]?<;>rfl
theorem cw {f:FuncId}{pw:Array Operand}{ts:Array TypeId}{args pS:List AV}{rowsP rows0 rows1 rows1':List Row}{v v':AV}{y0:Row}(sel:List Nat)(hg:GO ds gd e)(hb:Dl P f=true)(hc:Ab P f pS rows0 λr st=>r=v/\st=rows1)(ha:pw.toList.map (St.ev ⟨n,e,[]⟩)++[]=args)(qM:sel.Nodup)(pG:sel.all (·<R.length+1)=true)
  (hp:Cc (x0::R) sel=rowsP) (hs:SR sel rowsP rows0) (hf:args.map (KB sel)=pS) (hlen:rows1.length=sel.length) (h1 :∀N,UN sel N rows1 rows1') (hv :∀N,Sn sel N v=v') (qg:Fz sel rows1' 0 (x0::R)=y0::R)
  (hk:Kb P k R (ds++[some t]) r K ⟨n,EC e t v',y0,z0⟩):Kb P k R ds (⟨some t,.call ⟨.value (.func f),pw,ts⟩,ty,ps,ed,gd⟩::r) K ⟨n,e,x0,z0⟩:=by
 subst ha;subst hp;refine GO.guard (e:=e) hg ⟨_,⟨.l x0 y0,v',rfl,rfl,rfl,?_⟩,hk⟩;intro x z e' hx ho hd F os a w hr next Q hn
 have hx:x=x0:=hx;subst hx;refine Kl (k:=k) (K:=(·=MS.st R ((MS.go ⟨n,e',x,z⟩ (.l x y0)).put (some t) v'))) hr hd ?_ hn;show Dl P f=true/\callThen P k (MS.st R ⟨n,e',x,z⟩) f (pw.toList.map (MS.st R ⟨n,e',x,z⟩).ev++[]) (some t) _;have yr:pw.toList.map (MS.st R ⟨n,e',x,z⟩).ev=pw.toList.map (St.ev ⟨n,e,[]⟩):=Rz (f:=f) (ts:=ts) (s0:=MS.st R ⟨n,e',x,z⟩) (s1:=⟨n,e,[]⟩) λy hy=>by rw[Tq];exact ho y hy
 rw[yr];refine⟨hb,KN λhle=>?_⟩;have re:(MS.st R ⟨n,e',x,z⟩).st=(x::R)++z:=rfl;have xS:sel.all (·<(x::R).length)=true:=by simpa using pG
 have wZ:Cc (MS.st R ⟨n,e',x,z⟩).st sel=Cc (x::R) sel:=by rw[re];exact SU xS
 obtain⟨e1,e3⟩:=hs.spec (st0:=(MS.st R ⟨n,e',x,z⟩).st) hle (λrow oY=>by
  rw[<- wZ]at oY;obtain⟨i,_,hi⟩:=kz.1 oY;exact je hi)
 refine Kt (rows2:=[]) sel (by simpa using hc) qM (λi hi=>by
   have:=jq.1 xS i hi;rw[re,kD];simp only[jw]at this;omega) (by rw[wZ];exact e1) e3 hf hlen (λrow oY=>by
  rw[ky]at oY;exact (h1 _).leaf row oY) λ_=>?_
 rw[(h1 _).spec,hv,re,UG xS,qg];simp[MS.st,MS.go,MS.put,St.put,Kind.fx,Kind.fz]
end
end Go.Abs
namespace Go.Abs
open Go
def gh (e:Nat->AV):List (Nat×AV)->List AV
 | []=>[]
 | (t,_)::r=>e t::gh e r
def hX:List (Nat×AV)->List AV
 | []=>[]
 | (_,v)::r=>v::hX r
theorem ME.same {e:Nat->AV}:∀{L:List (Nat×AV)},gh e L=hX L->ME e L
 | [],_=>trivial
 | (t,v)::r,h=>by
  simp only[gh,hX,mL]at h;obtain⟨h1,h2⟩:=h;subst h1;exact⟨.rfl,ME.same h2⟩
section
variable {P : Program} {k : Nat} {R : List Row} {ds : List (Option Tmp)} {r : List Oper} {K : MS -> Prop} {n : Nat} {e : Nat -> AV} {x0 : Row} {z0 : List Row} {t : Tmp} {op : Op} {ty : TypeId} {ps : String} {ed : Array Edge} {gd : Option (Nat × Bool)}
theorem BM (v:AV)(hg:GO ds gd e)(hl:Jt op=false)(hq :∀x z,AQ P ⟨n,e,x::(R++z)⟩ op v)(hk:Kb P k R (ds++[some t]) r K ⟨n,EC e t v,x0,z0⟩):
  Kb P k R ds (⟨some t,op,ty,ps,ed,gd⟩::r) K ⟨n,e,x0,z0⟩:=
 FO hg (λx z=>H5 hg hl (hq x z) (Aw (by simp[EC]))) hk
theorem Gd {f:FuncId}{pw:Array Operand}{ts:Array TypeId}{args pS:List AV}{rows0 rows1:List Row}{v v':AV}{y0:Row}(sel:List Nat)(hg:GO ds gd e)(hb:Dl P f=true)(hc:Ab P f pS rows0 λr st=>r=v/\st=rows1)(ha:pw.toList.map (St.ev ⟨n,e,[]⟩)++[]=args)(qM:sel.Nodup)(pG:sel.all (·<R.length+1)=true)
  (hp:Cc (x0::R) sel=rows0) (hs:SR sel rows0 rows0) (hf:args.map (KB sel)=pS) (hlen:rows1.length=sel.length) (h1 :∀N,UN sel N rows1 rows1) (hv :∀N,Sn sel N v=v') (qg:Fz sel rows1 0 (x0::R)=y0::R)
  (hk:Kb P k R (ds++[some t]) r K ⟨n,EC e t v',y0,z0⟩):Kb P k R ds (⟨some t,.call ⟨.value (.func f),pw,ts⟩,ty,ps,ed,gd⟩::r) K ⟨n,e,x0,z0⟩:=
 cw sel hg hb hc ha qM pG hp hs hf hlen h1 hv qg hk
end
section
variable {P : Program} {k : Nat} {s : St} {ops : Array Oper} {Q : Exit -> St -> Prop} {ds : List (Option Tmp)} {r : List Oper} {n : Nat} {e : Nat -> AV} {st st' : List Row} {ty : TypeId} {ps : String} {ed : Array Edge} {d : Option Tmp} {v v' : AV} {gd : Option (Nat × Bool)}
variable {f : FuncId} {pw : Array Operand} {ts : Array TypeId} {args pS : List AV} {rows0 rows1 : List Row}
theorem CL (sel:List Nat)(hg:GO ds gd e)(hb:Dl P f=true)(hc:Ab P f pS rows0 λr st=>r=v/\st=rows1)(ha:pw.toList.map (St.ev ⟨n,e,st⟩)++[]=args)(qM:sel.Nodup)(pG:sel.all (·<st.length)=true)
  (hp:Cc st sel=rows0) (hs:SR sel rows0 rows0) (hf:args.map (KB sel)=pS) (hlen:rows1.length=sel.length) (h1:UN sel st.length rows1 rows1) (h2:UN sel st.length [] []) (hv:Sn sel st.length v=v') (qg:Fz sel rows1 0 st=st')
  (hk:AO P k ops Q (ds++[d]) r (St.put ⟨n,e,st'⟩ d v')):AO P k ops Q ds (⟨d,.call ⟨.value (.func f),pw,ts⟩,ty,ps,ed,gd⟩::r) ⟨n,e,st⟩:=
 F6 (rows2:=[]) (rows2':=[]) sel hg hb (by simpa using hc) ha qM pG hp hs hf hlen h1 h2 hv (by simpa using qg) hk
end
def ia:Nat->Nat->List Bool
 | 0,_=>[]
 | n+1,m=>(m % 2==1)::ia n (m / 2)
def bm (n m:Nat):Array Bool:=⟨ia n m⟩
end Go.Abs
