import Derived.Test.YtgiajkaabnbieaaGreatAbsW
import Derived.Lib.AppendZerosOnto
import Derived.OrdersHeld
set_option linter.all false
namespace Go.Abs
open Go
def QF:AV->Bool
 | .int ..|.bool _|.str _|.zc|.RW|.RZ|.dv ..=>true
 | _=>false
def UE (xs:List (List AV)):Prop:=∀x∈xs,∀c∈x,QF c=true
theorem Yn {F S:Nat->Prop}{w:World}{os:List Own}{c:AV}{u:Value}(hc:QF c=true)(hd :∀e s ys,c≠.dv e s ys)(h:Ae F w os c u):ED S w c u:=by
 cases c<;>simp only[QF,mF]at hc<;>simp only[Ae]at h<;>simp only[ED]<;>first|exact h|exact absurd rfl (hd _ _ _)
theorem PF {F S:Nat->Prop}{w:World}{os:List Own}{c:AV}{u:Value}(h:ED S w c u):Ae F w os c u/\c.kept=true/\QF c=true:=by
 cases c<;>simp only[ED]at h
 case dv=>
  refine⟨?_,rfl,rfl⟩;simp only[Ae];rcases h.2 with ⟨_,a,rfl⟩|⟨b,cap,cur,rfl,_⟩<;>exact⟨_,_,_,rfl⟩
 all_goals first|exact h.elim|exact⟨by simp only[Ae];exact h,rfl,rfl⟩
theorem X0 {w:World}{cur:Array Value}{D:Nat->Nat->Prop}(sJ :∀j j' b,D j b->D j' b->j=j'):∀(x:List AV) (o j0:Nat),(∀(j:Nat) c,x[j]?=some c->∃u,cur[o+j]?=some u/\ED (D (j0+j)) w c u)->
  Lq (λb=>∃j,j0<=j/\D j b) w x cur o
 | [],_,_,_=>by simp[Lq]
 | c::r,o,j0,h=>by
  simp only[Lq];obtain⟨u,h1,h2⟩:=h 0 c rfl;refine⟨D j0,λb=>∃j,j0+1<=j/\D j b,λb hb=>⟨j0,mS _,hb⟩,λb ⟨j,hj,hb⟩=>⟨j,by omega,hb⟩,λb hb ⟨j,hj,rZ⟩=>by have:=sJ _ _ _ hb rZ;omega,⟨u,h1,h2⟩,?_⟩;exact X0 sJ r (o+1) (j0+1) λj c hc=>by
   obtain⟨u,h1,h2⟩:=h (j+1) c (by simpa using hc);exact⟨u,by rw[<- h1];congr 1;omega,by rw[show j0+1+j=j0+(j+1) by omega];exact h2⟩
theorem XT {w:World}{cur:Array Value}{size:Nat}{D:Nat->Nat->Nat->Prop}(sJ :∀i j i' j' b,D i j b->D i' j' b->i=i'/\j=j'):∀(xs:List (List AV)) (o i0:Nat),(∀x∈xs,x.length=size)->
  (∀(i:Nat) x,xs[i]?=some x->∀(j:Nat) c,x[j]?=some c->∃u,cur[o+i*size+j]?=some u/\ED (D (i0+i) j) w c u)->Lp (λb=>∃i j,i0<=i/\D i j b) w xs cur o
 | [],_,_,_,_=>by simp[Lp]
 | x::r,o,i0,hs,h=>by
  simp only[Lp];refine⟨λb=>∃j,0<=j/\D i0 j b,λb=>∃i j,i0+1<=i/\D i j b,λb ⟨j,_,hb⟩=>⟨i0,j,mS _,hb⟩,λb ⟨i,j,hi,hb⟩=>⟨i,j,by omega,hb⟩,λb ⟨j,_,hb⟩ ⟨i,j',hi,rZ⟩=>by have:=(sJ _ _ _ _ _ hb rZ).1;omega,?_,?_⟩
  ·exact X0 (D:=D i0) (λj j' b h1 h2=>(sJ _ _ _ _ _ h1 h2).2) x o 0 λj c hc=>by
    obtain⟨u,h1,h2⟩:=h 0 x rfl j c hc;exact⟨u,by rw[<- h1];congr 1;omega,by simpa using h2⟩
  ·rw[hs x (by simp)];exact XT sJ r (o+size) (i0+1) (λx hx=>hs x (by simp[hx])) λi y hy j c hc=>by
    obtain⟨u,h1,h2⟩:=h (i+1) y (by simpa using hy) j c hc;exact⟨u,by rw[<- h1];congr 1;rw[nJ];omega,by rw[show i0+1+i=i0+(i+1) by omega];exact h2⟩
theorem Wi {w:World}{cur:Array Value}:∀{x:List AV} {S:Nat->Prop} {o:Nat},Lq S w x cur o->∃D:Nat->Nat->Prop,(∀j b,D j b->S b)/\(∀j j' b,D j b->D j' b->j=j')/\
  ∀(j:Nat) c,x[j]?=some c->∃u,cur[o+j]?=some u/\ED (D j) w c u
 | [],_,_,_=>⟨λ_ _=>False,λ_ _ h=>h.elim,λ_ _ _ h=>h.elim,λj c h=>by simp at h⟩
 | c::r,S,o,h=>by
  simp only[Lq]at h;obtain⟨S1,S2,h1,h2,h3,⟨u,h4,h5⟩,h6⟩:=h;obtain⟨D,d1,d2,d3⟩:=Wi h6;refine⟨λj=>match j with|0=>S1|j+1=>D j,λj b hb=>?_,λj j' b hb rZ=>?_,λj c' hc=>?_⟩
  ·cases j with
   | zero=>exact h1 b hb
   | succ j=>exact h2 b (d1 j b hb)
  ·cases j with
   | zero=>
    cases j' with
    | zero=>rfl
    | succ j'=>exact absurd (d1 j' b rZ) (h3 b hb)
   | succ j=>
    cases j' with
    | zero=>exact absurd (d1 j b hb) (h3 b rZ)
    | succ j'=>rw[d2 j j' b hb rZ]
  ·cases j with
   | zero=>simp only[me,mE]at hc;subst hc;exact⟨u,h4,h5⟩
   | succ j=>
    obtain⟨u',g1,g2⟩:=d3 j c' (by simpa using hc);exact⟨u',by rw[<- g1];congr 1;omega,g2⟩
theorem Wg {w:World}{cur:Array Value}{size:Nat}:∀{xs:List (List AV)} {S:Nat->Prop} {o:Nat},(∀x∈xs,x.length=size)->Lp S w xs cur o->∃D:Nat->Nat->Nat->Prop,(∀i j b,D i j b->S b)/\
  (∀i j i' j' b,D i j b->D i' j' b->i=i'/\j=j')/\∀(i:Nat) x,xs[i]?=some x->∀(j:Nat) c,x[j]?=some c->∃u,cur[o+i*size+j]?=some u/\ED (D i j) w c u
 | [],_,_,_,_=>⟨λ_ _ _=>False,λ_ _ _ h=>h.elim,λ_ _ _ _ _ h=>h.elim,λi x h=>by simp at h⟩
 | x::r,S,o,hs,h=>by
  simp only[Lp]at h;obtain⟨S1,S2,h1,h2,h3,h4,h5⟩:=h;obtain⟨E,e1,e2,e3⟩:=Wi h4;obtain⟨D,d1,d2,d3⟩:=Wg (λx hx=>hs x (by simp[hx])) h5;refine⟨λi=>match i with|0=>E|i+1=>D i,λi j b hb=>?_,λi j i' j' b hb rZ=>?_,λi y hy j c hc=>?_⟩
  ·cases i with
   | zero=>exact h1 b (e1 j b hb)
   | succ i=>exact h2 b (d1 i j b hb)
  ·cases i with
   | zero=>
    cases i' with
    | zero=>exact⟨rfl,e2 j j' b hb rZ⟩
    | succ i'=>exact absurd (d1 i' j' b rZ) (h3 b (e1 j b hb))
   | succ i=>
    cases i' with
    | zero=>exact absurd (d1 i j b hb) (h3 b (e1 j' b rZ))
    | succ i'=>
     obtain⟨q1,q2⟩:=d2 i j i' j' b hb rZ;exact⟨by rw[q1],q2⟩
  ·cases i with
   | zero=>
    simp only[me,mE]at hy;subst hy;obtain⟨u,g1,g2⟩:=e3 j c hc;exact⟨u,by rw[<- g1];congr 1;omega,g2⟩
   | succ i=>
    obtain⟨u,g1,g2⟩:=d3 i y (by simpa using hy) j c hc;rw[hs x (by simp)]at g1;exact⟨u,by rw[<- g1];congr 1;rw[nJ];omega,g2⟩
variable {P : Program} {F : Nat -> Prop} {os : List Own} {s : St} {a : Act} {w : World} {k : Nat}
theorem UK {p:Own}(h:Kf F w os p)(hd:UE p.row.xs){v:Value}(hv:(p.DM=none/\∃a,v=.slice a p.row.xs.length 0)∨∃b,p.DM=some b/\v=.slice (some ⟨b,0,none⟩) p.row.xs.length p.cap):
  ED p.owns w (.dv p.row.elem p.row.size p.row.xs) v:=by
 simp only[ED];refine⟨h.pos,?_⟩;rcases hv with ⟨hb,a,rfl⟩|⟨b,hb,rfl⟩
 ·have:=(h.none hb).1;exact .inl ⟨this,a,by rw[this];rfl⟩
 ·obtain⟨_,cur,rE,rP,hle,sb,rF⟩:=h.some b hb;obtain⟨D,d1,d2,d3⟩:=h.deep;refine .inr ⟨b,p.cap,cur,rfl,hle,sb,.inl hb,rE,rP,λx hx=>(h.lens x hx).1,?_⟩;have:=XT (w:=w) (cur:=cur) (size:=p.row.size) d2 p.row.xs 0 0 (λx hx=>(h.lens x hx).1) (λi x hx j c hc=>by
   simp only[nS];by_cases hdv :∃e s ys,c=.dv e s ys
   ·obtain⟨e,s,ys,rfl⟩:=hdv;exact d3 b hb cur _ _ rE i x j e s ys hx hc
   ·obtain⟨u,g1,g2⟩:=rF i x hx j c hc;exact⟨u,g1,Yn (hd x (mB hx) c (mB hc)) (λe s ys e'=>hdv ⟨e,s,ys,e'⟩) g2⟩)
  exact QL (λc ⟨i,j,_,hc⟩=>⟨.inr (d1 i j c hc),λe=>(h.mo c (d1 i j c hc)).2.2 (by rw[hb,e])⟩) (λ_ _=>rfl) _ _ _ this
theorem PM {id m g gm size sz n i j nn:Nat}{el uL:TypeId}{xs ys:List (List AV)}{x:List AV}{e:Nat->AV}{st st':List Row}(qo:st[id]?=some ⟨g,el,size,xs⟩)(hx:xs[i]?=some x)(hc:x[j]?=some (.own m gm n))
  (hm:st[m]?=some ⟨gm,uL,sz,ys⟩) (hn:n=ys.length) (rV:id≠m) (xj:k<=m) (hd:UE ys) (rH:(st.set id ⟨g,el,size,xs.set i (x.set j (.dv uL sz ys))⟩).set m ⟨gm+1,uL,sz,[]⟩=st') :
  Wk k ⟨nn,e,st⟩ ⟨nn,e,st'⟩:=λF os a w hr=>by
 subst rH;subst hn;obtain⟨o,ho,hor⟩:=hr.row qo;obtain⟨p,hp,xO⟩:=hr.row hm;have qu:=hr.rows id o ho;have hpk:=hr.rows m p hp;have rH:os.map Own.row=st:=hr.st;have uX:o.row.xs=xs:=by rw[hor]
 have hpx:p.row.xs=ys:=by rw[xO]
 let o':Own:={ o with row:={ o.row with xs:=xs.set i (x.set j (.dv uL sz ys)) },more:=λb=>o.more b∨p.owns b }
 let p':Own:=⟨{ p.row with gen:=p.row.gen+1,xs:=[] },none,0,Fj⟩
 have tM:i<xs.length:=(mC.1 hx).1;have uG:j<x.length:=(mC.1 hc).1;have wZ:=(mC.1 ho).1;have xk:=(mC.1 hp).1;have sJ:∀b,o.owns b->¬ p.owns b:=λb h1 h2=>rV (hr.inj id m o p b ho hp h1 h2);have rD:∀(q:Nat) (oq:Own),((os.set id o').set m p')[q]?=some oq->(q≠id/\q≠m/\os[q]?=some oq)∨(q=id/\oq=o')∨(q=m/\oq=p'):=λq oq hq=>by
  by_cases e:q=m
  ·subst e;rw[mN (by simpa using xk),mE]at hq;exact .inr (.inr ⟨rfl,hq.symm⟩)
  ·rw[mT (nm e)]at hq;by_cases e2:q=id
   ·subst e2;rw[mN wZ,mE]at hq;exact .inr (.inl ⟨rfl,hq.symm⟩)
   ·rw[mT (nm e2)]at hq;exact .inl ⟨e2,e,hq⟩
 have rq:Ex os ((os.set id o').set m p'):=λq oq hq=>by
  by_cases e:q=m
  ·subst e;rw[hp]at hq;cases hq;exact⟨p',mN (by simpa using xk),Nat.le_succ _,rfl,λe=>by simp[p']at e⟩
  ·rw[mT (nm e)];by_cases e2:q=id
   ·subst e2;rw[ho]at hq;cases hq;exact⟨o',mN wZ,mS _,rfl,λ_=>⟨rfl,rfl,by simp[o',uX]⟩⟩
   ·rw[mT (nm e2)];exact⟨oq,hq,mS _,rfl,λ_=>⟨rfl,rfl,rfl⟩⟩
 have rC:∀y v,Ae F w os y v->Ae F w ((os.set id o').set m p') y v:=λy v h=>EJ (λ_ h=>h) (λ_ _=>rfl) os _ rq y v h;have wa:∀b,o'.owns b->o.owns b∨p.owns b:=λb hb=>by
  rcases hb with hb|hb|hb
  ·exact .inl (.inl hb)
  ·exact .inl (.inr hb)
  ·exact .inr hb
 have hpn:∀b,¬ p'.owns b:=λb hb=>by
  rcases hb with hb|hb
  ·simp[p']at hb
  ·exact hb
 obtain⟨bo,vg⟩ :∃b,o.DM=some b:=by
  cases hb:o.DM with
  | none=>have:=(qu.none hb).1;rw[uX]at this;rw[this]at tM;simp at tM
  | some b=>exact⟨b,rfl⟩
 obtain⟨xG,cur,rE,rP,hle,sb,rF⟩:=qu.some bo vg;obtain⟨uv,hu1,tU⟩:=rF i x (by rw[uX];exact hx) j _ hc;have huv:(p.DM=none/\∃a,uv=.slice a p.row.xs.length 0)∨∃b,p.DM=some b/\uv=.slice (some ⟨b,0,none⟩) p.row.xs.length p.cap:=by
  simp only[Ae]at tU;obtain⟨q,hq,_,_,hv⟩:=tU;rw[hp]at hq;cases hq;have:=(hv (by rw[xO])).2;rw[hpx]at this⊢;simpa only[oP,pB,pM] using this
 have hRD:ED p.owns w (.dv uL sz ys) uv:=by
  have:=UK hpk (by rw[hpx];exact hd) huv;rw[xO]at this;exact this
 refine⟨F,(os.set id o').set m p',⟨?_,λt=>rC _ _ (hr.env t),hr.size,λq oq hq=>?_,λq q' oq xl b hq uu hb rZ=>?_,hr.F6,hr.defers⟩,⟨rfl,rfl,rfl,mS _,λ_ h=>h,λ_ _=>rfl,λb _ h1 h2=>⟨rfl,h1,λoq hoq hb=>?_⟩,λq oq _ hq=>rq q oq hq⟩⟩
 ·rw[nt,nt,rH];simp only[o',p',hor,xO]
 ·rcases rD q oq hq with ⟨_,_,h⟩|⟨_,rfl⟩|⟨_,rfl⟩
  ·have h0:=hr.rows q oq h;refine⟨h0.pos,h0.lens,h0.none,λb hb=>?_,h0.mo,h0.deep⟩;obtain⟨e1,cur,e2,e3,e4,e5,e6⟩:=h0.some b hb;exact⟨e1,cur,e2,e3,e4,e5,λi' y hy j' c hc=>by obtain⟨u,f1,f2⟩:=e6 i' y hy j' c hc;exact⟨u,f1,rC _ _ f2⟩⟩
  ·refine⟨qu.pos,λy hy=>?_,(λhn=>by simp only[o']at hn;rw[vg]at hn;cases hn),λb hb=>?_,λb hb=>?_,?_⟩
   ·rcases nW hy with hy|rfl
    ·exact qu.lens y (by rw[uX];exact hy)
    ·have h0:=qu.lens x (by rw[uX];exact mB hx);refine⟨by rw[List.length_set];exact h0.1,λc vB=>?_⟩;rcases nW vB with h|rfl
     ·exact h0.2 c h
     ·rfl
   ·simp only[o']at hb;rw[vg]at hb;cases hb;refine⟨xG,cur,rE,rP,by simpa [o',uX] using hle,sb,λi' y hy j' c tk=>?_⟩;simp only[o']at hy⊢;by_cases hi:i'=i
    ·subst hi;rw[mN tM,mE]at hy;subst hy;by_cases hj:j'=j
     ·subst hj;rw[mN uG,mE]at tk;subst tk;exact⟨uv,hu1,(PF hRD).1⟩
     ·rw[mT (nm hj)]at tk;obtain⟨u,f1,f2⟩:=rF i' x (by rw[uX];exact hx) j' c tk;exact⟨u,f1,rC _ _ f2⟩
    ·rw[mT (nm hi)]at hy;obtain⟨u,f1,f2⟩:=rF i' y (by rw[uX];exact hy) j' c tk;exact⟨u,f1,rC _ _ f2⟩
   ·rcases hb with hb|hb
    ·exact qu.mo b hb
    ·exact⟨hpk.nF hb,hpk.lt hb,λe=>sJ b (.inl e) hb⟩
   ·obtain⟨D,d1,d2,d3⟩:=qu.deep;refine⟨λi' j' b=>if i'=i/\j'=j then p.owns b else D i' j' b,λi' j' b hb=>?_,λi1 j1 i2 j2 b h1 h2=>?_,λb hb sB el2 l rX i' y j' e2 s2 zs hy tk=>?_⟩
    ·simp only at hb;split at hb
     ·exact .inr hb
     ·exact .inl (d1 i' j' b hb)
    ·simp only at h1 h2;split at h1<;>split at h2
     ·rename_i q1 q2;exact⟨q1.1.trans q2.1.symm,q1.2.trans q2.2.symm⟩
     ·exact absurd h1 (sJ b (.inr (d1 _ _ _ h2)))
     ·exact absurd h2 (sJ b (.inr (d1 _ _ _ h1)))
     ·exact d2 _ _ _ _ _ h1 h2
    ·simp only[o']at hb hy⊢;rw[vg]at hb;cases hb;rw[rE]at rX;cases rX;by_cases yc:i'=i/\j'=j
     ·obtain⟨rfl,rfl⟩:=yc;rw[mN tM,mE]at hy;subst hy;rw[mN uG,mE]at tk;cases tk;exact⟨uv,hu1,by simpa using hRD⟩
     ·have hold:∃y0,o.row.xs[i']?=some y0/\y0[j']?=some (.dv e2 s2 zs):=by
       rw[uX];by_cases hi:i'=i
       ·subst hi;rw[mN tM,mE]at hy;subst hy;have hj:j'≠j:=λe=>yc ⟨rfl,e⟩;rw[mT (nm hj)]at tk;exact⟨x,hx,tk⟩
       ·rw[mT (nm hi)]at hy;exact⟨y,hy,tk⟩
      obtain⟨y0,yQ,tK⟩:=hold;obtain⟨u,f1,f2⟩:=d3 bo vg cur _ _ rE i' y0 j' e2 s2 zs yQ tK;exact⟨u,f1,by simpa only[yc,mW] using f2⟩
  ·exact⟨hpk.pos,by simp[p'],by simp[p'],by simp[p'],λb hb=>hb.elim,Fv (by simp[p'])⟩
 ·rcases rD q oq hq with ⟨q1,q2,h⟩|⟨rfl,rfl⟩|⟨_,rfl⟩<;>rcases rD q' xl uu with ⟨q1',q2',h'⟩|⟨rfl,rfl⟩|⟨_,rfl⟩
  ·exact hr.inj q q' oq xl b h h' hb rZ
  ·rcases wa b rZ with e|e
   ·exact hr.inj q _ oq o b h ho hb e
   ·exact absurd (hr.inj q m oq p b h hp hb e) q2
  ·exact absurd rZ (hpn b)
  ·rcases wa b hb with e|e
   ·exact hr.inj _ q' o xl b ho h' e rZ
   ·exact absurd (hr.inj m q' p xl b hp h' e rZ).symm q2'
  ·rfl
  ·exact absurd rZ (hpn b)
  ·exact absurd hb (hpn b)
  ·exact absurd hb (hpn b)
  ·exact absurd hb (hpn b)
 ·obtain⟨q,hq⟩:=ma.1 hoq;rcases rD q oq hq with ⟨_,_,h⟩|⟨_,rfl⟩|⟨_,rfl⟩
  ·exact h2 oq (mB h) hb
  ·rcases wa b hb with e|e
   ·exact h2 o (mB ho) e
   ·exact h2 p (mB hp) e
  ·exact hpn b hb
end Go.Abs
namespace Go.Abs
open Go
variable {P : Program} {F : Nat -> Prop} {os : List Own} {s : St} {a : Act} {w : World} {k : Nat}
theorem Yd {S:Nat->Prop}{el sz:Nat}{ys:List (List AV)}{u:Value}(hS :∀b,S b->¬ F b/\b<w.heap.size)(h:ED S w (.dv el sz ys) u):
  ∃p:Own,p.row=⟨0,el,sz,ys⟩/\(∀b,p.owns b->S b)/\(∀os,Kf F w os p)/\((p.DM=none/\∃a,u=.slice a ys.length 0)∨∃b,p.DM=some b/\u=.slice (some ⟨b,0,none⟩) ys.length p.cap):=by
 simp only[ED]at h;obtain⟨hp,h⟩:=h;rcases h with ⟨rfl,a,rfl⟩|⟨b,cap,cur,rfl,h2,h3,h4,h5,h6,h7,h8⟩
 ·refine⟨⟨⟨0,el,sz,[]⟩,none,0,Fj⟩,rfl,λb hb=>?_,λos=>⟨hp,by simp,by simp,by simp,λb hb=>hb.elim,Fv (by simp)⟩,.inl ⟨rfl,a,rfl⟩⟩;rcases hb with hb|hb
  ·cases hb
  ·exact hb.elim
 ·obtain⟨D,d1,d2,d3⟩:=Wg h7 h8;refine⟨⟨⟨0,el,sz,ys⟩,some b,cap,λc=>S c/\c≠b⟩,rfl,λc hc=>?_,λos=>⟨hp,λx hx=>⟨h7 x hx,λc hc=>?_⟩,by simp,λb' rZ=>?_,λc hc=>⟨(hS c hc.1).1,(hS c hc.1).2,λe=>hc.2 (by simpa using e.symm)⟩,⟨D,d1,d2,λb' rZ sB el2 l rX i x j e s zs hx hc=>?_⟩⟩,.inr ⟨b,rfl,rfl⟩⟩
  ·rcases hc with hc|hc
   ·cases hc;exact h4
   ·exact hc.1
  ·obtain⟨i,hi⟩:=ma.1 hx;obtain⟨j,hj⟩:=ma.1 hc;obtain⟨u,_,g2⟩:=d3 i x hi j c hj;exact (PF (F:=F) (os:=os) g2).2.1
  ·simp only[mE]at rZ;subst rZ;refine⟨(hS _ h4).1,cur,h5,h6,h2,h3,λi x hx j c hc=>?_⟩;obtain⟨u,g1,g2⟩:=d3 i x hx j c hc;exact⟨u,by simpa using g1,(PF g2).1⟩
  ·simp only[mE]at rZ;subst rZ;rw[h5]at rX;cases rX;obtain⟨u,g1,g2⟩:=d3 i x hx j _ hc;exact⟨u,by simpa using g1,g2⟩
theorem Wk.hH {id m g size sz n i j nn:Nat}{el uL:TypeId}{xs ys:List (List AV)}{x:List AV}{e:Nat->AV}{st st':List Row}(qo:st[id]?=some ⟨g,el,size,xs⟩)(hx:xs[i]?=some x)(hc:x[j]?=some (.dv uL sz ys))
  (hm:st.length=m) (hn:n=ys.length) (rH:st.set id ⟨g,el,size,xs.set i (x.set j (.own m 0 n))⟩++[⟨0,uL,sz,ys⟩]=st'):Wk k ⟨nn,e,st⟩ ⟨nn,e,st'⟩:=λF os a w hr=>by
 subst rH;subst hn;subst hm;obtain⟨o,ho,hor⟩:=hr.row qo;have qu:=hr.rows id o ho;have rH:os.map Own.row=st:=hr.st;have hol:os.length=st.length:=by rw[<- rH];simp
 have uX:o.row.xs=xs:=by rw[hor]
 have tM:i<xs.length:=(mC.1 hx).1;have uG:j<x.length:=(mC.1 hc).1;have wZ:=(mC.1 ho).1;obtain⟨bo,vg⟩ :∃b,o.DM=some b:=by
  cases hb:o.DM with
  | none=>have:=(qu.none hb).1;rw[uX]at this;rw[this]at tM;simp at tM
  | some b=>exact⟨b,rfl⟩
 obtain⟨xG,cur,rE,rP,hle,sb,rF⟩:=qu.some bo vg;obtain⟨D,d1,d2,d3⟩:=qu.deep;obtain⟨uv,hu1,tU⟩:=d3 bo vg cur _ _ rE i x j uL sz ys (by rw[uX];exact hx) hc;obtain⟨p,xO,hpo,hpk,yb⟩:=Yd (F:=F) (λb hb=>⟨(qu.mo b (d1 _ _ _ hb)).1,(qu.mo b (d1 _ _ _ hb)).2.1⟩) tU
 let o':Own:={ o with row:={ o.row with xs:=xs.set i (x.set j (.own st.length 0 ys.length)) },more:=λb=>o.more b/\¬ D i j b }
 have rD:∀(q:Nat) (oq:Own),(os.set id o'++[p])[q]?=some oq->(q≠id/\q<os.length/\os[q]?=some oq)∨(q=id/\oq=o')∨(q=os.length/\oq=p):=λq oq hq=>by
  rcases ng q os.length with h|h|h
  ·rw[mM (by simpa using h)]at hq;by_cases e2:q=id
   ·subst e2;rw[mN wZ,mE]at hq;exact .inr (.inl ⟨rfl,hq.symm⟩)
   ·rw[mT (nm e2)]at hq;exact .inl ⟨e2,h,hq⟩
  ·subst h;rw[mP (by simp)]at hq;simp at hq;exact .inr (.inr ⟨rfl,hq.symm⟩)
  ·rw[nH (by simp;omega)]at hq;cases hq
 have hpget:(os.set id o'++[p])[st.length]?=some p:=by
  rw[mP (by simp;omega)];simp[hol]
 have rq:Ex os (os.set id o'++[p]):=λq oq hq=>by
  have hql:=(mC.1 hq).1;rw[mM (by simpa using hql)];by_cases e2:q=id
  ·subst e2;rw[ho]at hq;cases hq;exact⟨o',mN wZ,mS _,rfl,λ_=>⟨rfl,rfl,by simp[o',uX]⟩⟩
  ·rw[mT (nm e2)];exact⟨oq,hq,mS _,rfl,λ_=>⟨rfl,rfl,rfl⟩⟩
 have rC:∀y v,Ae F w os y v->Ae F w (os.set id o'++[p]) y v:=λy v h=>EJ (λ_ h=>h) (λ_ _=>rfl) os _ rq y v h;have zb :∀b,o'.owns b->o.owns b:=λb hb=>by
  rcases hb with hb|hb
  ·exact .inl hb
  ·exact .inr hb.1
 have ze:∀b,p.owns b->o.owns b:=λb hb=>.inr (d1 _ _ _ (hpo b hb));have sJ:∀b,o'.owns b->¬ p.owns b:=λb h1 h2=>by
  have h3:=hpo b h2;rcases h1 with h1|h1
  ·exact (qu.mo b (d1 _ _ _ h3)).2.2 h1
  ·exact h1.2 h3
 have zK:Ae F w (os.set id o'++[p]) (.own st.length 0 ys.length) uv:=by
  simp only[Ae];refine⟨p,hpget,mV _,?_,λ_=>⟨by rw[xO];exact mS _,by rw[xO];simpa only[oP,pB,pM] using yb⟩⟩;rcases yb with ⟨_,a,rfl⟩|⟨b,_,rfl⟩<;>exact⟨_,_,_,rfl⟩
 refine⟨F,os.set id o'++[p],⟨?_,λt=>rC _ _ (hr.env t),hr.size,λq oq hq=>?_,λq q' oq xl b hq uu hb rZ=>?_,hr.F6,hr.defers⟩,⟨rfl,rfl,rfl,mS _,λ_ h=>h,λ_ _=>rfl,λb _ h1 h2=>⟨rfl,h1,λoq hoq hb=>?_⟩,λq oq _ hq=>rq q oq hq⟩⟩
 ·rw[mu,nt,rH];simp only[o',hor,mg,oI,xO]
 ·rcases rD q oq hq with ⟨_,_,h⟩|⟨_,rfl⟩|⟨_,rfl⟩
  ·have h0:=hr.rows q oq h;refine⟨h0.pos,h0.lens,h0.none,λb hb=>?_,h0.mo,h0.deep⟩;obtain⟨e1,cur,e2,e3,e4,e5,e6⟩:=h0.some b hb;exact⟨e1,cur,e2,e3,e4,e5,λi' y hy j' c hc=>by obtain⟨u,f1,f2⟩:=e6 i' y hy j' c hc;exact⟨u,f1,rC _ _ f2⟩⟩
  ·refine⟨qu.pos,λy hy=>?_,(λhn=>by simp only[o']at hn;rw[vg]at hn;cases hn),λb hb=>?_,λb hb=>qu.mo b hb.1,?_⟩
   ·rcases nW hy with hy|rfl
    ·exact qu.lens y (by rw[uX];exact hy)
    ·have h0:=qu.lens x (by rw[uX];exact mB hx);refine⟨by rw[List.length_set];exact h0.1,λc vB=>?_⟩;rcases nW vB with h|rfl
     ·exact h0.2 c h
     ·rfl
   ·simp only[o']at hb;rw[vg]at hb;cases hb;refine⟨xG,cur,rE,rP,by simpa [o',uX] using hle,sb,λi' y hy j' c tk=>?_⟩;simp only[o']at hy⊢;by_cases hi:i'=i
    ·subst hi;rw[mN tM,mE]at hy;subst hy;by_cases hj:j'=j
     ·subst hj;rw[mN uG,mE]at tk;subst tk;exact⟨uv,hu1,zK⟩
     ·rw[mT (nm hj)]at tk;obtain⟨u,f1,f2⟩:=rF i' x (by rw[uX];exact hx) j' c tk;exact⟨u,f1,rC _ _ f2⟩
    ·rw[mT (nm hi)]at hy;obtain⟨u,f1,f2⟩:=rF i' y (by rw[uX];exact hy) j' c tk;exact⟨u,f1,rC _ _ f2⟩
   ·refine⟨λi' j' b=>if i'=i/\j'=j then False else D i' j' b,λi' j' b hb=>?_,λi1 j1 i2 j2 b h1 h2=>?_,λb hb sB el2 l rX i' y j' e2 s2 zs hy tk=>?_⟩
    ·simp only at hb;split at hb
     ·exact hb.elim
     ·rename_i yc;exact⟨d1 i' j' b hb,λh=>yc (d2 _ _ _ _ _ hb h)⟩
    ·simp only at h1 h2;split at h1<;>split at h2<;>first|exact h1.elim|exact h2.elim|exact d2 _ _ _ _ _ h1 h2
    ·simp only[o']at hb hy⊢;rw[vg]at hb;cases hb;rw[rE]at rX;cases rX;have hold:(¬ (i'=i/\j'=j))/\∃y0,o.row.xs[i']?=some y0/\y0[j']?=some (.dv e2 s2 zs):=by
      rw[uX];by_cases hi:i'=i
      ·subst hi;rw[mN tM,mE]at hy;subst hy;by_cases hj:j'=j
       ·subst hj;rw[mN uG,mE]at tk;cases tk
       ·rw[mT (nm hj)]at tk;exact⟨λh=>hj h.2,x,hx,tk⟩
      ·rw[mT (nm hi)]at hy;exact⟨λh=>hi h.1,y,hy,tk⟩
     obtain⟨yc,y0,yQ,tK⟩:=hold;obtain⟨u,f1,f2⟩:=d3 bo vg cur _ _ rE i' y0 j' e2 s2 zs yQ tK;exact⟨u,f1,by simpa only[yc,mW] using f2⟩
  ·exact hpk _
 ·rcases rD q oq hq with ⟨q1,q2,h⟩|⟨rfl,rfl⟩|⟨rfl,rfl⟩<;>rcases rD q' xl uu with ⟨q1',q2',h'⟩|⟨rfl,rfl⟩|⟨rfl,rfl⟩
  ·exact hr.inj q q' oq xl b h h' hb rZ
  ·exact hr.inj q _ oq o b h ho hb (zb b rZ)
  ·exact absurd (hr.inj q id oq o b h ho hb (ze b rZ)) q1
  ·exact hr.inj _ q' o xl b ho h' (zb b hb) rZ
  ·rfl
  ·exact absurd rZ (sJ b hb)
  ·exact absurd (hr.inj id q' o xl b ho h' (ze b hb) rZ).symm q1'
  ·exact absurd hb (sJ b rZ)
  ·rfl
 ·obtain⟨q,hq⟩:=ma.1 hoq;rcases rD q oq hq with ⟨_,_,h⟩|⟨_,rfl⟩|⟨_,rfl⟩
  ·exact h2 oq (mB h) hb
  ·exact h2 o (mB ho) (zb b hb)
  ·exact h2 o (mB ho) (ze b hb)
variable {α β : Type} {l : List α} {enc : α -> List AV}
def hole (l:List α)(enc:α->List AV)(i:Int)(x:List AV):List (List AV):=(l.map enc).set i.toNat x
theorem aY {i:Int}{u:α}{x:List AV}(h:x=enc u):hole l enc i x=(Sh.put l i u).map enc:=by subst h;exact Zw
theorem Js {i:Int}{u:α}{x:List AV}(h:Sh.get l i=some u):(hole l enc i x)[i.toNat]?=some x:=by
 have:=(Sh.get_some h).2.2;have h0:=(Sh.get_some h).1;exact mN (by simp;omega)
theorem dP {i:Int}{x y:List AV}:(hole l enc i x).set i.toNat y=hole l enc i y:=by unfold hole;rw[List.set_set]
theorem IU {id m g size sz nn j:Nat}{el uL:TypeId}{i:Int}{c:α}{ys:List β}{encY:β->List AV}{x x':List AV}{e:Nat->AV}{st st':List Row}(qo:st[id]?=some ⟨g,el,size,l.map enc⟩)(hi:Sh.get l i=some c)(hx:enc c=x)(hc:x[j]?=some (.dv uL sz (ys.map encY)))
  (hm:st.length=m) (tR:x.set j (.own m 0 ys.length)=x') (rH:st.set id ⟨g,el,size,hole l enc i x'⟩++[⟨0,uL,sz,ys.map encY⟩]=st'):Wk k ⟨nn,e,st⟩ ⟨nn,e,st'⟩:=by
 subst rH;subst tR;subst hx;exact Wk.hH qo (Ed hi) hc hm (n:=ys.length) (by simp) rfl
theorem Wk.take {id m g gm size sz nn j n:Nat}{el uL:TypeId}{i:Int}{c:α}{ys:List β}{encY:β->List AV}{x x':List AV}{e:Nat->AV}{st st':List Row}(qo:st[id]?=some ⟨g,el,size,hole l enc i x⟩)(hi:Sh.get l i=some c)(hc:x[j]?=some (.own m gm n))
  (hm:st[m]?=some ⟨gm,uL,sz,ys.map encY⟩) (hn:n=ys.length) (rV:id≠m) (xj:k<=m) (hd :∀y,(encY y).all QF=true) (tR:x.set j (.dv uL sz (ys.map encY))=x') (rH:(st.set id ⟨g,el,size,hole l enc i x'⟩).set m ⟨gm+1,uL,sz,[]⟩=st') :
  Wk k ⟨nn,e,st⟩ ⟨nn,e,st'⟩:=by
 subst rH;subst tR;refine PM qo (Js hi) hc hm (by simpa using hn) rV xj (λy hy c hc=>?_) (by rw[dP]);obtain⟨z,_,rfl⟩:=mU.1 hy;exact mL.1 (hd z) c hc
theorem Ev {id g size nn:Nat}{el:TypeId}{i:Int}{u:α}{x:List AV}{e:Nat->AV}{st st':List Row}(qo:st[id]?=some ⟨g,el,size,hole l enc i x⟩)(hx:x=enc u)(rH:st.set id ⟨g,el,size,(Sh.put l i u).map enc⟩=st'):Wk k ⟨nn,e,st⟩ ⟨nn,e,st'⟩:=by
 rw[aY hx]at qo;have:st.set id ⟨g,el,size,(Sh.put l i u).map enc⟩=st:=by
  obtain⟨h1,h2⟩:=mC.1 qo;rw[<- h2];exact pO h1
 rw[this]at rH;exact E4 rH
section
variable {ops : Array Oper} {Q : Exit -> St -> Prop} {ds : List (Option Tmp)} {r : List Oper} {n : Nat} {e : Nat -> AV} {st st' : List Row} {ty : TypeId} {ps : String} {ed : Array Edge} {t : Tmp} {v : AV} {gd : Option (Nat × Bool)} {T : TypeId} {x y : Operand} {ag : Bool} {sz id g size : Nat} {el : TypeId} {cs : List AV} {c : α} {i : Int}
theorem SL (hg:GO ds gd e)(ht:DS P T=some (ag,sz))(hx:St.ev ⟨n,e,st⟩ x=.ptr id g i.toNat 0)(hr:st[id]?=some ⟨g,el,size,l.map enc⟩)(hi:Sh.get l i=some c)(hv:St.ev ⟨n,e,st⟩ y=v)(hc:Lr v=some cs)(hn:cs.length=sz)(hle:cs.length<=size)
  (hlen:(enc c).length=cs.length) (rH:st.set id ⟨g,el,size,hole l enc i cs⟩=st') (hk:AO P k ops Q (ds++[none]) r ⟨n,e,st'⟩):AO P k ops Q ds (⟨none,.store T x y,ty,ps,ed,gd⟩::r) ⟨n,e,st⟩:=by
 refine Aq hg ht hx hr (Ed hi) hv hc hn (by omega) ?_ hk;rw[<- rH];have:HW (enc c) 0 cs=cs:=by
  unfold HW;rw[oU,nV,nS,oN (by omega),nK]
 rw[this];rfl
end
end Go.Abs
namespace Go.Abs
open Go
variable {P : Program} {F : Nat -> Prop} {os : List Own} {s : St} {a : Act} {w : World} {k : Nat}
theorem Rel.fR (hr:Rel F os s a w){cur:Array Value}{e:TypeId}{size cap:Nat}{xs:List (List AV)}(ru:0<size)(tE :∀x∈xs,x.length=size/\∀c∈x,c.kept=true)
  (rP:cur.size=cap*size) (hle:xs.length<=cap) (sb:cap<=maxLen)
  (rF :∀(i:Nat) x,xs[i]?=some x->∀(j:Nat) c,x[j]?=some c->∃u,cur[i*size+j]?=some u/\Ae F w os c u/\∀e s ys,c=.dv e s ys->ED Fj w c u) :
  let o:Own:=⟨⟨0,e,size,xs⟩,some w.heap.size,cap,Fj⟩
  Rel F (os++[o]) { s with st:=s.st++[o.row] } a (w.alloc (.cells cur e))/\Ext F os w F (os++[o]) (w.alloc (.cells cur e)) k:=by
 intro o;have ht:G7 w (w.alloc (.cells cur e)) none:=G7.alloc _ _ _;have rJ:∀(i:Nat) (oi:Own) g,os[i]?=some oi->oi.owns g->g<w.heap.size:=λi oi g hi hg=>(hr.rows i oi hi).lt hg;have rD:∀(i:Nat) (oi:Own),(os++[o])[i]?=some oi->os[i]?=some oi∨(i=os.length/\oi=o):=λi oi hi=>by
  rcases ng i os.length with h|h|h
  ·rw[mM h]at hi;exact .inl hi
  ·subst h;simp at hi;exact .inr ⟨rfl,hi.symm⟩
  ·rw[mP (by omega),nH (by simp;omega)]at hi;cases hi
 have hold:∀x v,Ae F w os x v->Ae F (w.alloc (.cells cur e)) (os++[o]) x v:=λx v h=>
  EJ (λ_ h=>h) (λg hg=>ht.F6 g (hr.F6 g hg) (by simp)) os _ (Ex.append os [o]) x v h
 have wb:∀g,o.owns g->g=w.heap.size:=λg hg=>by
  simp only[Own.owns,o,Fj,pt,mE]at hg;exact hg.symm
 have:=hr.Xl (k:=k) ht (by simp) (os':=os++[o]) (Ex.append os [o]) (λi oi hi=>by
   rcases rD i oi hi with h|⟨_,rfl⟩
   ·exact .inl ⟨h,by simp⟩
   ·refine .inr ⟨ru,tE,by simp[o],λg hg=>?_,λg hg=>hg.elim,⟨λ_ _ _=>False,λ_ _ _ h=>h.elim,λ_ _ _ _ _ h=>h.elim,λb hb sB el l rX i x j e' s' ys hx hc=>?_⟩⟩
    ·simp only[o,mE]at hg;subst hg;refine⟨λhF=>absurd (hr.F6 _ hF) (pj _),cur,oW w _,rP,hle,sb,λi' x hx j c hc=>?_⟩;obtain⟨u,h1,h2,_⟩:=rF i' x hx j c hc;exact⟨u,h1,hold _ _ h2⟩
    ·simp only[o,mE]at hb;subst hb;rw[oW w _]at rX;cases rX;obtain⟨u,h1,_,h3⟩:=rF i x hx j _ hc;exact⟨u,h1,JX (λ_ h=>h.elim) (λ_ h=>h.elim) _ u (h3 _ _ _ rfl)⟩)
  (λi j oi oj g hi hj uQ uR=>by
   rcases rD i oi hi with h|⟨h,rfl⟩<;>rcases rD j oj hj with h'|⟨h',rfl⟩
   ·exact hr.inj i j oi oj g h h' uQ uR
   ·have:=rJ i oi g h uQ;have:=wb g uR;omega
   ·have:=rJ j oj g h' uR;have:=wb g uQ;omega
   ·omega)
  (λo' rW g hg=>by
   rcases my.1 rW with h|h
   ·exact .inr ⟨o',h,hg⟩
   ·simp only[mv]at h;subst h;exact .inl (by have:=wb g hg;omega))
  (by simp)
 refine⟨?_,this.2.1⟩;have h1:=this.1;rw[mu,hr.st]at h1;simpa using h1
def ZD:List AV->List AV->Prop
 | [],[]=>True
 | x::r,y::r'=>((x=y/\x.leaf=true)∨(x=.sl []/\∃el s,y=.dv el s []/\0<s))/\ZD r r'
 | _,_=>False
theorem ZD.len:∀{xs ys:List AV},ZD xs ys->xs.length=ys.length
 | [],[],_=>rfl
 | x::r,y::r',h=>by simp[ZD.len h.2]
theorem ZD.get:∀{xs ys:List AV},ZD xs ys->∀(j:Nat) y,ys[j]?=some y->∃x,xs[j]?=some x/\((x=y/\x.leaf=true)∨(x=.sl []/\∃el s,y=.dv el s []/\0<s))
 | [],[],_,j,y,h=>by simp at h
 | x::r,y::r',h,j,z,hz=>by
  cases j with
  | zero=>simp only[me,mE]at hz;subst hz;exact⟨x,rfl,h.1⟩
  | succ j=>exact ZD.get h.2 j z (by simpa using hz)
theorem ZF {v:Value}(h:Kt v=.sl []):v=.slice none 0 0:=by
 unfold Kt at h;split at h
 ·rfl
 ·unfold Mu at h;split at h<;>cases h
theorem bk {t:TypeId}{ei:bI}{l c:AV}{ul uc:Value}{zd:List AV}{kl kc:IntKind}{n:Int}(hr:Rel F os s a w)(he:Cj P t=some ei)(hzd:ZD ei.zero zd)(h0:0<=n)(hb:n*(ei.bytes:Int)<=281474976710656)(hm:n<=9223372036854775807)(el:l=.int kl n)(ec:c=.int kc n)(hl:Ae F w os l ul)(hc:Ae F w os c uc):
  HG P k F os s a w (Instr.makeSlice t ul uc) (λv st=>v=.own s.st.length 0 n.toNat/\st=s.st++[⟨0,ei.e,ei.size,List.replicate n.toNat zd⟩]):=by
 obtain⟨inf,z,hu,hi,hz,sq,ru,rP,hby,hzero,hzl⟩:=IY he;subst el;subst ec;simp only[Ae]at hl hc;subst hl;subst hc;obtain⟨N,rfl⟩:=nU h0;simp only[nj];have rO:=run_make (P:=P) w t ei.e inf z hu hi hz kl kc N N (by omega) (pU _) (by rw[<- hby,Int.mul_comm];omega) (by omega);simp only[nj]at rO;have wT:zd.length=ei.size:=by rw[<- hzd.len,hzero,rP,<- sq];simp
 have:=hr.fR (k:=k) (cur:=madeCells z.cells (N*inf.size)) (e:=ei.e) (size:=ei.size) (cap:=N) (xs:=List.replicate N zd) (by omega)
  (λx hx=>by
   rw[oT]at hx;rw[hx.2];refine⟨wT,λc hc=>?_⟩;obtain⟨j,hj⟩:=ma.1 hc;obtain⟨x,_,h⟩:=hzd.get j c hj;rcases h with ⟨rfl,h⟩|⟨_,el,s,rfl,_⟩
   ·exact Dr h
   ·rfl) (by rw[size_madeCells,rP]) (by simp) (by simp[maxLen];omega) (λi x hx j c hc=>by
   rw[List.getElem?_replicate]at hx;split at hx<;>simp only[mE,reduceCtorEq]at hx;subst hx;rename_i hiN;have uG:j<ei.size:=by rw[<- wT];exact (mC.1 hc).1
   have vA:j<z.cells.size:=by omega
   obtain⟨x0,hx0,tT⟩:=hzd.get j c hc;rw[hzero]at hx0;simp only[mG,na,nM vA,nC,mE]at hx0;refine⟨z.cells[j],?_,?_⟩
   ·have rJ:i*ei.size+j<N*inf.size:=by
     have:(i+1)*ei.size<=N*ei.size:=nE _ hiN;rw[nJ]at this;rw[<- rP];omega
    have tw:(i*ei.size+j) % z.cells.size=j:=by rw[sq,<- rP,pY,pz];exact pS uG
    simp[madeCells,rJ,tw,vA]
   ·rcases tT with ⟨rfl,td⟩|⟨rfl,el,s,rfl,hs⟩
    ·rw[<- hx0];refine⟨Kk F w os _,λe s ys e'=>?_⟩;rw[hx0]at e';rw[e']at td;simp[AV.leaf]at td
    ·have:=ZF hx0;rw[this];refine⟨by simp only[Ae];exact⟨_,_,_,rfl⟩,λe s' ys e'=>?_⟩;simp only[ED];exact⟨hs,.inl ⟨mD,none,rfl⟩⟩)
 refine⟨_,_,_,_,_,⟨rfl,rfl⟩,rO,this.1,?_,this.2⟩;simp only[Ae];refine⟨⟨⟨0,ei.e,ei.size,List.replicate N zd⟩,some w.heap.size,N,Fj⟩,by rw[hr.len];simp,by simp,⟨_,_,_,rfl⟩,λ_=>⟨by simp,.inr ⟨_,rfl,by simp⟩⟩⟩
theorem AO.OZ {ops:Array Oper}{Q:Exit->St->Prop}{ds:List (Option Tmp)}{r:List Oper}{o:Oper}{s s':St}(za:o.guard=none)
  (h :∀F os a w,Rel F os s a w->DY s.n o.dst=true->∀(next:Act->World->Prop) (Q':Exit->Act->World->Prop),(∀a' w',Step k s.n F os w (·=s') a' w'->next a' w')->o.wp P a w next Q')
  (hk:AO P k ops Q (ds++[o.dst]) r s'):AO P k ops Q ds (o::r) s:=by
 intro hl tr ry F os a w hr Q' hQ;have ho:ops[ds.length]?=some o:=by have:=hl 0;simpa using this.symm
 have wW:DY s.n o.dst=true:=ry o (by have:=mB (l:=ops.toList) (i:=ds.length) (by simpa using ho);exact this);have vR :∀(j:Nat),r[j]?=ops[(ds++[o.dst]).length+j]?:=λj=>by
  have:=hl (j+1);simp only[mz]at this;rw[this];congr 1;simp;omega
 have tx :∀(j:Nat) d,(ds++[o.dst])[j]?=some d->(ops[j]?).map (·.dst)=some d:=λj d hj=>by
  rcases ng j ds.length with h1|h1|h1
  ·rw[mM h1]at hj;exact tr j d hj
  ·subst h1;rw[Je,mE]at hj;rw[ho];simp[hj]
  ·rw[nH (by simp;omega)]at hj;cases hj
 unfold wpList;have hw:Region.wanted o (yielded ops a.tmps)=true:=by unfold Region.wanted;rw[za]
 rw[mI hw];refine .inl (h F os a w hr wW _ _ ?_);rintro a' w' ⟨s2,F2,os2,zU,rfl,hR2,xe⟩;exact hk vR tx (by rw[zU];exact ry) F2 os2 a' w' hR2 Q' λ_ _ _ hp=>hQ _ _ _ (hp.trans xe)
section
variable {α : Type} {l : List α} {enc : α -> List AV}
variable {ops : Array Oper} {Q : Exit -> St -> Prop} {ds : List (Option Tmp)} {r : List Oper} {n : Nat} {e : Nat -> AV} {st st' : List Row} {ty : TypeId} {ps : String} {ed : Array Edge} {t : Tmp} {T : TypeId} {x y : Operand} {m bytes size : Nat} {el : TypeId} {zz : List AV} {u : α} {j : Int} {kk tz : IntKind}
theorem OQ (he:Cj P T=some ⟨el,size,bytes,zz⟩)(hx:St.ev ⟨n,e,st⟩ x=.int kk j)(hy:St.ev ⟨n,e,st⟩ y=.int tz j)(hz:ZD zz (enc u))(hl:Sh.mk u j bytes=some l)(hm:st.length=m)(rH:st++[⟨0,el,size,l.map enc⟩]=st')
  (hk:AO P k ops Q (ds++[some t]) r ⟨n,FY e t (.own m 0 l.length),st'⟩):AO P k ops Q ds (⟨some t,.makeSlice T x y,ty,ps,ed,none⟩::r) ⟨n,e,st⟩:=by
 subst hm;subst rH;unfold Sh.mk at hl;split at hl
 case isFalse=>cases hl
 rename_i h;simp only[mE]at hl;subst hl;refine AO.OZ rfl (λF os a w hr hd next Q' hn=>?_) hk;obtain⟨v,st',u',w',os',⟨rfl,rfl⟩,h2,h3,h4,h5⟩:=bk (k:=k) (ei:=⟨el,size,bytes,zz⟩) hr he hz h.1 h.2.1 h.2.2 hx hy (hr.ev x) (hr.ev y);unfold Oper.wp;simp only[execOp,nA,h2,mw,nY,Oper.upon];refine hn _ _ (ND hd ?_ h3 h4 h5);simp[St.put,pH]
end
end Go.Abs
namespace Go.Abs
open Go
variable {P : Program} {F : Nat -> Prop} {os : List Own} {s : St} {a : Act} {w : World} {k : Nat}
variable {α β : Type} {l : List α} {enc : α -> List AV}
theorem HD {id g size nn:Nat}{el:TypeId}{i:Int}{c:α}{x:List AV}{e:Nat->AV}{st st':List Row}(qo:st[id]?=some ⟨g,el,size,hole l enc i x⟩)(hi:Sh.get l i=some c)(hx:x=enc c)(rH:st.set id ⟨g,el,size,l.map enc⟩=st'):Wk k ⟨nn,e,st⟩ ⟨nn,e,st'⟩:=by
 have h2:hole l enc i x=l.map enc:=by
  subst hx;unfold hole;have:=Ed (enc:=enc) hi;obtain⟨h1,h2⟩:=mC.1 this;rw[<- h2];exact pO h1
 rw[h2]at qo;have:st.set id ⟨g,el,size,l.map enc⟩=st:=by
  obtain⟨h1,h2⟩:=mC.1 qo;rw[<- h2];exact pO h1
 rw[this]at rH;exact E4 rH
end Go.Abs
namespace Go.Abs
open Go
theorem NB {α:Type}{l l':List α}{c:α}{b:Nat}(h:Sh.app l [c] b=some l'):Sh.get l' (Sh.len l)=some c:=by
 unfold Sh.app at h;split at h
 ·simp only[mE]at h;subst h;unfold Sh.get Sh.len;rw[mI (pG _)];simp
 ·cases h
section
variable {P : Program} {k : Nat} {α : Type} {l l' : List α} {enc : α -> List AV} {c : α}
variable {ops : Array Oper} {Q : Exit -> St -> Prop} {ds : List (Option Tmp)} {r : List Oper} {n : Nat} {e : Nat -> AV} {st st' : List Row} {ty : TypeId} {ps : String} {ed : Array Edge} {t : Tmp} {gd : Option (Nat × Bool)} {T : TypeId} {x y : Operand} {bytes size id g m q gq size' : Nat} {el uL : TypeId} {zz cs : List AV}
theorem PC (hg:GO ds gd e)(he:Cj P T=some ⟨el,size,bytes,zz⟩)(hx:St.ev ⟨n,e,st⟩ x=.own id g m)(hr:st[id]?=some ⟨g,el,size,l.map enc⟩)(hm:m=l.length)(hy:St.ev ⟨n,e,st⟩ y=.own q gq 1)(hq:st[q]?=some ⟨gq,uL,size',[cs]⟩)
  (td:cs.all AV.leaf=true) (sQ:cs.length=size) (ha:Sh.app l [c] bytes=some l') (rH:st.set id ⟨g+1,el,size,hole l' enc (Sh.len l) cs⟩=st') (hk:AO P k ops Q (ds++[some t]) r ⟨n,FY e t (.own id (g+1) l'.length),st'⟩) :
  AO P k ops Q ds (⟨some t,.call ⟨.builtin .append,#[x,y],#[T,T]⟩,ty,ps,ed,gd⟩::r) ⟨n,e,st⟩:=by
 subst rH;subst hm;refine Mf hg ?_;rw[V9];refine⟨rfl,?_⟩;rw[hx,hy];unfold Sh.app at ha;split at ha
 ·rename_i h;simp only[mE]at ha;subst ha;refine Ak _ he (Ak _ hq ⟨rfl,λz hz c hc=>?_,rfl,λz hz=>?_,Ak _ hr ⟨rfl,(mO _).symm,rfl,rfl,by simpa using h.1,by simpa using h.2,?_⟩⟩)
  ·simp only[mv]at hz;subst hz;exact mL.1 td c hc
  ·simp only[List.take_one,List.head?_cons,Option.toList_some,mv]at hz;subst hz;exact sQ
  ·have e1:(l.map enc).take l.length=l.map enc:=by rw[<- mO (f:=enc) (as:=l),nI]
   have e3:List.map enc l++[cs]=hole (l++[c]) enc (Sh.len l) cs:=by simp[hole,Sh.len]
   simp only[e1,List.take_one,List.head?_cons,Option.toList_some,e3,nw];rw[show l.length+1=(l++[c]).length by simp];exact hk
 ·cases ha
end
end Go.Abs
namespace Go.Abs
open Go
variable {P : Program} {F : Nat -> Prop} {os : List Own} {s : St} {a : Act} {w : World} {k : Nat}
def Mc (id g:Nat)(xs:List (List AV)):AV->AV
 | .own sH g' n=>if sH=id/\g'=g then (if n=xs.length then .sl (J8 xs) else .FN) else .own sH g' n
 | v=>v
def iU (id g:Nat)(xs:List (List AV)):AV->AV
 | .agg cs=>.agg (cs.map (Mc id g xs))
 | .DX cs=>.DX (cs.map (Mc id g xs))
 | v=>Mc id g xs v
theorem Wk.fl {id:Nat}{row:Row}(tv:k<=id)(qo:s.st[id]?=some row)(hp:UE row.xs):
  Wk k s ⟨s.n,λt=>iU id row.gen row.xs (s.env t),s.st.set id { row with gen:=row.gen+1,xs:=[] }⟩:=λF os a w hr=>by
 obtain⟨o,ho,rfl⟩:=hr.row qo;have qu:=hr.rows id o ho;refine⟨λb=>F b∨o.owns b,os.set id ⟨{ o.row with gen:=o.row.gen+1,xs:=[] },none,0,Fj⟩,?_,?_⟩
 case refine_2=>
  refine⟨rfl,rfl,rfl,mS _,λ_ h=>.inl h,λ_ _=>rfl,λb _ h1 h2=>⟨rfl,λh=>h.elim h1 (λe=>h2 o (mB ho) e),λo' rW=>?_⟩,λi oi hi hoi=>⟨oi,?_,mS _,rfl,λ_=>⟨rfl,rfl,rfl⟩⟩⟩
  ·rcases nW rW with h|rfl
   ·exact h2 o' h
   ·intro hh;rcases hh with hh|hh
    ·simp at hh
    ·exact hh
  ·rw[mT (by omega)];exact hoi
 have hF:∀b,F b->(λb=>F b∨o.owns b) b:=λ_ h=>.inl h;have rq:Ex os (os.set id ⟨{ o.row with gen:=o.row.gen+1,xs:=[] },none,0,Fj⟩):=Ex.set ho (by simp) rfl (λe=>by simp at e);have rC:∀x v,Ae F w os x v->Ae (λb=>F b∨o.owns b) w (os.set id ⟨{ o.row with gen:=o.row.gen+1,xs:=[] },none,0,Fj⟩) x v:=λx v h=>
  EJ hF (λ_ _=>rfl) os _ rq x v h
 have h1:∀x v,Ae F w os x v->Ae (λb=>F b∨o.owns b) w (os.set id ⟨{ o.row with gen:=o.row.gen+1,xs:=[] },none,0,Fj⟩) (Mc id o.row.gen o.row.xs x) v:=λx v h=>by
  cases x with
  | own sH g' n=>
   simp only[Mc];split
   ·rename_i hif;obtain⟨rfl,rfl⟩:=hif;split
    ·rename_i hn0;subst hn0;simp only[Ae]at h;obtain⟨o',rW,_,_,h⟩:=h;rw[ho]at rW;cases rW;obtain⟨_,hv⟩:=h rfl;have hD:=UK qu hp (v:=v) (by simpa only[oP,pB,pM] using hv);have:=(UF (F:=λb=>F b∨o.owns b) (λb hb=>.inr hb) _ _ hD).1;simp only[Ox,Ae]at this⊢;exact this
    ·simp[Ae]
   ·exact rC _ _ h
  | _=>exact rC _ _ h
 have hL:∀xs us,Ba F w os xs us->Ba (λb=>F b∨o.owns b) w (os.set id ⟨{ o.row with gen:=o.row.gen+1,xs:=[] },none,0,Fj⟩) (xs.map (Mc id o.row.gen o.row.xs)) us:=λxs us h=>
  Ds (by simp[BJ h]) λi x u hx hu=>by
   simp only[mG,mK]at hx;obtain⟨y,hy,rfl⟩:=hx;obtain⟨u',e1,e2⟩:=CD h i y hy;rw[hu]at e1;cases e1;exact h1 _ _ e2
 have rD:∀(i:Nat) (oi:Own),(os.set id ⟨{ o.row with gen:=o.row.gen+1,xs:=[] },none,0,Fj⟩)[i]?=some oi->(i≠id/\os[i]?=some oi)∨(i=id/\oi=⟨{ o.row with gen:=o.row.gen+1,xs:=[] },none,0,Fj⟩):=λi oi hi=>by
  by_cases e:i=id
  ·subst e;rw[mN (mC.1 ho).1,mE]at hi;exact .inr ⟨rfl,hi.symm⟩
  ·rw[mT (nm e)]at hi;exact .inl ⟨e,hi⟩
 refine⟨by rw[nt,hr.st],λt=>?_,hr.size,λi oi hi=>?_,λi j oi oj b hi hj sS sj=>?_,λb hb=>?_,hr.defers⟩
 ·have:=hr.env t;simp only;generalize s.env t=x at this⊢;cases x with
  | agg cs=>simp only[iU,Ae]at this⊢;obtain⟨us,e,h⟩:=this;exact⟨us,e,hL _ _ h⟩
  | DX cs=>simp only[iU,Ae]at this⊢;obtain⟨us,e,h⟩:=this;exact⟨us,e,hL _ _ h⟩
  | _=>exact h1 _ _ this
 ·rcases rD i oi hi with ⟨rV,h⟩|⟨_,rfl⟩
  ·have sv:=hr.rows i oi h;refine⟨sv.pos,sv.lens,sv.none,λb hb=>?_,λb hb=>⟨λhF=>hF.elim (sv.mo b hb).1 (λuO=>rV (hr.inj i id oi o b h ho (.inr hb) uO)),(sv.mo b hb).2⟩,sv.deep⟩;obtain⟨e1,cur,e2,e3,e4,e5,e6⟩:=sv.some b hb;refine⟨λhF=>hF.elim e1 (λuO=>rV (hr.inj i id oi o b h ho (.inl hb) uO)),cur,e2,e3,e4,e5,λi' x hx j c hc=>?_⟩;obtain⟨u,f1,f2⟩:=e6 i' x hx j c hc;exact⟨u,f1,rC _ _ f2⟩
  ·exact⟨qu.pos,by simp,by simp,by simp,λb hb=>hb.elim,Fv (by simp)⟩
 ·rcases rD i oi hi with ⟨rV,h⟩|⟨h,rfl⟩<;>rcases rD j oj hj with ⟨wS,h'⟩|⟨h',rfl⟩
  ·exact hr.inj i j oi oj b h h' sS sj
  ·exact sj.elim (λe=>by simp at e) λe=>e.elim
  ·exact sS.elim (λe=>by simp at e) λe=>e.elim
  ·omega
 ·rcases hb with hb|hb|hb
  ·exact hr.F6 b hb
  ·obtain⟨_,cur,rE,_⟩:=qu.some b hb;exact (mq.1 rE).1
  ·exact (qu.mo b hb).2.1
variable {α : Type} {l : List α} {enc sd : α -> List AV} {n id g m size : Nat} {e : Nat -> AV} {st st' : List Row} {L : List (Nat × AV)} {el : TypeId} {xs : List (List AV)}
theorem bH (h:m=l.length)(hu :∀x,Hh (enc x)=sd x):Mc id g (l.map enc) (.own id g m)=.sl (l.map sd):=by
 subst h;simp only[Mc,and_self,mm,mO];rw[II,ny];congr 1;exact mj λx _=>hu x
theorem le.Mc (h:m=l.length)(hu :∀x,Hh (enc x)=sd x):le (Abs.Mc id g (l.map enc) (.own id g m)) (.sl (l.map sd)):=le.of (bH h hu)
theorem Ic (h :∀x,(enc x).all QF=true):UE (l.map enc):=λx hx c hc=>by
 obtain⟨y,_,rfl⟩:=mU.1 hx;exact mL.1 (h y) c hc
theorem Ll (qo:st[id]?=some ⟨g,el,size,xs⟩)(tv:k<=id)(hp:UE xs)(h:ME (λt=>Abs.iU id g xs (e t)) L)(rH:st.set id ⟨g+1,el,size,[]⟩=st'):Wk k ⟨n,e,st⟩ ⟨n,AN L,st'⟩:=by
 subst rH;exact (Wk.fl (s:=⟨n,e,st⟩) tv qo hp).trans (Ao h)
end Go.Abs
namespace Go.Abs
open Go
variable {P : Program} {F : Nat -> Prop} {os : List Own} {s : St} {a : Act} {w : World} {k : Nat}
section
variable {P : Program} {ops : Array Oper} {Q : Exit -> St -> Prop} {n N f i : Nat} {qi listed' : Array Bool} {e : Nat -> AV} {ty : TypeId} {p : String} {ed : Array Edge} {t : Tmp} {α : Type} {l l2 l' : List α} {enc : α -> List AV} {x y : Operand} {g m size bytes : Nat} {el : TypeId} {zz : List AV} {T : TypeId} {rst : List Row} {k : Nat}
theorem T5 (h:qi=listed'){s:St}(ha:AX P k ops Q N f qi s):AX P k ops Q N f listed' s:=h▸ha
theorem LV {s:St}(h :∀A:Nat->Array Bool->St->Prop,(∀f l s,A f l s↔AX P k ops Q N f l s)->A f qi s):AX P k ops Q N f qi s:=
 h (AX P k ops Q N) (λ_ _ _=>Iff.rfl)
end
section
variable {P : Program} {ds : List (Option Tmp)} {r : List Oper} {KS : St -> Prop} {n : Nat} {e : Nat -> AV} {st : List Row} {ty : TypeId} {ps : String} {ed : Array Edge} {t : Tmp} {gd : Option (Nat × Bool)} {α : Type} {l l' : List α} {enc : α -> List AV} {x : Operand} {size bytes : Nat} {el T : TypeId} {zz : List AV}
theorem aX {lo hi:Option Operand}{i j:Int}(hg:GO ds gd e)(he:Cj P T=some ⟨el,size,bytes,zz⟩)(hx:St.ev ⟨n,e,st⟩ x=.sl (l.map enc))(h1:TR (lo.map (St.ev ⟨n,e,st⟩)) 0=some i)(h2:TR (hi.map (St.ev ⟨n,e,st⟩)) l.length=some j)(hs :∀a,(enc a).length=size)(hl:Sh.sl l i j=some l')
  (hk:Di P (ds++[some t]) r KS ⟨n,FY e t (.sl (l'.map enc)),st⟩):Di P ds (⟨some t,.slice T x lo hi none,ty,ps,ed,gd⟩::r) KS ⟨n,e,st⟩:=by
 refine eZ hg rfl (λs0 e1 e2 hd k F os a w hr next Q hn=>?_) hk;refine Qi (k:=k) (K:=(·=s0.put (some t) (.sl (l'.map enc)))) hr hd ?_ hn;show VF P s0.st T (s0.ev x) (lo.map s0.ev) (hi.map s0.ev) (Option.map s0.ev none) (λv st=>({ s0 with st:=st }:St).put (some t) v=s0.put (some t) (.sl (l'.map enc)));have ex:s0.ev x=St.ev ⟨n,e,st⟩ x:=e2 x (by simp[Op.operands]);have elo:lo.map s0.ev=lo.map (St.ev ⟨n,e,st⟩):=by
  cases lo with
  | none=>rfl
  | some y=>simp only[nC];rw[e2 y (by simp[Op.operands])]
 have ehi:hi.map s0.ev=hi.map (St.ev ⟨n,e,st⟩):=by
  cases hi with
  | none=>rfl
  | some y=>simp only[nC];rw[e2 y (by simp[Op.operands])]
 rw[ex,elo,ehi,hx];unfold Sh.sl at hl;split at hl
 ·rename_i h;simp only[mE]at hl;subst hl;refine Ak _ he (Ak _ h1 (Ak _ (by rw[mO];exact h2) ⟨h.1,h.2.1,by simpa using h.2.2,λz hz=>?_,?_⟩))
  ·obtain⟨q,_,rfl⟩:=mU.1 hz;exact hs q
  ·rw[List.map_drop,List.map_take]
 ·cases hl
end
end Go.Abs
namespace Go.Abs
open Go
section
variable {P : Program} {k : Nat} {ops : Array Oper} {Q : Exit -> St -> Prop} {ds : List (Option Tmp)} {r : List Oper} {n : Nat} {e : Nat -> AV} {st st' : List Row} {ty : TypeId} {p : String} {ed : Array Edge} {t : Tmp} {x y : Operand} {size bytes m : Nat} {el T Tn : TypeId} {zz : List AV} {α : Type} {enc : α -> List AV} {u : α} {l' : List α} {kk : IntKind} {j : Int} {v : AV} {o : Oper}
theorem bP (hn:o.guard=none)(h :∀F os a w,Rel F os ⟨n,e,st⟩ a w->∃z w' F' os',(execOp a.eval o).run P w=.ok (.value z) w'/\Rel F' os' ⟨n,e,st'⟩ a w'/\Ae F' w' os' v z/\Ext F os w F' os' w' k)
  (hk:AO P k ops Q (ds++[o.dst]) r (St.put ⟨n,e,st'⟩ o.dst v)):AO P k ops Q ds (o::r) ⟨n,e,st⟩:=by
 intro hl tr ry F os a w hr Q' hQ;have ho:ops[ds.length]?=some o:=by have:=hl 0;simpa using this.symm
 have wW:DY n o.dst=true:=ry o (by have:=mB (l:=ops.toList) (i:=ds.length) (by simpa using ho);exact this);have vR :∀(j:Nat),r[j]?=ops[(ds++[o.dst]).length+j]?:=λj=>by
  have:=hl (j+1);simp only[mz]at this;rw[this];congr 1;simp;omega
 have tx :∀(j:Nat) d,(ds++[o.dst])[j]?=some d->(ops[j]?).map (·.dst)=some d:=λj d hj=>by
  rcases ng j ds.length with h1|h1|h1
  ·rw[mM h1]at hj;exact tr j d hj
  ·subst h1;rw[Je,mE]at hj;rw[ho];simp[hj]
  ·rw[nH (by simp;omega)]at hj;cases hj
 obtain⟨z,w',F',os',h1,h2,h3,h4⟩:=h F os a w hr;unfold wpList;rw[mI (by unfold Region.wanted;rw[hn])];refine .inl ?_;unfold Oper.wp;rw[h1];simp only[Oper.upon];refine hk vR tx (by cases o.dst<;>exact ry) F' os' _ w' (h2.put wW h3) Q' λ_ _ _ hp=>hQ _ _ _ (hp.trans h4)
theorem Su (hs:CY P T=true)(hx:St.ev ⟨n,e,st⟩ x=.zc)(hk:AO P k ops Q (ds++[some t]) r ⟨n,FY e t (i64 0),st⟩):
  AO P k ops Q ds (⟨some t,.call ⟨.builtin .cap,#[x],#[T]⟩,ty,p,ed,none⟩::r) ⟨n,e,st⟩:=by
 refine bP rfl (st':=st) (v:=i64 0) (λF os a w hr=>?_) hk;have h1:=hr.ev x;rw[hx]at h1;simp only[Ae]at h1;obtain⟨ad,h1⟩:=h1;unfold CY at hs;split at hs
 case h_2=>cases hs
 rename_i el hu;refine⟨.int .i64 0,w,F,os,?_,hr,by simp[Ae],Ext.refl _ _ _ _⟩;simp only[execOp,resolve,invoke,builtin,nA,nY,mw,List.map_toArray,mg,oI,h1,Builtin.cap_];simp[nR hu,goInt]
theorem ca {hi:Option Operand}(he:Cj P T=some ⟨el,size,bytes,zz⟩)(hx:St.ev ⟨n,e,st⟩ x=.zc)(h2:TR (hi.map (St.ev ⟨n,e,st⟩)) 0=some 0)
  (hk:AO P k ops Q (ds++[some t]) r ⟨n,FY e t .zc,st⟩):AO P k ops Q ds (⟨some t,.slice T x none hi none,ty,p,ed,none⟩::r) ⟨n,e,st⟩:=by
 refine Mf AR ?_;rw[TU];simp only[qB];rw[hx];exact Ak _ he (Ak _ rfl (Ak _ h2 ⟨rfl,rfl,hk⟩))
theorem aB {kn:IntKind}(he:Cj P T=some ⟨el,size,bytes,zz⟩)(hn:P.underlying Tn=some (.int kn))(hx:St.ev ⟨n,e,st⟩ x=.zc)(hy:St.ev ⟨n,e,st⟩ y=.int kk j)(h0:decide (0<j)=true)(hz:enc u=zz)(hj:Sh.mk u j bytes=some l')(hm:st.length=m)(rH:st++[⟨0,el,size,l'.map enc⟩]=st')
  (hk:AO P k ops Q (ds++[some t]) r ⟨n,FY e t (.own m 0 l'.length),st'⟩):AO P k ops Q ds (⟨some t,.call ⟨.builtin .append,#[x,y],#[T,Tn]⟩,ty,p,ed,none⟩::r) ⟨n,e,st⟩:=by
 subst hm;subst rH;subst hz;unfold Sh.mk at hj;split at hj
 case isFalse=>cases hj
 rename_i hbd;simp only[mE]at hj;subst hj;refine bP rfl (st':=st++[(⟨0,el,size,(List.replicate j.toNat u).map enc⟩:Row)]) (v:=.own st.length 0 (List.replicate j.toNat u).length) (λF os a w hr=>?_) hk;have h1:=hr.ev x;rw[hx]at h1;simp only[Ae]at h1;obtain⟨ad,h1⟩:=h1;have h2:=hr.ev y;rw[hy]at h2;simp only[Ae]at h2;obtain⟨inf,z,hu,hi,hz,sq,ru,rP,hby,hzz,td⟩:=IY he;dsimp only at hu hi sq ru rP hby hzz td;have hj0:0<j:=nQ h0;obtain⟨q,rfl⟩:=nU (Int.le_of_lt hj0);rw[nj];have hq0:0<q:=by omega
 have hq48:q*inf.bytes<=281474976710656:=by
  have h9:((q*bytes:Nat):Int)<=281474976710656:=by rw[pW];exact hbd.2.1
  rw[<- hby];omega
 have hold:(Builtin.firstCells inf.size 0 (.slice ad 0 0)).run P w.drew=.ok ([]:List Value).toArray w.drew:=by
  cases ad with
  | none=>exact run_firstCells_none w.drew inf.size 0 0 0
  | some ad=>exact run_firstCells_some w.drew inf.size 0 ad 0 0 [] (by simp) (by simp)
 have uz:Builtin.nextslicecap (0+q) 0*inf.bytes<=281474976710656:=by rw[nS,nextslicecap_zero hq0];exact hq48
 have rO:=Lib.run_append_grow_zeros (P:=P) w T Tn ty el inf z kk kn hu hn hi hz ad 0 0 [] hold q hq0 (by omega) (by omega) (by omega) hq48 uz;rw[nS]at rO;have tV:=ph w q 0 el;have hle:=oe w q 0 el (by unfold maxLen;omega);have hzc:∀i,i<z.cells.size->∃c',z.cells[i]?=some c':=λi hi=>⟨_,nM hi⟩;have tF:=hr.Qb (k:=k) (.inr rfl) (cur:=([]:List Value).toArray++Builtin.zeroCells z.cells q++Builtin.zeroCells z.cells (grownCap w q 0 el-q)) (e:=el) (size:=size) (cap:=grownCap w q 0 el) (xs:=(List.replicate q u).map enc)
  (by omega) (λx hx=>by
   rw[pH]at hx;rw[List.eq_of_mem_replicate hx,hzz];refine⟨by simp[sq,rP],λc hc=>td c (by rw[hzz];exact hc)⟩)
  (by
   simp only[Array.size_append,pL,nN,pA,sq,rP,nS,<- nJ];congr 1;omega)
  (by rw[mO,List.length_replicate];omega) hle (λi x hx jj c hc=>by
   rw[pH]at hx;have hi:i<q:=by
    have:=(mC.1 hx).1;simpa using this
   have tR:x=enc u:=List.eq_of_mem_replicate (mB hx);subst tR;rw[hzz]at hc;simp only[mG,mK,na]at hc;obtain⟨c',hc1,rfl⟩:=hc;have uG:jj<z.cells.size:=(mq.1 hc1).1;refine⟨c',?_,Kk F w os c'⟩;have rJ:i*size+jj<q*size:=by
    have:(i+1)*size<=q*size:=nE _ hi;rw[nJ]at this;omega
   rw[Array.append_assoc,show (([]:List Value).toArray++(Builtin.zeroCells z.cells q++Builtin.zeroCells z.cells (grownCap w q 0 el-q)))=(Builtin.zeroCells z.cells q++Builtin.zeroCells z.cells (grownCap w q 0 el-q)) by simp];rw[oG (by rw[pA,sq,<- rP];exact rJ)];unfold Builtin.zeroCells;rw[Array.getElem?_map,Array.getElem?_range];rw[mI (by rw[sq,<- rP];exact rJ)];simp only[nC,mE];have tw:(i*size+jj) % z.cells.size=jj:=by
    rw[sq,<- rP,pY,pz];exact pS (by omega)
   rw[tw];simp[Array.getElem!_eq_getD,Array.getD,uG,(mq.1 hc1).2])
 refine⟨.slice (some ⟨w.heap.size,0,none⟩) q (grownCap w q 0 el),_,F,_,?_,tF.1,?_,tF.2.1⟩
 ·simp only[execOp,resolve,invoke,builtin,nA,nY,mw,List.map_toArray,mg,oI,h1,h2];rw[rO];simp
 ·simp only[Ae];have hlen:st.length=os.length:=hr.len;exact⟨_,by rw[hlen];exact Je _ _,mS _,⟨_,_,_,rfl⟩,λ_=>⟨by simp,.inr ⟨_,rfl,by simp⟩⟩⟩
end
section
variable {P : Program} {ds : List (Option Tmp)} {r : List Oper} {KS : St -> Prop} {n : Nat} {e : Nat -> AV} {st : List Row} {ty : TypeId} {ps : String} {ed : Array Edge} {t : Tmp} {gd : Option (Nat × Bool)} {α : Type} {l : List α} {enc : α -> List AV} {u : α} {x y : Operand} {size bytes : Nat} {el T : TypeId} {zz : List AV} {kk tz : IntKind} {j : Int}
theorem jc (hg:GO ds gd e)(he:Cj P T=some ⟨el,size,bytes,zz⟩)(hx:St.ev ⟨n,e,st⟩ x=.int kk j)(hy:St.ev ⟨n,e,st⟩ y=.int tz j)(hz:enc u=zz)(hl:Sh.mk u j bytes=some l)(hpu:G1 (l.map enc))
  (hk:Di P (ds++[some t]) r KS ⟨n,FY e t (.sl (l.map enc)),st⟩):Di P ds (⟨some t,.makeSlice T x y,ty,ps,ed,gd⟩::r) KS ⟨n,e,st⟩:=by
 subst hz;refine eZ hg rfl (λs0 e1 e2 hd k F os a w hr next Q hn=>?_) hk;have ex:s0.ev x=.int kk j:=(e2 x (by simp[Op.operands])).trans hx;have ey:s0.ev y=.int tz j:=(e2 y (by simp[Op.operands])).trans hy;have hxr:=hr.ev x;have hyr:=hr.ev y;rw[ex]at hxr;rw[ey]at hyr;unfold Sh.mk at hl;split at hl
 case isFalse=>cases hl
 rename_i h;simp only[mE]at hl;subst hl;have h9:HG P 0 F [] ⟨s0.n,λ_=>.FN,[]⟩ a w (Instr.makeSlice T (a.eval x) (a.eval y)) (λz st=>z=.own 0 0 (List.replicate j.toNat u).length/\st=[⟨0,el,size,(List.replicate j.toNat u).map enc⟩]):=by
  refine XY (l:=.int kk j) (c:=.int tz j) hr.bare (Ak _ he ⟨rfl,h.1,h.2.1,h.2.2,?_⟩) (IW (x:=.int kk j) rfl [] hxr) (IW (x:=.int tz j) rfl [] hyr);simp
 obtain⟨u',w',F',g1,g2,g3,g4⟩:=Lf (k:=k) hr h9 (R6 hpu) rfl;unfold Oper.wp;simp only[execOp,nA,g1,mw,nY,Oper.upon];exact hn _ _ (ND (st':=s0.st) hd rfl g2 g3 g4)
end
section
variable {P : Program} {k : Nat} {ops : Array Oper} {Q : Exit -> St -> Prop} {ds : List (Option Tmp)} {r : List Oper} {n : Nat} {e : Nat -> AV} {st st' : List Row} {ty : TypeId} {p : String} {ed : Array Edge} {t : Tmp} {x y : Operand} {size bytes m : Nat} {el T : TypeId} {zz : List AV} {kk tz : IntKind} {c : Nat}
theorem Vn {α:Type}{u:α}{l':List α}{j:Int}(he:Cj P T=some ⟨el,size,bytes,zz⟩)(hx:St.ev ⟨n,e,st⟩ x=.int kk 0)(hy:St.ev ⟨n,e,st⟩ y=.int tz j)(hj:Sh.mk u j bytes=some l')(hm:st.length=m)(rH:st++[⟨0,el,size,[]⟩]=st')
  (hk:AO P k ops Q (ds++[some t]) r ⟨n,FY e t (.own m 0 0),st'⟩):AO P k ops Q ds (⟨some t,.makeSlice T x y,ty,p,ed,none⟩::r) ⟨n,e,st⟩:=by
 subst hm;subst rH;unfold Sh.mk at hj;split at hj
 case isFalse=>cases hj
 rename_i zh;obtain⟨c,rfl⟩:=nU zh.1;have hbd:c*bytes<=281474976710656/\c<=9223372036854775807:=by
  have h9:((c*bytes:Nat):Int)<=281474976710656:=by rw[pW];exact zh.2.1
  have h8:=zh.2.2;omega
 refine bP rfl (st':=st++[(⟨0,el,size,[]⟩:Row)]) (v:=.own st.length 0 0) (λF os a w hr=>?_) hk;have h1:=hr.ev x;rw[hx]at h1;simp only[Ae]at h1;have h2:=hr.ev y;rw[hy]at h2;simp only[Ae]at h2;obtain⟨inf,z,hu,hi,hz,sq,ru,rP,hby,hzz,td⟩:=IY he;dsimp only at hu hi sq ru rP hby hzz td;have rO:=run_make (P:=P) w T el inf z hu hi hz kk tz 0 (c:Int) (by omega) (by omega) (by rw[<- hby,<- pW,pY];omega) (by omega);have tF:=hr.Qb (k:=k) (.inl rfl) (cur:=madeCells z.cells (c*inf.size)) (e:=el) (size:=size) (cap:=c) (xs:=[]) (by omega) (by simp) (by rw[size_madeCells,rP]) (by simp) (by simp[maxLen];omega) (by simp);refine⟨.slice (some ⟨w.heap.size,0,none⟩) 0 c,_,F,_,?_,tF.1,?_,tF.2.1⟩
 ·simp only[execOp,nA,nY,mw,h1,h2];rw[rO];simp
 ·simp only[Ae];have hlen:st.length=os.length:=hr.len;exact⟨_,by rw[hlen];exact Je _ _,mS _,⟨_,_,_,rfl⟩,λ_=>⟨by simp,.inr ⟨_,rfl,by simp⟩⟩⟩
end
end Go.Abs
namespace Go.Abs
open Go
variable {P : Program} {n : Nat} {e : Nat -> AV} {st : List Row} {t : Tmp} {ty : TypeId} {ps : String} {ed : Array Edge} {x : Operand}
theorem Ln {id g i off uC el size j f:Nat}{tt:TypeId}{xs:List (List AV)}(hf:Hm P tt f=some j)(h:St.ev ⟨n,e,st⟩ x=.ptr id g i off)(qo:st[id]?=some ⟨g,el,size,xs⟩)(hl:off+j<=size)(ho:off+j=uC):O9 P ⟨n,e,st⟩ ⟨some t,.fieldAddr tt x f,ty,ps,ed,none⟩ (.ptr id g i uC):=
 ⟨rfl,λF os a w hr=>by
  subst ho;have h1:=hr.ev x;rw[h]at h1;unfold Hm at hf;split at hf<;>try (cases hf;done)
  rename_i fs hu;split at hf<;>try (cases hf;done)
  rename_i g1 hg;split at hf<;>try (cases hf;done)
  rename_i i1 hi;split at hf
  ·cases hf
  rename_i hz;simp only[mE]at hf;have rO:∀b off w',(Instr.fieldAt tt (.pointer (some ⟨b,off,none⟩)) f).run P w'=.ok (.pointer (some ⟨b,off+j,none⟩)) w':=λb off w'=>by
   simp[Instr.fieldAt,nR hu,hg,Instr.sureAddr,fieldPlace,sizeOf,typeInfo,hi,hz,Ct,hf]
  obtain⟨ow,how,hrw⟩:=hr.row qo;simp only[Ae]at h1;obtain⟨o',rW,tV,_,hv⟩:=h1;rw[how]at rW;cases rW;have zM:ow.row.gen=g:=by rw[hrw]
  obtain⟨h2,h3,b,hb,e2⟩:=hv zM;refine⟨.pointer (some ⟨b,i*ow.row.size+off+j,none⟩),λw'=>?_,?_⟩
  ·simp[execOp,e2,rO]
  ·simp only[Ae];exact⟨ow,how,tV,⟨_,rfl⟩,λ_=>⟨h2,by rw[hrw];exact hl,b,hb,by rw[nx]⟩⟩⟩
end Go.Abs
namespace Go.Abs
open Go
def SF (F:Nat->Prop)(w:World):World->Prop:=λw'=>∀b,F b->w'.heap[b]?=w.heap[b]?
section
variable {P : Program} {k : Nat} {ops : Array Oper} {Q : Exit -> St -> Prop} {N f i : Nat} {qi listed' : Array Bool} {s s' : St} {o : Oper}
def AY (P:Program)(k:Nat)(ops:Array Oper)(Q:Exit->St->Prop)(N f:Nat)(qi:Array Bool)(s:St):Prop:=
 s.n=N/\∀F0 os0 w0 F os a w,Rel F os s a w->Ext F0 os0 w0 F os w k->wpAnyH P .any ops (PJ k Q F0 os0 w0) (SF F0 w0) f qi a w
def aL (P:Program)(k:Nat)(ops:Array Oper)(Q:Exit->St->Prop)(N f:Nat)(qi:Array Bool)(s:St)(i:Nat):Prop:=
 ∀F0 os0 w0 F os a w,Rel F os s a w->Ext F0 os0 w0 F os w k->wpOp P ops (PJ k Q F0 os0 w0) i (λa' w'=>SF F0 w0 w'/\wpAnyH P .any ops (PJ k Q F0 os0 w0) (SF F0 w0) f (qi.setIfInBounds i true) a' w') a w
def dT (P:Program)(k:Nat)(ops:Array Oper)(Q:Exit->St->Prop)(N f:Nat)(qi:Array Bool)(s:St):List Nat->Prop
 | []=>True
 | i::r=>aL P k ops Q N f qi s i/\dT P k ops Q N f qi s r
theorem dT.get:∀{l:List Nat},dT P k ops Q N f qi s l->∀i∈l,aL P k ops Q N f qi s i
 | j::r,h,i,hi=>by
  rcases mc.1 hi with rfl|hi
  ·exact h.1
  ·exact dT.get h.2 i hi
theorem AY.all (rs:List Nat)(hn:s.n=N)(hr:Region.ready .any ops qi=rs)(rV:rs≠[])(h:dT P k ops Q N f qi s rs):AY P k ops Q N (f+1) qi s:=
 ⟨hn,λF0 os0 w0 F os a w rT he=>wpAnyH_all hr rV λi hi=>h.get i hi F0 os0 w0 F os a w rT he⟩
theorem Jk (hn:s.n=N)(hr:Region.ready .any ops qi=[])(h:Q .normal s):AY P k ops Q N f qi s:=
 ⟨hn,λ_ _ _ F os a w rT he=>wpAnyH_done hr ⟨s,F,os,⟨rfl,h⟩,rT,he⟩ f⟩
theorem Sp (hw:Wk k s s')(h:AY P k ops Q N f qi s')(hn:s.n=N):AY P k ops Q N f qi s:=
 ⟨hn,λF0 os0 w0 F os a w rT he=>by
  obtain⟨F1,rj,h1,e1⟩:=hw F os a w rT;exact h.2 F0 os0 w0 F1 rj a w h1 (he.trans e1)⟩
theorem XZ (h:qi=listed')(ha:AY P k ops Q N f qi s):AY P k ops Q N f listed' s:=h▸ha
theorem KU (h :∀A:Nat->Array Bool->St->Prop,(∀f l s,A f l s↔AY P k ops Q N f l s)->A f qi s):AY P k ops Q N f qi s:=
 h (AY P k ops Q N) (λ_ _ _=>Iff.rfl)
theorem aL.of (ho:ops[i]?=some o)(hg:Oe o i=true)(hd:(ops.toList.all λo=>DY s.n o.dst)=true)
  (h:AO P k (ops.extract 0 (i+1)) (λe s'=>e=.normal/\AY P k ops Q N f (qi.setIfInBounds i true) s') ((ops.toList.take i).map (·.dst)) [o] s):aL P k ops Q N f qi s i:=by
 intro F0 os0 w0 F os a w rT he;have hi:i<ops.size:=(mq.1 ho).1;have hex:∀j,(ops.extract 0 (i+1))[j]?=if j<i+1 then ops[j]? else none:=λj=>by
  rw[Array.getElem?_extract];split<;>split<;>simp_all<;>omega
 have h1:=h (λj=>by
   have hlen:((ops.toList.take i).map (·.dst)).length=i:=by simp;omega
   rw[hlen,hex];cases j with
   | zero=>simp[ho]
   | succ j=>rw[mJ (by omega)];simp) (λj d hj=>by
   simp only[mG,mi]at hj;split at hj
   ·rw[hex,mI (by omega)];simpa using hj
   ·cases hj) (λo' rW=>by
   obtain⟨j,hj⟩:=ma.1 rW;rw[na,hex]at hj;split at hj
   ·exact mL.1 hd o' (mB (i:=j) (by simpa using hj))
   ·cases hj) F os a w rT (λe a' w'=>e=.normal/\SF F0 w0 w'/\wpAnyH P .any ops (PJ k Q F0 os0 w0) (SF F0 w0) f (qi.setIfInBounds i true) a' w') (by
   rintro e a' w' ⟨s',F',os',⟨rfl,hax⟩,sx,he'⟩;exact⟨rfl,(he.trans he').H8,hax.2 F0 os0 w0 F' os' a' w' sx (he.trans he')⟩)
 have hy:Region.wanted o (yielded (ops.extract 0 (i+1)) a.tmps)=Region.wanted o (yielded ops a.tmps):=by
  unfold Region.wanted;unfold Oe at hg;cases za:o.guard with
  | none=>rfl
  | some p=>
   obtain⟨j,want⟩:=p;rw[za]at hg;simp only[mX]at hg;simp only[yielded,hex,mI hg]
 unfold wpList at h1;unfold wpOp;simp only[ho];rw[hy]at h1;split at h1
 ·rename_i hw;rw[mI hw];rcases h1 with h1|⟨_,a1,w1,h1,_⟩
  ·refine .inl (Oper.wp_mono (λa' w' h'=>?_) (TG (λc a' w' h'=>?_) (λh'=>?_) h1))
   ·exact h'.2
   ·exact nomatch h'.1
   ·obtain⟨_,_,h2,_⟩:=h';exact nomatch h2
  ·exact nomatch h1
 ·rename_i hw;rw[mJ hw];exact h1.2
theorem UU (i:Nat){v:AV}(hn:s.n=N)(ho:ops[i]?=some o)(hs:Region.noSelect ops=true)(hf:Region.free .any ops qi i=true)(hr:(Region.ready .any ops qi).contains i=true)(hd:DY s.n o.dst=true)(hh:O9 P s o v)
  (h:AY P k ops Q N f (qi.setIfInBounds i true) (s.put o.dst v)):AY P k ops Q N (f+1) qi s:=
 ⟨hn,λF0 os0 w0 F os a w rT he=>by
  obtain⟨hg,hh⟩:=hh;obtain⟨u,hu,hv⟩:=hh F os a w rT;refine wpAnyH_take ho hs hf hr (λc a w ⟨_,_,_,hp,_⟩=>nomatch hp.1) (.inl ⟨by unfold Region.wanted;rw[hg],λw' _=>hu w'⟩) he.H8 ?_;exact h.2 F0 os0 w0 F os _ w (rT.put hd hv) he⟩
def AZ (P:Program)(k:Nat)(ops:Array Oper)(Q:Exit->St->Prop)(N f:Nat)(qi:Array Bool)(s:St):Prop:=
 s.n=N/\∀F os a w,Rel F os s a w->wpAnyH P .any ops (PJ k Q F os w) (SF F w) f qi a w
theorem MF {f':Nat}(hf:f=f')(hl:qi=listed')(h:AZ P k ops Q N f' listed' s):AZ P k ops Q N f qi s:=hf▸hl▸h
theorem MI (h:AY P k ops Q N f qi s):AZ P k ops Q N f qi s:=
 ⟨h.1,λF os a w hr=>h.2 F os w F os a w hr (Ext.refl F os w k)⟩
theorem IX {id:Nat}(hm:P.follows .mixedOrders=true)(h:AZ P k ops Q s.n ops.size (Array.replicate ops.size false) s):AW P k (.region id ops true) Q s:=by
 intro F os a w hr;obtain⟨zR,he1⟩:=hr.drew (k:=k);refine qH (wp_region_held hm (h.2 F os a w.drew zR)) ?_;rintro e a' w' ⟨s',F',os',⟨rfl,hq⟩,h1,h2⟩;exact⟨s',F',os',hq,h1,he1.trans h2⟩
def Qp (P:Program)(s:St)(o:Oper)(v:AV):Prop:=
 o.guard=none/\∀F os a w,Rel F os s a w->∃u,(∀w',SF F w w'->(execOp a.eval o).run P w'=.ok (.value u) w')/\Ae F w os v u
theorem CU {v:AV}(h:O9 P s o v):Qp P s o v:=⟨h.1,λF os a w hr=>let ⟨u,h1,h2⟩:=h.2 F os a w hr;⟨u,λw' _=>h1 w',h2⟩⟩
theorem BL (i:Nat){v:AV}(hn:s.n=N)(ho:ops[i]?=some o)(hs:Region.noSelect ops=true)(hf:Region.free .any ops qi i=true)(hr:(Region.ready .any ops qi).contains i=true)(hd:DY s.n o.dst=true)(hh:Qp P s o v)
  (h:AZ P k ops Q N f (qi.setIfInBounds i true) (s.put o.dst v)):AZ P k ops Q N (f+1) qi s:=
 ⟨hn,λF os a w rT=>by
  obtain⟨hg,hh⟩:=hh;obtain⟨u,hu,hv⟩:=hh F os a w rT;refine wpAnyH_take ho hs hf hr (λc a w ⟨_,_,_,hp,_⟩=>nomatch hp.1) (.inl ⟨by unfold Region.wanted;rw[hg],hu⟩) (λ_ _=>rfl) ?_;exact h.2 F os _ w (rT.put hd hv)⟩
end
section
variable {P : Program} {n : Nat} {e : Nat -> AV} {st : List Row} {t : Tmp} {ty : TypeId} {ps : String} {ed : Array Edge} {x : Operand}
theorem JS {off uC j f:Nat}{tt:TypeId}{cs:List AV}(hf:Hm P tt f=some j)(h:St.ev ⟨n,e,st⟩ x=.Bt cs off)(ho:off+j=uC):O9 P ⟨n,e,st⟩ ⟨some t,.fieldAddr tt x f,ty,ps,ed,none⟩ (.Bt cs uC):=
 ⟨rfl,λF os a w hr=>by
  subst ho;have h1:=hr.ev x;rw[h]at h1;unfold Hm at hf;split at hf<;>try (cases hf;done)
  rename_i fs hu;split at hf<;>try (cases hf;done)
  rename_i g1 hg;split at hf<;>try (cases hf;done)
  rename_i i1 hi;split at hf
  ·cases hf
  rename_i hz;simp only[mE]at hf;have rO:∀b off w',(Instr.fieldAt tt (.pointer (some ⟨b,off,none⟩)) f).run P w'=.ok (.pointer (some ⟨b,off+j,none⟩)) w':=λb off w'=>by
   simp[Instr.fieldAt,nR hu,hg,Instr.sureAddr,fieldPlace,sizeOf,typeInfo,hi,hz,Ct,hf]
  simp only[Ae]at h1;obtain⟨b,o',e2,hb,hc⟩:=h1;refine⟨.pointer (some ⟨b,o'+off+j,none⟩),λw'=>?_,?_⟩
  ·simp[execOp,e2,rO]
  ·simp only[Ae];exact⟨b,o',by rw[nx],hb,hc⟩⟩
theorem KM {off sz:Nat}{tt:TypeId}{cs:List AV}{c:AV}(zi:DS P tt=some (false,sz))(h:St.ev ⟨n,e,st⟩ x=.Bt cs off)(hc:cs[off]?=some c):Qp P ⟨n,e,st⟩ ⟨some t,.load tt x,ty,ps,ed,none⟩ c:=
 ⟨rfl,λF os a w hr=>by
  have h1:=hr.ev x;rw[h]at h1;simp only[Ae]at h1;obtain⟨b,o',e2,hb,sQ⟩:=h1;obtain⟨d,i,hud,hi,e1,e3⟩:=Jl zi;obtain⟨u,hu1,tU,hu3⟩:=Lu (os:=os) sQ off c hc;refine⟨u,λw' zj=>?_,hu3⟩;have ta:=Li (w:=w') hud;rw[<- e1]at ta;have sF:w'.cell? ⟨b,o'+off,none⟩=some u:=by rw[<- hu1];exact oX (zj b hb)
  simp[execOp,e2,Instr.loadAt,Instr.sureAddr,loadVar,ta,sF]⟩
theorem Hb {off sz:Nat}{tt:TypeId}{cs:List AV}{c:AV}(zi:DS P tt=some (true,sz))(h:St.ev ⟨n,e,st⟩ x=.Bt cs off)(hl:off+sz<=cs.length)(hc:.agg ((cs.drop off).take sz)=c):Qp P ⟨n,e,st⟩ ⟨some t,.load tt x,ty,ps,ed,none⟩ c:=
 ⟨rfl,λF os a w hr=>by
  subst hc;have h1:=hr.ev x;rw[h]at h1;simp only[Ae]at h1;obtain⟨b,o',e2,hb,sQ⟩:=h1;obtain⟨d,i,hud,hi,e1,e3⟩:=Jl zi;have hx:=Lu (os:=os) sQ;have hch:∃f:Nat->Value,∀j,j<sz->w.cell? ((⟨b,o'+off,none⟩:Addr).add j)=some (f j)/\∀c,cs[off+j]?=some c->Ae F w os c (f j):=
   ⟨λj=>(w.cell? ((⟨b,o'+off,none⟩:Addr).add j)).getD undef,λj hj=>by
    have rJ:off+j<cs.length:=by omega
    obtain⟨u,hu1,_,tU⟩:=hx (off+j) cs[off+j] (mH rJ);have zk:w.cell? ((⟨b,o'+off,none⟩:Addr).add j)=some u:=by rw[Ct,<- hu1,nx]
    simp only[zk,oK];refine⟨mD,λc hc=>?_⟩;rw[mH rJ,mE]at hc;exact hc▸tU⟩
  obtain⟨f,hf⟩:=hch;refine⟨.agg ((List.range sz).map f).toArray,λw' zj=>?_,?_⟩
  ·have ta:=Li (w:=w') hud;rw[<- e1]at ta;have rP:(sizeOf tt).run P w'=.ok i.size w':=by simp[sizeOf,typeInfo,hi]
   have zG:=run_loadCells (P:=P) w' ⟨b,o'+off,none⟩ sz f (λj hj=>by
    rw[<- (hf j hj).1,Ct];exact oX (zj b hb))
   simp only at e3;simp[execOp,e2,Instr.loadAt,Instr.sureAddr,loadVar,ta,rP,<- e3,zG]
  ·simp only[Ae];refine⟨_,rfl,Ds (by simp;omega) λj c u hc hu=>?_⟩;simp only[mi,nP]at hc;split at hc
   ·rename_i hj;simp only[mG,nb hj,nC,mE]at hu;subst hu;exact (hf j hj).2 c hc
   ·cases hc⟩
end
section
variable {P : Program} {k : Nat} {α : Type} {l : List α} {enc : α -> List AV}
variable {ops : Array Oper} {Q : Exit -> St -> Prop} {ds : List (Option Tmp)} {r : List Oper} {n : Nat} {e : Nat -> AV} {st st' : List Row} {ty : TypeId} {ps : String} {ed : Array Edge} {v : AV} {gd : Option (Nat × Bool)} {T : TypeId} {x y : Operand} {ag : Bool} {sz id g size off : Nat} {el : TypeId} {cs cs' : List AV} {c : α} {i : Int}
end
end Go.Abs
namespace Go.Abs
open Go
end Go.Abs
namespace Go.Abs
open Go
theorem Wk.pk {k n:Nat}{e:Nat->AV}{st st':List Row}{L:List (Nat×AV)}(sel:List Nat)(hk:sel.take k=List.range k)(sy:sel.Nodup)(rJ:sel.all (·<st.length)=true)(hp:Cr st sel=st')(hs:SR sel st' st')(h:ME (λt=>Ke sel (e t)) L):
  Wk k ⟨n,e,st⟩ ⟨n,AN L,st'⟩:=QE sel hk sy rJ hp hs h
section
variable {P : Program} {k : Nat} {α : Type} {l : List α} {enc : α -> List AV} {ops : Array Oper} {Q : Exit -> St -> Prop} {ds : List (Option Tmp)} {r : List Oper} {n : Nat} {e : Nat -> AV} {st st' : List Row} {ty : TypeId} {ps : String} {ed : Array Edge} {t : Tmp} {gd : Option (Nat × Bool)} {T : TypeId} {bytes size m : Nat} {el : TypeId} {zz : List AV}
end
end Go.Abs
namespace Go.Abs
open Go
section
variable {P : Program} {k : Nat} {ops : Array Oper} {Q : Exit -> St -> Prop} {ds : List (Option Tmp)} {r : List Oper} {n : Nat} {e : Nat -> AV} {st st' : List Row} {ty : TypeId} {ps : String} {ed : Array Edge} {gd : Option (Nat × Bool)} {T : TypeId} {x y : Operand} {size id g sz : Nat} {el : TypeId} {α : Type} {l : List α} {enc : α -> List AV} {c : α} {i : Int} {v : AV} {cs x0 : List AV} {ag : Bool}
end
end Go.Abs
namespace Go.Abs
open Go
structure MS where
 n:Nat
 e:Nat->AV
 x:Row
 z:List Row
def MS.st (R:List Row)(m:MS):St:=⟨m.n,m.e,m.x::(R++m.z)⟩
def MS.put (m:MS)(d:Option Tmp)(v:AV):MS:=match d with
 | some d=>{ m with e:=FY m.e d v }
 | none=>m
def MS.ev (m:MS)(x:Operand):AV:=St.ev ⟨m.n,m.e,[]⟩ x
inductive Kind where
 | q
 | l (x y:Row)
 | a (row:Row)
def Kind.D:Kind->Row->List Row->Prop
 | .q,_,_=>True
 | .l x0 _,x,_=>x=x0
 | .a _,_,z=>z=[]
section
variable {P : Program} {k : Nat} {ops : Array Oper} {md : Region.Mode} {R : List Row}
end
section
variable {P : Program} {k : Nat} {R : List Row} {ds : List (Option Tmp)} {r : List Oper} {K : MS -> Prop} {n : Nat} {e : Nat -> AV} {x0 : Row} {z0 : List Row} {t : Tmp} {op : Op} {ty : TypeId} {ps : String} {ed : Array Edge} {gd : Option (Nat × Bool)} {v : AV}
end
end Go.Abs
namespace Go.Abs
open Go
def jm (e:Nat->AV):List (Nat×AV)->List AV
 | []=>[]
 | (t,_)::r=>e t::jm e r
def kU:List (Nat×AV)->List AV
 | []=>[]
 | (_,v)::r=>v::kU r
theorem ME.same {e:Nat->AV}:∀{L:List (Nat×AV)},jm e L=kU L->ME e L
 | [],_=>trivial
 | (t,v)::r,h=>by
  simp only[jm,kU,py]at h;obtain⟨h1,h2⟩:=h;subst h1;exact⟨.rfl,ME.same h2⟩
section
variable {P : Program} {k : Nat} {R : List Row} {ds : List (Option Tmp)} {r : List Oper} {K : MS -> Prop} {n : Nat} {e : Nat -> AV} {x0 : Row} {z0 : List Row} {t : Tmp} {op : Op} {ty : TypeId} {ps : String} {ed : Array Edge} {gd : Option (Nat × Bool)}
end
section
variable {P : Program} {k : Nat} {s : St} {ops : Array Oper} {Q : Exit -> St -> Prop} {ds : List (Option Tmp)} {r : List Oper} {n : Nat} {e : Nat -> AV} {st st' : List Row} {ty : TypeId} {ps : String} {ed : Array Edge} {d : Option Tmp} {v v' : AV} {gd : Option (Nat × Bool)}
variable {f : FuncId} {sm : Array Operand} {ts : Array TypeId} {args sG : List AV} {rows0 rows1 : List Row}
theorem UD (sel:List Nat)(hg:GO ds gd e)(hb:Er P f=true)(hc:AS P f sG rows0 λr st=>r=v/\st=rows1)(ha:sm.toList.map (St.ev ⟨n,e,st⟩)++[]=args)(sy:sel.Nodup)(rJ:sel.all (·<st.length)=true)
  (hp:Cr st sel=rows0) (hs:SR sel rows0 rows0) (hf:args.map (Ke sel)=sG) (hlen:rows1.length=sel.length) (h1:UN sel st.length rows1 rows1) (h2:UN sel st.length [] []) (hv:X8 sel st.length v=v') (uW:Jg sel rows1 0 st=st')
  (hk:AO P k ops Q (ds++[d]) r (St.put ⟨n,e,st'⟩ d v')):AO P k ops Q ds (⟨d,.call ⟨.value (.func f),sm,ts⟩,ty,ps,ed,gd⟩::r) ⟨n,e,st⟩:=
 Oa (rows2:=[]) (rows2':=[]) sel hg hb (by simpa using hc) ha sy rJ hp hs hf hlen h1 h2 hv (by simpa using uW) hk
end
def ld:Nat->Nat->List Bool
 | 0,_=>[]
 | n+1,m=>(m % 2==1)::ld n (m / 2)
def bm (n m:Nat):Array Bool:=⟨ld n m⟩
end Go.Abs
