import Derived.Test.YtccficmcdkcpnaaGreatAbsW
import Derived.Lib.AppendZerosOnto
import Derived.OrdersHeld
set_option linter.all false
namespace Go.Abs
open Go
def S7:AV->Bool
 | .int ..|.bool _|.str _|.zc|.Tm|.TU|.dv ..=>true
 | _=>false
def W4 (xs:List (List AV)):Prop:=∀x∈xs,∀c∈x,S7 c=true
theorem du {F S:Nat->Prop}{w:World}{os:List Own}{c:AV}{u:Value}(hc:S7 c=true)(hd :∀e s ys,c≠.dv e s ys)(h:Ae F w os c u):EX S w c u:=by
 cases c<;>simp only[S7,uN]at hc<;>simp only[Ae]at h<;>simp only[EX]<;>first|exact h|exact absurd rfl (hd _ _ _)
theorem Rj {F S:Nat->Prop}{w:World}{os:List Own}{c:AV}{u:Value}(h:EX S w c u):Ae F w os c u/\c.kept=true/\S7 c=true:=by
 cases c<;>simp only[EX]at h
 case dv=>
  refine⟨?_,rfl,rfl⟩;simp only[Ae];rcases h.2 with ⟨_,a,rfl⟩|⟨b,cap,cur,rfl,_⟩<;>exact⟨_,_,_,rfl⟩
 all_goals first|exact h.elim|exact⟨by simp only[Ae];exact h,rfl,rfl⟩
theorem dA {w:World}{cur:Array Value}{D:Nat->Nat->Prop}(hdis :∀j j' b,D j b->D j' b->j=j'):∀(x:List AV) (o j0:Nat),(∀(j:Nat) c,x[j]?=some c->∃u,cur[o+j]?=some u/\EX (D (j0+j)) w c u)->
  Nf (λb=>∃j,j0<=j/\D j b) w x cur o
 | [],_,_,_=>by simp[Nf]
 | c::r,o,j0,h=>by
  simp only[Nf];obtain⟨u,h1,h2⟩:=h 0 c rfl;refine⟨D j0,λb=>∃j,j0+1<=j/\D j b,λb hb=>⟨j0,uq _,hb⟩,λb ⟨j,hj,hb⟩=>⟨j,by omega,hb⟩,λb hb ⟨j,hj,hb'⟩=>by have:=hdis _ _ _ hb hb';omega,⟨u,h1,h2⟩,?_⟩;exact dA hdis r (o+1) (j0+1) λj c hc=>by
   obtain⟨u,h1,h2⟩:=h (j+1) c (by simpa using hc);exact⟨u,by rw[<- h1];congr 1;omega,by rw[show j0+1+j=j0+(j+1) by omega];exact h2⟩
theorem ca {w:World}{cur:Array Value}{size:Nat}{D:Nat->Nat->Nat->Prop}(hdis :∀i j i' j' b,D i j b->D i' j' b->i=i'/\j=j'):∀(xs:List (List AV)) (o i0:Nat),(∀x∈xs,x.length=size)->
  (∀(i:Nat) x,xs[i]?=some x->∀(j:Nat) c,x[j]?=some c->∃u,cur[o+i*size+j]?=some u/\EX (D (i0+i) j) w c u)->Nq (λb=>∃i j,i0<=i/\D i j b) w xs cur o
 | [],_,_,_,_=>by simp[Nq]
 | x::r,o,i0,hs,h=>by
  simp only[Nq];refine⟨λb=>∃j,0<=j/\D i0 j b,λb=>∃i j,i0+1<=i/\D i j b,λb ⟨j,_,hb⟩=>⟨i0,j,uq _,hb⟩,λb ⟨i,j,hi,hb⟩=>⟨i,j,by omega,hb⟩,λb ⟨j,_,hb⟩ ⟨i,j',hi,hb'⟩=>by have:=(hdis _ _ _ _ _ hb hb').1;omega,?_,?_⟩
  ·exact dA (D:=D i0) (λj j' b h1 h2=>(hdis _ _ _ _ _ h1 h2).2) x o 0 λj c hc=>by
    obtain⟨u,h1,h2⟩:=h 0 x rfl j c hc;exact⟨u,by rw[<- h1];congr 1;omega,by simpa using h2⟩
  ·rw[hs x (by simp)];exact ca hdis r (o+size) (i0+1) (λx hx=>hs x (by simp[hx])) λi y hy j c hc=>by
    obtain⟨u,h1,h2⟩:=h (i+1) y (by simpa using hy) j c hc;exact⟨u,by rw[<- h1];congr 1;rw[vg];omega,by rw[show i0+1+i=i0+(i+1) by omega];exact h2⟩
theorem aF {w:World}{cur:Array Value}:∀{x:List AV} {S:Nat->Prop} {o:Nat},Nf S w x cur o->∃D:Nat->Nat->Prop,(∀j b,D j b->S b)/\(∀j j' b,D j b->D j' b->j=j')/\
  ∀(j:Nat) c,x[j]?=some c->∃u,cur[o+j]?=some u/\EX (D j) w c u
 | [],_,_,_=>⟨λ_ _=>False,λ_ _ h=>h.elim,λ_ _ _ h=>h.elim,λj c h=>by simp at h⟩
 | c::r,S,o,h=>by
  simp only[Nf]at h;obtain⟨S1,S2,h1,h2,h3,⟨u,h4,h5⟩,h6⟩:=h;obtain⟨D,d1,d2,d3⟩:=aF h6;refine⟨λj=>match j with|0=>S1|j+1=>D j,λj b hb=>?_,λj j' b hb hb'=>?_,λj c' hc=>?_⟩
  ·cases j with
   | zero=>exact h1 b hb
   | succ j=>exact h2 b (d1 j b hb)
  ·cases j with
   | zero=>
    cases j' with
    | zero=>rfl
    | succ j'=>exact absurd (d1 j' b hb') (h3 b hb)
   | succ j=>
    cases j' with
    | zero=>exact absurd (d1 j b hb) (h3 b hb')
    | succ j'=>rw[d2 j j' b hb hb']
  ·cases j with
   | zero=>simp only[vC,uO]at hc;subst hc;exact⟨u,h4,h5⟩
   | succ j=>
    obtain⟨u',g1,g2⟩:=d3 j c' (by simpa using hc);exact⟨u',by rw[<- g1];congr 1;omega,g2⟩
theorem Zv {w:World}{cur:Array Value}{size:Nat}:∀{xs:List (List AV)} {S:Nat->Prop} {o:Nat},(∀x∈xs,x.length=size)->Nq S w xs cur o->∃D:Nat->Nat->Nat->Prop,(∀i j b,D i j b->S b)/\
  (∀i j i' j' b,D i j b->D i' j' b->i=i'/\j=j')/\∀(i:Nat) x,xs[i]?=some x->∀(j:Nat) c,x[j]?=some c->∃u,cur[o+i*size+j]?=some u/\EX (D i j) w c u
 | [],_,_,_,_=>⟨λ_ _ _=>False,λ_ _ _ h=>h.elim,λ_ _ _ _ _ h=>h.elim,λi x h=>by simp at h⟩
 | x::r,S,o,hs,h=>by
  simp only[Nq]at h;obtain⟨S1,S2,h1,h2,h3,h4,h5⟩:=h;obtain⟨E,e1,e2,e3⟩:=aF h4;obtain⟨D,d1,d2,d3⟩:=Zv (λx hx=>hs x (by simp[hx])) h5;refine⟨λi=>match i with|0=>E|i+1=>D i,λi j b hb=>?_,λi j i' j' b hb hb'=>?_,λi y hy j c hc=>?_⟩
  ·cases i with
   | zero=>exact h1 b (e1 j b hb)
   | succ i=>exact h2 b (d1 i j b hb)
  ·cases i with
   | zero=>
    cases i' with
    | zero=>exact⟨rfl,e2 j j' b hb hb'⟩
    | succ i'=>exact absurd (d1 i' j' b hb') (h3 b (e1 j b hb))
   | succ i=>
    cases i' with
    | zero=>exact absurd (d1 i j b hb) (h3 b (e1 j' b hb'))
    | succ i'=>
     obtain⟨q1,q2⟩:=d2 i j i' j' b hb hb';exact⟨by rw[q1],q2⟩
  ·cases i with
   | zero=>
    simp only[vC,uO]at hy;subst hy;obtain⟨u,g1,g2⟩:=e3 j c hc;exact⟨u,by rw[<- g1];congr 1;omega,g2⟩
   | succ i=>
    obtain⟨u,g1,g2⟩:=d3 i y (by simpa using hy) j c hc;rw[hs x (by simp)]at g1;exact⟨u,by rw[<- g1];congr 1;rw[vg];omega,g2⟩
variable {P : Program} {F : Nat -> Prop} {os : List Own} {s : St} {a : Act} {w : World} {k : Nat}
theorem Xr {p:Own}(h:MZ F w os p)(hd:W4 p.row.xs){v:Value}(hv:(p.Ea=none/\∃a,v=.slice a p.row.xs.length 0)∨∃b,p.Ea=some b/\v=.slice (some ⟨b,0,none⟩) p.row.xs.length p.cap):
  EX p.owns w (.dv p.row.elem p.row.size p.row.xs) v:=by
 simp only[EX];refine⟨h.pos,?_⟩;rcases hv with ⟨hb,a,rfl⟩|⟨b,hb,rfl⟩
 ·have:=(h.none hb).1;exact .inl ⟨this,a,by rw[this];rfl⟩
 ·obtain⟨_,cur,AAF,hsz,hle,hmax,AAE⟩:=h.some b hb;obtain⟨D,d1,d2,d3⟩:=h.deep;refine .inr ⟨b,p.cap,cur,rfl,hle,hmax,.inl hb,AAF,hsz,λx hx=>(h.lens x hx).1,?_⟩;have:=ca (w:=w) (cur:=cur) (size:=p.row.size) d2 p.row.xs 0 0 (λx hx=>(h.lens x hx).1) (λi x hx j c hc=>by
   simp only[vd];by_cases hdv :∃e s ys,c=.dv e s ys
   ·obtain⟨e,s,ys,rfl⟩:=hdv;exact d3 b hb cur _ _ AAF i x j e s ys hx hc
   ·obtain⟨u,g1,g2⟩:=AAE i x hx j c hc;exact⟨u,g1,du (hd x (uL hx) c (uL hc)) (λe s ys e'=>hdv ⟨e,s,ys,e'⟩) g2⟩)
  exact Tj (λc ⟨i,j,_,hc⟩=>⟨.inr (d1 i j c hc),λe=>(h.mo c (d1 i j c hc)).2.2 (by rw[hb,e])⟩) (λ_ _=>rfl) _ _ _ this
theorem Rp {id m g gm size sz n i j nn:Nat}{el el':TypeId}{xs ys:List (List AV)}{x:List AV}{e:Nat->AV}{st st':List Row}(zh:st[id]?=some ⟨g,el,size,xs⟩)(hx:xs[i]?=some x)(hc:x[j]?=some (.own m gm n))
  (hm:st[m]?=some ⟨gm,el',sz,ys⟩) (hn:n=ys.length) (hne:id≠m) (hkm:k<=m) (hd:W4 ys) (hst:(st.set id ⟨g,el,size,xs.set i (x.set j (.dv el' sz ys))⟩).set m ⟨gm+1,el',sz,[]⟩=st') :
  Wk k ⟨nn,e,st⟩ ⟨nn,e,st'⟩:=λF os a w hr=>by
 subst hst;subst hn;obtain⟨o,ho,hor⟩:=hr.row zh;obtain⟨p,hp,hpr⟩:=hr.row hm;have zp:=hr.rows id o ho;have hpk:=hr.rows m p hp;have hst:os.map Own.row=st:=hr.st;have hxs:o.row.xs=xs:=by rw[hor]
 have hpx:p.row.xs=ys:=by rw[hpr]
 let o':Own:={ o with row:={ o.row with xs:=xs.set i (x.set j (.dv el' sz ys)) },more:=λb=>o.more b∨p.owns b }
 let p':Own:=⟨{ p.row with gen:=p.row.gen+1,xs:=[] },none,0,Gb⟩
 have hil:i<xs.length:=(uK.1 hx).1;have hjl:j<x.length:=(uK.1 hc).1;have hidl:=(uK.1 ho).1;have hml:=(uK.1 hp).1;have hdis:∀b,o.owns b->¬ p.owns b:=λb h1 h2=>hne (hr.inj id m o p b ho hp h1 h2);have AAD:∀(q:Nat) (oq:Own),((os.set id o').set m p')[q]?=some oq->(q≠id/\q≠m/\os[q]?=some oq)∨(q=id/\oq=o')∨(q=m/\oq=p'):=λq oq hq=>by
  by_cases e:q=m
  ·subst e;rw[uV (by simpa using hml),uO]at hq;exact .inr (.inr ⟨rfl,hq.symm⟩)
  ·rw[vE (wR e)]at hq;by_cases e2:q=id
   ·subst e2;rw[uV hidl,uO]at hq;exact .inr (.inl ⟨rfl,hq.symm⟩)
   ·rw[vE (wR e2)]at hq;exact .inl ⟨e2,e,hq⟩
 have hos:Er os ((os.set id o').set m p'):=λq oq hq=>by
  by_cases e:q=m
  ·subst e;rw[hp]at hq;cases hq;exact⟨p',uV (by simpa using hml),Nat.le_succ _,rfl,λe=>by simp[p']at e⟩
  ·rw[vE (wR e)];by_cases e2:q=id
   ·subst e2;rw[ho]at hq;cases hq;exact⟨o',uV hidl,uq _,rfl,λ_=>⟨rfl,rfl,by simp[o',hxs]⟩⟩
   ·rw[vE (wR e2)];exact⟨oq,hq,uq _,rfl,λ_=>⟨rfl,rfl,rfl⟩⟩
 have AAC:∀y v,Ae F w os y v->Ae F w ((os.set id o').set m p') y v:=λy v h=>D8 (λ_ h=>h) (λ_ _=>rfl) os _ hos y v h;have howns:∀b,o'.owns b->o.owns b∨p.owns b:=λb hb=>by
  rcases hb with hb|hb|hb
  ·exact .inl (.inl hb)
  ·exact .inl (.inr hb)
  ·exact .inr hb
 have hpn:∀b,¬ p'.owns b:=λb hb=>by
  rcases hb with hb|hb
  ·simp[p']at hb
  ·exact hb
 obtain⟨bo,hbo⟩ :∃b,o.Ea=some b:=by
  cases hb:o.Ea with
  | none=>have:=(zp.none hb).1;rw[hxs]at this;rw[this]at hil;simp at hil
  | some b=>exact⟨b,rfl⟩
 obtain⟨hnF,cur,AAF,hsz,hle,hmax,AAE⟩:=zp.some bo hbo;obtain⟨uv,hu1,hu2⟩:=AAE i x (by rw[hxs];exact hx) j _ hc;have huv:(p.Ea=none/\∃a,uv=.slice a p.row.xs.length 0)∨∃b,p.Ea=some b/\uv=.slice (some ⟨b,0,none⟩) p.row.xs.length p.cap:=by
  simp only[Ae]at hu2;obtain⟨q,hq,_,_,hv⟩:=hu2;rw[hp]at hq;cases hq;have:=(hv (by rw[hpr])).2;rw[hpx]at this⊢;simpa only[wX,xI,xO] using this
 have hRD:EX p.owns w (.dv el' sz ys) uv:=by
  have:=Xr hpk (by rw[hpx];exact hd) huv;rw[hpr]at this;exact this
 refine⟨F,(os.set id o').set m p',⟨?_,λt=>AAC _ _ (hr.env t),hr.size,λq oq hq=>?_,λq q' oq oq' b hq hq' hb hb'=>?_,hr.GK,hr.defers⟩,⟨rfl,rfl,rfl,uq _,λ_ h=>h,λ_ _=>rfl,λb _ h1 h2=>⟨rfl,h1,λoq hoq hb=>?_⟩,λq oq _ hq=>hos q oq hq⟩⟩
 ·rw[wb,wb,hst];simp only[o',p',hor,hpr]
 ·rcases AAD q oq hq with ⟨_,_,h⟩|⟨_,rfl⟩|⟨_,rfl⟩
  ·have h0:=hr.rows q oq h;refine⟨h0.pos,h0.lens,h0.none,λb hb=>?_,h0.mo,h0.deep⟩;obtain⟨e1,cur,e2,e3,e4,e5,e6⟩:=h0.some b hb;exact⟨e1,cur,e2,e3,e4,e5,λi' y hy j' c hc=>by obtain⟨u,f1,f2⟩:=e6 i' y hy j' c hc;exact⟨u,f1,AAC _ _ f2⟩⟩
  ·refine⟨zp.pos,λy hy=>?_,(λhn=>by simp only[o']at hn;rw[hbo]at hn;cases hn),λb hb=>?_,λb hb=>?_,?_⟩
   ·rcases vq hy with hy|rfl
    ·exact zp.lens y (by rw[hxs];exact hy)
    ·have h0:=zp.lens x (by rw[hxs];exact uL hx);refine⟨by rw[yi];exact h0.1,λc hcm=>?_⟩;rcases vq hcm with h|rfl
     ·exact h0.2 c h
     ·rfl
   ·simp only[o']at hb;rw[hbo]at hb;cases hb;refine⟨hnF,cur,AAF,hsz,by simpa [o',hxs] using hle,hmax,λi' y hy j' c hcy=>?_⟩;simp only[o']at hy⊢;by_cases hi:i'=i
    ·subst hi;rw[uV hil,uO]at hy;subst hy;by_cases hj:j'=j
     ·subst hj;rw[uV hjl,uO]at hcy;subst hcy;exact⟨uv,hu1,(Rj hRD).1⟩
     ·rw[vE (wR hj)]at hcy;obtain⟨u,f1,f2⟩:=AAE i' x (by rw[hxs];exact hx) j' c hcy;exact⟨u,f1,AAC _ _ f2⟩
    ·rw[vE (wR hi)]at hy;obtain⟨u,f1,f2⟩:=AAE i' y (by rw[hxs];exact hy) j' c hcy;exact⟨u,f1,AAC _ _ f2⟩
   ·rcases hb with hb|hb
    ·exact zp.mo b hb
    ·exact⟨hpk.nF hb,hpk.lt hb,λe=>hdis b (.inl e) hb⟩
   ·obtain⟨D,d1,d2,d3⟩:=zp.deep;refine⟨λi' j' b=>if i'=i/\j'=j then p.owns b else D i' j' b,λi' j' b hb=>?_,λi1 j1 i2 j2 b h1 h2=>?_,λb hb cur' el2 l hcur' i' y j' e2 s2 zs hy hcy=>?_⟩
    ·simp only at hb;split at hb
     ·exact .inr hb
     ·exact .inl (d1 i' j' b hb)
    ·simp only at h1 h2;split at h1<;>split at h2
     ·rename_i q1 q2;exact⟨q1.1.trans q2.1.symm,q1.2.trans q2.2.symm⟩
     ·exact absurd h1 (hdis b (.inr (d1 _ _ _ h2)))
     ·exact absurd h2 (hdis b (.inr (d1 _ _ _ h1)))
     ·exact d2 _ _ _ _ _ h1 h2
    ·simp only[o']at hb hy⊢;rw[hbo]at hb;cases hb;rw[AAF]at hcur';cases hcur';by_cases hij:i'=i/\j'=j
     ·obtain⟨rfl,rfl⟩:=hij;rw[uV hil,uO]at hy;subst hy;rw[uV hjl,uO]at hcy;cases hcy;exact⟨uv,hu1,by simpa using hRD⟩
     ·have hold:∃y0,o.row.xs[i']?=some y0/\y0[j']?=some (.dv e2 s2 zs):=by
       rw[hxs];by_cases hi:i'=i
       ·subst hi;rw[uV hil,uO]at hy;subst hy;have hj:j'≠j:=λe=>hij ⟨rfl,e⟩;rw[vE (wR hj)]at hcy;exact⟨x,hx,hcy⟩
       ·rw[vE (wR hi)]at hy;exact⟨y,hy,hcy⟩
      obtain⟨y0,hy0,hc0⟩:=hold;obtain⟨u,f1,f2⟩:=d3 bo hbo cur _ _ AAF i' y0 j' e2 s2 zs hy0 hc0;exact⟨u,f1,by simpa only[hij,uf] using f2⟩
  ·exact⟨hpk.pos,by simp[p'],by simp[p'],by simp[p'],λb hb=>hb.elim,Fz (by simp[p'])⟩
 ·rcases AAD q oq hq with ⟨q1,q2,h⟩|⟨rfl,rfl⟩|⟨_,rfl⟩<;>rcases AAD q' oq' hq' with ⟨q1',q2',h'⟩|⟨rfl,rfl⟩|⟨_,rfl⟩
  ·exact hr.inj q q' oq oq' b h h' hb hb'
  ·rcases howns b hb' with e|e
   ·exact hr.inj q _ oq o b h ho hb e
   ·exact absurd (hr.inj q m oq p b h hp hb e) q2
  ·exact absurd hb' (hpn b)
  ·rcases howns b hb with e|e
   ·exact hr.inj _ q' o oq' b ho h' e hb'
   ·exact absurd (hr.inj m q' p oq' b hp h' e hb').symm q2'
  ·rfl
  ·exact absurd hb' (hpn b)
  ·exact absurd hb (hpn b)
  ·exact absurd hb (hpn b)
  ·exact absurd hb (hpn b)
 ·obtain⟨q,hq⟩:=vF.1 hoq;rcases AAD q oq hq with ⟨_,_,h⟩|⟨_,rfl⟩|⟨_,rfl⟩
  ·exact h2 oq (uL h) hb
  ·rcases howns b hb with e|e
   ·exact h2 o (uL ho) e
   ·exact h2 p (uL hp) e
  ·exact hpn b hb
end Go.Abs
namespace Go.Abs
open Go
variable {P : Program} {F : Nat -> Prop} {os : List Own} {s : St} {a : Act} {w : World} {k : Nat}
theorem di {S:Nat->Prop}{el sz:Nat}{ys:List (List AV)}{u:Value}(hS :∀b,S b->¬ F b/\b<w.heap.size)(h:EX S w (.dv el sz ys) u):
  ∃p:Own,p.row=⟨0,el,sz,ys⟩/\(∀b,p.owns b->S b)/\(∀os,MZ F w os p)/\((p.Ea=none/\∃a,u=.slice a ys.length 0)∨∃b,p.Ea=some b/\u=.slice (some ⟨b,0,none⟩) ys.length p.cap):=by
 simp only[EX]at h;obtain⟨hp,h⟩:=h;rcases h with ⟨rfl,a,rfl⟩|⟨b,cap,cur,rfl,h2,h3,h4,h5,h6,h7,h8⟩
 ·refine⟨⟨⟨0,el,sz,[]⟩,none,0,Gb⟩,rfl,λb hb=>?_,λos=>⟨hp,by simp,by simp,by simp,λb hb=>hb.elim,Fz (by simp)⟩,.inl ⟨rfl,a,rfl⟩⟩;rcases hb with hb|hb
  ·cases hb
  ·exact hb.elim
 ·obtain⟨D,d1,d2,d3⟩:=Zv h7 h8;refine⟨⟨⟨0,el,sz,ys⟩,some b,cap,λc=>S c/\c≠b⟩,rfl,λc hc=>?_,λos=>⟨hp,λx hx=>⟨h7 x hx,λc hc=>?_⟩,by simp,λb' hb'=>?_,λc hc=>⟨(hS c hc.1).1,(hS c hc.1).2,λe=>hc.2 (by simpa using e.symm)⟩,⟨D,d1,d2,λb' hb' cur' el2 l hcur' i x j e s zs hx hc=>?_⟩⟩,.inr ⟨b,rfl,rfl⟩⟩
  ·rcases hc with hc|hc
   ·cases hc;exact h4
   ·exact hc.1
  ·obtain⟨i,hi⟩:=vF.1 hx;obtain⟨j,hj⟩:=vF.1 hc;obtain⟨u,_,g2⟩:=d3 i x hi j c hj;exact (Rj (F:=F) (os:=os) g2).2.1
  ·simp only[uO]at hb';subst hb';refine⟨(hS _ h4).1,cur,h5,h6,h2,h3,λi x hx j c hc=>?_⟩;obtain⟨u,g1,g2⟩:=d3 i x hx j c hc;exact⟨u,by simpa using g1,(Rj g2).1⟩
  ·simp only[uO]at hb';subst hb';rw[h5]at hcur';cases hcur';obtain⟨u,g1,g2⟩:=d3 i x hx j _ hc;exact⟨u,by simpa using g1,g2⟩
theorem Wk.qg {id m g size sz n i j nn:Nat}{el el':TypeId}{xs ys:List (List AV)}{x:List AV}{e:Nat->AV}{st st':List Row}(zh:st[id]?=some ⟨g,el,size,xs⟩)(hx:xs[i]?=some x)(hc:x[j]?=some (.dv el' sz ys))
  (hm:st.length=m) (hn:n=ys.length) (hst:st.set id ⟨g,el,size,xs.set i (x.set j (.own m 0 n))⟩++[⟨0,el',sz,ys⟩]=st'):Wk k ⟨nn,e,st⟩ ⟨nn,e,st'⟩:=λF os a w hr=>by
 subst hst;subst hn;subst hm;obtain⟨o,ho,hor⟩:=hr.row zh;have zp:=hr.rows id o ho;have hst:os.map Own.row=st:=hr.st;have hol:os.length=st.length:=by rw[<- hst];simp
 have hxs:o.row.xs=xs:=by rw[hor]
 have hil:i<xs.length:=(uK.1 hx).1;have hjl:j<x.length:=(uK.1 hc).1;have hidl:=(uK.1 ho).1;obtain⟨bo,hbo⟩ :∃b,o.Ea=some b:=by
  cases hb:o.Ea with
  | none=>have:=(zp.none hb).1;rw[hxs]at this;rw[this]at hil;simp at hil
  | some b=>exact⟨b,rfl⟩
 obtain⟨hnF,cur,AAF,hsz,hle,hmax,AAE⟩:=zp.some bo hbo;obtain⟨D,d1,d2,d3⟩:=zp.deep;obtain⟨uv,hu1,hu2⟩:=d3 bo hbo cur _ _ AAF i x j el' sz ys (by rw[hxs];exact hx) hc;obtain⟨p,hpr,hpo,hpk,hpv⟩:=di (F:=F) (λb hb=>⟨(zp.mo b (d1 _ _ _ hb)).1,(zp.mo b (d1 _ _ _ hb)).2.1⟩) hu2
 let o':Own:={ o with row:={ o.row with xs:=xs.set i (x.set j (.own st.length 0 ys.length)) },more:=λb=>o.more b/\¬ D i j b }
 have AAD:∀(q:Nat) (oq:Own),(os.set id o'++[p])[q]?=some oq->(q≠id/\q<os.length/\os[q]?=some oq)∨(q=id/\oq=o')∨(q=os.length/\oq=p):=λq oq hq=>by
  rcases wD q os.length with h|h|h
  ·rw[uU (by simpa using h)]at hq;by_cases e2:q=id
   ·subst e2;rw[uV hidl,uO]at hq;exact .inr (.inl ⟨rfl,hq.symm⟩)
   ·rw[vE (wR e2)]at hq;exact .inl ⟨e2,h,hq⟩
  ·subst h;rw[ug (by simp)]at hq;simp at hq;exact .inr (.inr ⟨rfl,hq.symm⟩)
  ·rw[vf (by simp;omega)]at hq;cases hq
 have hpget:(os.set id o'++[p])[st.length]?=some p:=by
  rw[ug (by simp;omega)];simp[hol]
 have hos:Er os (os.set id o'++[p]):=λq oq hq=>by
  have hql:=(uK.1 hq).1;rw[uU (by simpa using hql)];by_cases e2:q=id
  ·subst e2;rw[ho]at hq;cases hq;exact⟨o',uV hidl,uq _,rfl,λ_=>⟨rfl,rfl,by simp[o',hxs]⟩⟩
  ·rw[vE (wR e2)];exact⟨oq,hq,uq _,rfl,λ_=>⟨rfl,rfl,rfl⟩⟩
 have AAC:∀y v,Ae F w os y v->Ae F w (os.set id o'++[p]) y v:=λy v h=>D8 (λ_ h=>h) (λ_ _=>rfl) os _ hos y v h;have ho'o :∀b,o'.owns b->o.owns b:=λb hb=>by
  rcases hb with hb|hb
  ·exact .inl hb
  ·exact .inr hb.1
 have hpoo:∀b,p.owns b->o.owns b:=λb hb=>.inr (d1 _ _ _ (hpo b hb));have hdis:∀b,o'.owns b->¬ p.owns b:=λb h1 h2=>by
  have h3:=hpo b h2;rcases h1 with h1|h1
  ·exact (zp.mo b (d1 _ _ _ h3)).2.2 h1
  ·exact h1.2 h3
 have hnew:Ae F w (os.set id o'++[p]) (.own st.length 0 ys.length) uv:=by
  simp only[Ae];refine⟨p,hpget,ue _,?_,λ_=>⟨by rw[hpr];exact uq _,by rw[hpr];simpa only[wX,xI,xO] using hpv⟩⟩;rcases hpv with ⟨_,a,rfl⟩|⟨b,_,rfl⟩<;>exact⟨_,_,_,rfl⟩
 refine⟨F,os.set id o'++[p],⟨?_,λt=>AAC _ _ (hr.env t),hr.size,λq oq hq=>?_,λq q' oq oq' b hq hq' hb hb'=>?_,hr.GK,hr.defers⟩,⟨rfl,rfl,rfl,uq _,λ_ h=>h,λ_ _=>rfl,λb _ h1 h2=>⟨rfl,h1,λoq hoq hb=>?_⟩,λq oq _ hq=>hos q oq hq⟩⟩
 ·rw[vx,wb,hst];simp only[o',hor,vK,wW,hpr]
 ·rcases AAD q oq hq with ⟨_,_,h⟩|⟨_,rfl⟩|⟨_,rfl⟩
  ·have h0:=hr.rows q oq h;refine⟨h0.pos,h0.lens,h0.none,λb hb=>?_,h0.mo,h0.deep⟩;obtain⟨e1,cur,e2,e3,e4,e5,e6⟩:=h0.some b hb;exact⟨e1,cur,e2,e3,e4,e5,λi' y hy j' c hc=>by obtain⟨u,f1,f2⟩:=e6 i' y hy j' c hc;exact⟨u,f1,AAC _ _ f2⟩⟩
  ·refine⟨zp.pos,λy hy=>?_,(λhn=>by simp only[o']at hn;rw[hbo]at hn;cases hn),λb hb=>?_,λb hb=>zp.mo b hb.1,?_⟩
   ·rcases vq hy with hy|rfl
    ·exact zp.lens y (by rw[hxs];exact hy)
    ·have h0:=zp.lens x (by rw[hxs];exact uL hx);refine⟨by rw[yi];exact h0.1,λc hcm=>?_⟩;rcases vq hcm with h|rfl
     ·exact h0.2 c h
     ·rfl
   ·simp only[o']at hb;rw[hbo]at hb;cases hb;refine⟨hnF,cur,AAF,hsz,by simpa [o',hxs] using hle,hmax,λi' y hy j' c hcy=>?_⟩;simp only[o']at hy⊢;by_cases hi:i'=i
    ·subst hi;rw[uV hil,uO]at hy;subst hy;by_cases hj:j'=j
     ·subst hj;rw[uV hjl,uO]at hcy;subst hcy;exact⟨uv,hu1,hnew⟩
     ·rw[vE (wR hj)]at hcy;obtain⟨u,f1,f2⟩:=AAE i' x (by rw[hxs];exact hx) j' c hcy;exact⟨u,f1,AAC _ _ f2⟩
    ·rw[vE (wR hi)]at hy;obtain⟨u,f1,f2⟩:=AAE i' y (by rw[hxs];exact hy) j' c hcy;exact⟨u,f1,AAC _ _ f2⟩
   ·refine⟨λi' j' b=>if i'=i/\j'=j then False else D i' j' b,λi' j' b hb=>?_,λi1 j1 i2 j2 b h1 h2=>?_,λb hb cur' el2 l hcur' i' y j' e2 s2 zs hy hcy=>?_⟩
    ·simp only at hb;split at hb
     ·exact hb.elim
     ·rename_i hij;exact⟨d1 i' j' b hb,λh=>hij (d2 _ _ _ _ _ hb h)⟩
    ·simp only at h1 h2;split at h1<;>split at h2<;>first|exact h1.elim|exact h2.elim|exact d2 _ _ _ _ _ h1 h2
    ·simp only[o']at hb hy⊢;rw[hbo]at hb;cases hb;rw[AAF]at hcur';cases hcur';have hold:(¬ (i'=i/\j'=j))/\∃y0,o.row.xs[i']?=some y0/\y0[j']?=some (.dv e2 s2 zs):=by
      rw[hxs];by_cases hi:i'=i
      ·subst hi;rw[uV hil,uO]at hy;subst hy;by_cases hj:j'=j
       ·subst hj;rw[uV hjl,uO]at hcy;cases hcy
       ·rw[vE (wR hj)]at hcy;exact⟨λh=>hj h.2,x,hx,hcy⟩
      ·rw[vE (wR hi)]at hy;exact⟨λh=>hi h.1,y,hy,hcy⟩
     obtain⟨hij,y0,hy0,hc0⟩:=hold;obtain⟨u,f1,f2⟩:=d3 bo hbo cur _ _ AAF i' y0 j' e2 s2 zs hy0 hc0;exact⟨u,f1,by simpa only[hij,uf] using f2⟩
  ·exact hpk _
 ·rcases AAD q oq hq with ⟨q1,q2,h⟩|⟨rfl,rfl⟩|⟨rfl,rfl⟩<;>rcases AAD q' oq' hq' with ⟨q1',q2',h'⟩|⟨rfl,rfl⟩|⟨rfl,rfl⟩
  ·exact hr.inj q q' oq oq' b h h' hb hb'
  ·exact hr.inj q _ oq o b h ho hb (ho'o b hb')
  ·exact absurd (hr.inj q id oq o b h ho hb (hpoo b hb')) q1
  ·exact hr.inj _ q' o oq' b ho h' (ho'o b hb) hb'
  ·rfl
  ·exact absurd hb' (hdis b hb)
  ·exact absurd (hr.inj id q' o oq' b ho h' (hpoo b hb) hb').symm q1'
  ·exact absurd hb (hdis b hb')
  ·rfl
 ·obtain⟨q,hq⟩:=vF.1 hoq;rcases AAD q oq hq with ⟨_,_,h⟩|⟨_,rfl⟩|⟨_,rfl⟩
  ·exact h2 oq (uL h) hb
  ·exact h2 o (uL ho) (ho'o b hb)
  ·exact h2 o (uL ho) (hpoo b hb)
variable {α β : Type} {l : List α} {enc : α -> List AV}
def hole (l:List α)(enc:α->List AV)(i:Int)(x:List AV):List (List AV):=(l.map enc).set i.toNat x
theorem jd {i:Int}{u:α}{x:List AV}(h:x=enc u):hole l enc i x=(Sh.put l i u).map enc:=by subst h;exact gI
theorem Lc {i:Int}{u:α}{x:List AV}(h:Sh.get l i=some u):(hole l enc i x)[i.toNat]?=some x:=by
 have:=(Sh.get_some h).2.2;have h0:=(Sh.get_some h).1;exact uV (by simp;omega)
theorem lk {i:Int}{x y:List AV}:(hole l enc i x).set i.toNat y=hole l enc i y:=by unfold hole;rw[List.set_set]
theorem J6 {id m g size sz nn j:Nat}{el el':TypeId}{i:Int}{c:α}{ys:List β}{encY:β->List AV}{x x':List AV}{e:Nat->AV}{st st':List Row}(zh:st[id]?=some ⟨g,el,size,l.map enc⟩)(hi:Sh.get l i=some c)(hx:enc c=x)(hc:x[j]?=some (.dv el' sz (ys.map encY)))
  (hm:st.length=m) (hx':x.set j (.own m 0 ys.length)=x') (hst:st.set id ⟨g,el,size,hole l enc i x'⟩++[⟨0,el',sz,ys.map encY⟩]=st'):Wk k ⟨nn,e,st⟩ ⟨nn,e,st'⟩:=by
 subst hst;subst hx';subst hx;exact Wk.qg zh (Ef hi) hc hm (n:=ys.length) (by simp) rfl
theorem Wk.take {id m g gm size sz nn j n:Nat}{el el':TypeId}{i:Int}{c:α}{ys:List β}{encY:β->List AV}{x x':List AV}{e:Nat->AV}{st st':List Row}(zh:st[id]?=some ⟨g,el,size,hole l enc i x⟩)(hi:Sh.get l i=some c)(hc:x[j]?=some (.own m gm n))
  (hm:st[m]?=some ⟨gm,el',sz,ys.map encY⟩) (hn:n=ys.length) (hne:id≠m) (hkm:k<=m) (hd :∀y,(encY y).all S7=true) (hx':x.set j (.dv el' sz (ys.map encY))=x') (hst:(st.set id ⟨g,el,size,hole l enc i x'⟩).set m ⟨gm+1,el',sz,[]⟩=st') :
  Wk k ⟨nn,e,st⟩ ⟨nn,e,st'⟩:=by
 subst hst;subst hx';refine Rp zh (Lc hi) hc hm (by simpa using hn) hne hkm (λy hy c hc=>?_) (by rw[lk]);obtain⟨z,_,rfl⟩:=uw.1 hy;exact uS.1 (hd z) c hc
theorem FT {id g size nn:Nat}{el:TypeId}{i:Int}{u:α}{x:List AV}{e:Nat->AV}{st st':List Row}(zh:st[id]?=some ⟨g,el,size,hole l enc i x⟩)(hx:x=enc u)(hst:st.set id ⟨g,el,size,(Sh.put l i u).map enc⟩=st'):Wk k ⟨nn,e,st⟩ ⟨nn,e,st'⟩:=by
 rw[jd hx]at zh;have:st.set id ⟨g,el,size,(Sh.put l i u).map enc⟩=st:=by
  obtain⟨h1,h2⟩:=uK.1 zh;rw[<- h2];exact xu h1
 rw[this]at hst;exact Fj hst
section
variable {ops : Array Oper} {Q : Exit -> St -> Prop} {ds : List (Option Tmp)} {r : List Oper} {n : Nat} {e : Nat -> AV} {st st' : List Row} {ty : TypeId} {ps : String} {ed : Array Edge} {t : Tmp} {v : AV} {gd : Option (Nat × Bool)} {T : TypeId} {x y : Operand} {ag : Bool} {sz id g size : Nat} {el : TypeId} {cs : List AV} {c : α} {i : Int}
theorem V0 (hg:GO ds gd e)(ht:DJ P T=some (ag,sz))(hx:St.ev ⟨n,e,st⟩ x=.ptr id g i.toNat 0)(hr:st[id]?=some ⟨g,el,size,l.map enc⟩)(hi:Sh.get l i=some c)(hv:St.ev ⟨n,e,st⟩ y=v)(hc:MF v=some cs)(hn:cs.length=sz)(hle:cs.length<=size)
  (hlen:(enc c).length=cs.length) (hst:st.set id ⟨g,el,size,hole l enc i cs⟩=st') (hk:AO P k ops Q (ds++[none]) r ⟨n,e,st'⟩):AO P k ops Q ds (⟨none,.store T x y,ty,ps,ed,gd⟩::r) ⟨n,e,st⟩:=by
 refine Rm hg ht hx hr (Ef hi) hv hc hn (by omega) ?_ hk;rw[<- hst];have:Ip (enc c) 0 cs=cs:=by
  unfold Ip;rw[yO,vh,vd,wv (by omega),vV]
 rw[this];rfl
end
end Go.Abs
namespace Go.Abs
open Go
variable {P : Program} {F : Nat -> Prop} {os : List Own} {s : St} {a : Act} {w : World} {k : Nat}
theorem Rel.nw (hr:Rel F os s a w){cur:Array Value}{e:TypeId}{size cap:Nat}{xs:List (List AV)}(hpos:0<size)(hlens :∀x∈xs,x.length=size/\∀c∈x,c.kept=true)
  (hsz:cur.size=cap*size) (hle:xs.length<=cap) (hmax:cap<=maxLen)
  (AAE :∀(i:Nat) x,xs[i]?=some x->∀(j:Nat) c,x[j]?=some c->∃u,cur[i*size+j]?=some u/\Ae F w os c u/\∀e s ys,c=.dv e s ys->EX Gb w c u) :
  let o:Own:=⟨⟨0,e,size,xs⟩,some w.heap.size,cap,Gb⟩
  Rel F (os++[o]) { s with st:=s.st++[o.row] } a (w.alloc (.cells cur e))/\Ext F os w F (os++[o]) (w.alloc (.cells cur e)) k:=by
 intro o;have ht:Gt w (w.alloc (.cells cur e)) none:=Gt.alloc _ _ _;have hlt:∀(i:Nat) (oi:Own) g,os[i]?=some oi->oi.owns g->g<w.heap.size:=λi oi g hi hg=>(hr.rows i oi hi).lt hg;have AAD:∀(i:Nat) (oi:Own),(os++[o])[i]?=some oi->os[i]?=some oi∨(i=os.length/\oi=o):=λi oi hi=>by
  rcases wD i os.length with h|h|h
  ·rw[uU h]at hi;exact .inl hi
  ·subst h;simp at hi;exact .inr ⟨rfl,hi.symm⟩
  ·rw[ug (by omega),vf (by simp;omega)]at hi;cases hi
 have hold:∀x v,Ae F w os x v->Ae F (w.alloc (.cells cur e)) (os++[o]) x v:=λx v h=>
  D8 (λ_ h=>h) (λg hg=>ht.GK g (hr.GK g hg) (by simp)) os _ (Er.append os [o]) x v h
 have hown:∀g,o.owns g->g=w.heap.size:=λg hg=>by
  simp only[Own.owns,o,Gb,yc,uO]at hg;exact hg.symm
 have:=hr.Z2 (k:=k) ht (by simp) (os':=os++[o]) (Er.append os [o]) (λi oi hi=>by
   rcases AAD i oi hi with h|⟨_,rfl⟩
   ·exact .inl ⟨h,by simp⟩
   ·refine .inr ⟨hpos,hlens,by simp[o],λg hg=>?_,λg hg=>hg.elim,⟨λ_ _ _=>False,λ_ _ _ h=>h.elim,λ_ _ _ _ _ h=>h.elim,λb hb cur' el l hcur' i x j e' s' ys hx hc=>?_⟩⟩
    ·simp only[o,uO]at hg;subst hg;refine⟨λhF=>absurd (hr.GK _ hF) (yY _),cur,xE w _,hsz,hle,hmax,λi' x hx j c hc=>?_⟩;obtain⟨u,h1,h2,_⟩:=AAE i' x hx j c hc;exact⟨u,h1,hold _ _ h2⟩
    ·simp only[o,uO]at hb;subst hb;rw[xE w _]at hcur';cases hcur';obtain⟨u,h1,_,h3⟩:=AAE i x hx j _ hc;exact⟨u,h1,Nb (λ_ h=>h.elim) (λ_ h=>h.elim) _ u (h3 _ _ _ rfl)⟩)
  (λi j oi oj g hi hj hgi hgj=>by
   rcases AAD i oi hi with h|⟨h,rfl⟩<;>rcases AAD j oj hj with h'|⟨h',rfl⟩
   ·exact hr.inj i j oi oj g h h' hgi hgj
   ·have:=hlt i oi g h hgi;have:=hown g hgj;omega
   ·have:=hlt j oj g h' hgj;have:=hown g hgi;omega
   ·omega)
  (λo' ho' g hg=>by
   rcases vJ.1 ho' with h|h
   ·exact .inr ⟨o',h,hg⟩
   ·simp only[vQ]at h;subst h;exact .inl (by have:=hown g hg;omega))
  (by simp)
 refine⟨?_,this.2.1⟩;have h1:=this.1;rw[vx,hr.st]at h1;simpa using h1
def ZD:List AV->List AV->Prop
 | [],[]=>True
 | x::r,y::r'=>((x=y/\x.leaf=true)∨(x=.sl []/\∃el s,y=.dv el s []/\0<s))/\ZD r r'
 | _,_=>False
theorem ZD.len:∀{xs ys:List AV},ZD xs ys->xs.length=ys.length
 | [],[],_=>rfl
 | x::r,y::r',h=>by simp[ZD.len h.2]
theorem ZD.get:∀{xs ys:List AV},ZD xs ys->∀(j:Nat) y,ys[j]?=some y->∃x,xs[j]?=some x/\((x=y/\x.leaf=true)∨(x=.sl []/\∃el s,y=.dv el s []/\0<s))
 | [],[],_,j,y,h=>by simp at h
 | x::r,y::r',h,j,z,hz=>by
  cases j with
  | zero=>simp only[vC,uO]at hz;subst hz;exact⟨x,rfl,h.1⟩
  | succ j=>exact ZD.get h.2 j z (by simpa using hz)
theorem fA {v:Value}(h:NO v=.sl []):v=.slice none 0 0:=by
 unfold NO at h;split at h
 ·rfl
 ·unfold O6 at h;split at h<;>cases h
theorem iE {t:TypeId}{ei:jl}{l c:AV}{ul uc:Value}{zd:List AV}{kl kc:IntKind}{n:Int}(hr:Rel F os s a w)(he:Ck P t=some ei)(hzd:ZD ei.zero zd)(h0:0<=n)(hb:n*(ei.bytes:Int)<=281474976710656)(hm:n<=9223372036854775807)(el:l=.int kl n)(ec:c=.int kc n)(hl:Ae F w os l ul)(hc:Ae F w os c uc):
  IV P k F os s a w (Instr.makeSlice t ul uc) (λv st=>v=.own s.st.length 0 n.toNat/\st=s.st++[⟨0,ei.e,ei.size,List.replicate n.toNat zd⟩]):=by
 obtain⟨inf,z,hu,hi,hz,hzs,hpos,hsz,hby,hzero,hzl⟩:=J3 he;subst el;subst ec;simp only[Ae]at hl hc;subst hl;subst hc;obtain⟨N,rfl⟩:=vu h0;simp only[wH];have hrun:=run_make (P:=P) w t ei.e inf z hu hi hz kl kc N N (by omega) (xg _) (by rw[<- hby,Int.mul_comm];omega) (by omega);simp only[wH]at hrun;have hzl':zd.length=ei.size:=by rw[<- hzd.len,hzero,hsz,<- hzs];simp
 have:=hr.nw (k:=k) (cur:=madeCells z.cells (N*inf.size)) (e:=ei.e) (size:=ei.size) (cap:=N) (xs:=List.replicate N zd) (by omega)
  (λx hx=>by
   rw[xC]at hx;rw[hx.2];refine⟨hzl',λc hc=>?_⟩;obtain⟨j,hj⟩:=vF.1 hc;obtain⟨x,_,h⟩:=hzd.get j c hj;rcases h with ⟨rfl,h⟩|⟨_,el,s,rfl,_⟩
   ·exact DL h
   ·rfl) (by rw[size_madeCells,hsz]) (by simp) (by simp[maxLen];omega) (λi x hx j c hc=>by
   rw[List.getElem?_replicate]at hx;split at hx<;>simp only[uO,reduceCtorEq]at hx;subst hx;rename_i hiN;have hjl:j<ei.size:=by rw[<- hzl'];exact (uK.1 hc).1
   have hj2:j<z.cells.size:=by omega
   obtain⟨x0,hx0,hcase⟩:=hzd.get j c hc;rw[hzero]at hx0;simp only[uP,wA,vk hj2,vY,uO]at hx0;refine⟨z.cells[j],?_,?_⟩
   ·have hlt:i*ei.size+j<N*inf.size:=by
     have:(i+1)*ei.size<=N*ei.size:=va _ hiN;rw[vg]at this;rw[<- hsz];omega
    have hmod:(i*ei.size+j) % z.cells.size=j:=by rw[hzs,<- hsz,yL,yj];exact yB hjl
    simp[madeCells,hlt,hmod,hj2]
   ·rcases hcase with ⟨rfl,hlf⟩|⟨rfl,el,s,rfl,hs⟩
    ·rw[<- hx0];refine⟨NP F w os _,λe s ys e'=>?_⟩;rw[hx0]at e';rw[e']at hlf;simp[AV.leaf]at hlf
    ·have:=fA hx0;rw[this];refine⟨by simp only[Ae];exact⟨_,_,_,rfl⟩,λe s' ys e'=>?_⟩;simp only[EX];exact⟨hs,.inl ⟨uM,none,rfl⟩⟩)
 refine⟨_,_,_,_,_,⟨rfl,rfl⟩,hrun,this.1,?_,this.2⟩;simp only[Ae];refine⟨⟨⟨0,ei.e,ei.size,List.replicate N zd⟩,some w.heap.size,N,Gb⟩,by rw[hr.len];simp,by simp,⟨_,_,_,rfl⟩,λ_=>⟨by simp,.inr ⟨_,rfl,by simp⟩⟩⟩
theorem AO.RR {ops:Array Oper}{Q:Exit->St->Prop}{ds:List (Option Tmp)}{r:List Oper}{o:Oper}{s s':St}(hgd:o.guard=none)
  (h :∀F os a w,Rel F os s a w->DK s.n o.dst=true->∀(next:Act->World->Prop) (Q':Exit->Act->World->Prop),(∀a' w',Step k s.n F os w (·=s') a' w'->next a' w')->o.wp P a w next Q')
  (hk:AO P k ops Q (ds++[o.dst]) r s'):AO P k ops Q ds (o::r) s:=by
 intro hl hds hdst F os a w hr Q' hQ;have ho:ops[ds.length]?=some o:=by have:=hl 0;simpa using this.symm
 have hod:DK s.n o.dst=true:=hdst o (by have:=uL (l:=ops.toList) (i:=ds.length) (by simpa using ho);exact this);have hl' :∀(j:Nat),r[j]?=ops[(ds++[o.dst]).length+j]?:=λj=>by
  have:=hl (j+1);simp only[vW]at this;rw[this];congr 1;simp;omega
 have hds' :∀(j:Nat) d,(ds++[o.dst])[j]?=some d->(ops[j]?).map (·.dst)=some d:=λj d hj=>by
  rcases wD j ds.length with h1|h1|h1
  ·rw[uU h1]at hj;exact hds j d hj
  ·subst h1;rw[LJ,uO]at hj;rw[ho];simp[hj]
  ·rw[vf (by simp;omega)]at hj;cases hj
 unfold wpList;have hw:Region.wanted o (yielded ops a.tmps)=true:=by unfold Region.wanted;rw[hgd]
 rw[uX hw];refine .inl (h F os a w hr hod _ _ ?_);rintro a' w' ⟨s2,F2,os2,hn2,rfl,hR2,hE2⟩;exact hk hl' hds' (by rw[hn2];exact hdst) F2 os2 a' w' hR2 Q' λ_ _ _ hp=>hQ _ _ _ (hp.trans hE2)
section
variable {α : Type} {l : List α} {enc : α -> List AV}
variable {ops : Array Oper} {Q : Exit -> St -> Prop} {ds : List (Option Tmp)} {r : List Oper} {n : Nat} {e : Nat -> AV} {st st' : List Row} {ty : TypeId} {ps : String} {ed : Array Edge} {t : Tmp} {T : TypeId} {x y : Operand} {m bytes size : Nat} {el : TypeId} {zz : List AV} {u : α} {j : Int} {kk kk' : IntKind}
theorem Qz (he:Ck P T=some ⟨el,size,bytes,zz⟩)(hx:St.ev ⟨n,e,st⟩ x=.int kk j)(hy:St.ev ⟨n,e,st⟩ y=.int kk' j)(hz:ZD zz (enc u))(hl:Sh.mk u j bytes=some l)(hm:st.length=m)(hst:st++[⟨0,el,size,l.map enc⟩]=st')
  (hk:AO P k ops Q (ds++[some t]) r ⟨n,EW e t (.own m 0 l.length),st'⟩):AO P k ops Q ds (⟨some t,.makeSlice T x y,ty,ps,ed,none⟩::r) ⟨n,e,st⟩:=by
 subst hm;subst hst;unfold Sh.mk at hl;split at hl
 case isFalse=>cases hl
 rename_i h;simp only[uO]at hl;subst hl;refine AO.RR rfl (λF os a w hr hd next Q' hn=>?_) hk;obtain⟨v,st',u',w',os',⟨rfl,rfl⟩,h2,h3,h4,h5⟩:=iE (k:=k) (ei:=⟨el,size,bytes,zz⟩) hr he hz h.1 h.2.1 h.2.2 hx hy (hr.ev x) (hr.ev y);unfold Oper.wp;simp only[execOp,vU,h2,vS,vv,Oper.upon];refine hn _ _ (OO hd ?_ h3 h4 h5);simp[St.put,xf]
end
end Go.Abs
namespace Go.Abs
open Go
variable {P : Program} {F : Nat -> Prop} {os : List Own} {s : St} {a : Act} {w : World} {k : Nat}
variable {α β : Type} {l : List α} {enc : α -> List AV}
theorem EB {id g size nn:Nat}{el:TypeId}{i:Int}{c:α}{x:List AV}{e:Nat->AV}{st st':List Row}(zh:st[id]?=some ⟨g,el,size,hole l enc i x⟩)(hi:Sh.get l i=some c)(hx:x=enc c)(hst:st.set id ⟨g,el,size,l.map enc⟩=st'):Wk k ⟨nn,e,st⟩ ⟨nn,e,st'⟩:=by
 have h2:hole l enc i x=l.map enc:=by
  subst hx;unfold hole;have:=Ef (enc:=enc) hi;obtain⟨h1,h2⟩:=uK.1 this;rw[<- h2];exact xu h1
 rw[h2]at zh;have:st.set id ⟨g,el,size,l.map enc⟩=st:=by
  obtain⟨h1,h2⟩:=uK.1 zh;rw[<- h2];exact xu h1
 rw[this]at hst;exact Fj hst
end Go.Abs
namespace Go.Abs
open Go
theorem Jg {α:Type}{l l':List α}{c:α}{b:Nat}(h:Sh.app l [c] b=some l'):Sh.get l' (Sh.len l)=some c:=by
 unfold Sh.app at h;split at h
 ·simp only[uO]at h;subst h;unfold Sh.get Sh.len;rw[uX (xe _)];simp
 ·cases h
section
variable {P : Program} {k : Nat} {α : Type} {l l' : List α} {enc : α -> List AV} {c : α}
variable {ops : Array Oper} {Q : Exit -> St -> Prop} {ds : List (Option Tmp)} {r : List Oper} {n : Nat} {e : Nat -> AV} {st st' : List Row} {ty : TypeId} {ps : String} {ed : Array Edge} {t : Tmp} {gd : Option (Nat × Bool)} {T : TypeId} {x y : Operand} {bytes size id g m q gq size' : Nat} {el el' : TypeId} {zz cs : List AV}
theorem LX (hg:GO ds gd e)(he:Ck P T=some ⟨el,size,bytes,zz⟩)(hx:St.ev ⟨n,e,st⟩ x=.own id g m)(hr:st[id]?=some ⟨g,el,size,l.map enc⟩)(hm:m=l.length)(hy:St.ev ⟨n,e,st⟩ y=.own q gq 1)(hq:st[q]?=some ⟨gq,el',size',[cs]⟩)
  (hlf:cs.all AV.leaf=true) (hcs:cs.length=size) (ha:Sh.app l [c] bytes=some l') (hst:st.set id ⟨g+1,el,size,hole l' enc (Sh.len l) cs⟩=st') (hk:AO P k ops Q (ds++[some t]) r ⟨n,EW e t (.own id (g+1) l'.length),st'⟩) :
  AO P k ops Q ds (⟨some t,.call ⟨.builtin .append,#[x,y],#[T,T]⟩,ty,ps,ed,gd⟩::r) ⟨n,e,st⟩:=by
 subst hst;subst hm;refine ON hg ?_;rw[Zr];refine⟨rfl,?_⟩;rw[hx,hy];unfold Sh.app at ha;split at ha
 ·rename_i h;simp only[uO]at ha;subst ha;refine Am _ he (Am _ hq ⟨rfl,λz hz c hc=>?_,rfl,λz hz=>?_,Am _ hr ⟨rfl,(uZ _).symm,rfl,rfl,by simpa using h.1,by simpa using h.2,?_⟩⟩)
  ·simp only[vQ]at hz;subst hz;exact uS.1 hlf c hc
  ·simp only[List.take_one,List.head?_cons,Option.toList_some,vQ]at hz;subst hz;exact hcs
  ·have e1:(l.map enc).take l.length=l.map enc:=by rw[<- uZ (f:=enc) (as:=l),vp]
   have e3:List.map enc l++[cs]=hole (l++[c]) enc (Sh.len l) cs:=by simp[hole,Sh.len]
   simp only[e1,List.take_one,List.head?_cons,Option.toList_some,e3,wS];rw[show l.length+1=(l++[c]).length by simp];exact hk
 ·cases ha
end
end Go.Abs
namespace Go.Abs
open Go
variable {P : Program} {F : Nat -> Prop} {os : List Own} {s : St} {a : Act} {w : World} {k : Nat}
def Oq (id g:Nat)(xs:List (List AV)):AV->AV
 | .own id' g' n=>if id'=id/\g'=g then (if n=xs.length then .sl (Li xs) else .F6) else .own id' g' n
 | v=>v
def qC (id g:Nat)(xs:List (List AV)):AV->AV
 | .agg cs=>.agg (cs.map (Oq id g xs))
 | .CW cs=>.CW (cs.map (Oq id g xs))
 | v=>Oq id g xs v
theorem Wk.ny {id:Nat}{row:Row}(hid:k<=id)(zh:s.st[id]?=some row)(hp:W4 row.xs):
  Wk k s ⟨s.n,λt=>qC id row.gen row.xs (s.env t),s.st.set id { row with gen:=row.gen+1,xs:=[] }⟩:=λF os a w hr=>by
 obtain⟨o,ho,rfl⟩:=hr.row zh;have zp:=hr.rows id o ho;refine⟨λb=>F b∨o.owns b,os.set id ⟨{ o.row with gen:=o.row.gen+1,xs:=[] },none,0,Gb⟩,?_,?_⟩
 case refine_2=>
  refine⟨rfl,rfl,rfl,uq _,λ_ h=>.inl h,λ_ _=>rfl,λb _ h1 h2=>⟨rfl,λh=>h.elim h1 (λe=>h2 o (uL ho) e),λo' ho'=>?_⟩,λi oi hi hoi=>⟨oi,?_,uq _,rfl,λ_=>⟨rfl,rfl,rfl⟩⟩⟩
  ·rcases vq ho' with h|rfl
   ·exact h2 o' h
   ·intro hh;rcases hh with hh|hh
    ·simp at hh
    ·exact hh
  ·rw[vE (by omega)];exact hoi
 have hF:∀b,F b->(λb=>F b∨o.owns b) b:=λ_ h=>.inl h;have hos:Er os (os.set id ⟨{ o.row with gen:=o.row.gen+1,xs:=[] },none,0,Gb⟩):=Er.set ho (by simp) rfl (λe=>by simp at e);have AAC:∀x v,Ae F w os x v->Ae (λb=>F b∨o.owns b) w (os.set id ⟨{ o.row with gen:=o.row.gen+1,xs:=[] },none,0,Gb⟩) x v:=λx v h=>
  D8 hF (λ_ _=>rfl) os _ hos x v h
 have h1:∀x v,Ae F w os x v->Ae (λb=>F b∨o.owns b) w (os.set id ⟨{ o.row with gen:=o.row.gen+1,xs:=[] },none,0,Gb⟩) (Oq id o.row.gen o.row.xs x) v:=λx v h=>by
  cases x with
  | own id' g' n=>
   simp only[Oq];split
   ·rename_i hif;obtain⟨rfl,rfl⟩:=hif;split
    ·rename_i hn0;subst hn0;simp only[Ae]at h;obtain⟨o',ho',_,_,h⟩:=h;rw[ho]at ho';cases ho';obtain⟨_,hv⟩:=h rfl;have hD:=Xr zp hp (v:=v) (by simpa only[wX,xI,xO] using hv);have:=(XA (F:=λb=>F b∨o.owns b) (λb hb=>.inr hb) _ _ hD).1;simp only[Ry,Ae]at this⊢;exact this
    ·simp[Ae]
   ·exact AAC _ _ h
  | _=>exact AAC _ _ h
 have hL:∀xs us,Bc F w os xs us->Bc (λb=>F b∨o.owns b) w (os.set id ⟨{ o.row with gen:=o.row.gen+1,xs:=[] },none,0,Gb⟩) (xs.map (Oq id o.row.gen o.row.xs)) us:=λxs us h=>
  DZ (by simp[BR h]) λi x u hx hu=>by
   simp only[uP,uR]at hx;obtain⟨y,hy,rfl⟩:=hx;obtain⟨u',e1,e2⟩:=Bo h i y hy;rw[hu]at e1;cases e1;exact h1 _ _ e2
 have AAD:∀(i:Nat) (oi:Own),(os.set id ⟨{ o.row with gen:=o.row.gen+1,xs:=[] },none,0,Gb⟩)[i]?=some oi->(i≠id/\os[i]?=some oi)∨(i=id/\oi=⟨{ o.row with gen:=o.row.gen+1,xs:=[] },none,0,Gb⟩):=λi oi hi=>by
  by_cases e:i=id
  ·subst e;rw[uV (uK.1 ho).1,uO]at hi;exact .inr ⟨rfl,hi.symm⟩
  ·rw[vE (wR e)]at hi;exact .inl ⟨e,hi⟩
 refine⟨by rw[wb,hr.st],λt=>?_,hr.size,λi oi hi=>?_,λi j oi oj b hi hj hbi hbj=>?_,λb hb=>?_,hr.defers⟩
 ·have:=hr.env t;simp only;generalize s.env t=x at this⊢;cases x with
  | agg cs=>simp only[qC,Ae]at this⊢;obtain⟨us,e,h⟩:=this;exact⟨us,e,hL _ _ h⟩
  | CW cs=>simp only[qC,Ae]at this⊢;obtain⟨us,e,h⟩:=this;exact⟨us,e,hL _ _ h⟩
  | _=>exact h1 _ _ this
 ·rcases AAD i oi hi with ⟨hne,h⟩|⟨_,rfl⟩
  ·have hoki:=hr.rows i oi h;refine⟨hoki.pos,hoki.lens,hoki.none,λb hb=>?_,λb hb=>⟨λhF=>hF.elim (hoki.mo b hb).1 (λhob=>hne (hr.inj i id oi o b h ho (.inr hb) hob)),(hoki.mo b hb).2⟩,hoki.deep⟩;obtain⟨e1,cur,e2,e3,e4,e5,e6⟩:=hoki.some b hb;refine⟨λhF=>hF.elim e1 (λhob=>hne (hr.inj i id oi o b h ho (.inl hb) hob)),cur,e2,e3,e4,e5,λi' x hx j c hc=>?_⟩;obtain⟨u,f1,f2⟩:=e6 i' x hx j c hc;exact⟨u,f1,AAC _ _ f2⟩
  ·exact⟨zp.pos,by simp,by simp,by simp,λb hb=>hb.elim,Fz (by simp)⟩
 ·rcases AAD i oi hi with ⟨hne,h⟩|⟨h,rfl⟩<;>rcases AAD j oj hj with ⟨hne',h'⟩|⟨h',rfl⟩
  ·exact hr.inj i j oi oj b h h' hbi hbj
  ·exact hbj.elim (λe=>by simp at e) λe=>e.elim
  ·exact hbi.elim (λe=>by simp at e) λe=>e.elim
  ·omega
 ·rcases hb with hb|hb|hb
  ·exact hr.GK b hb
  ·obtain⟨_,cur,AAF,_⟩:=zp.some b hb;exact (vR.1 AAF).1
  ·exact (zp.mo b hb).2.1
variable {α : Type} {l : List α} {enc enc' : α -> List AV} {n id g m size : Nat} {e : Nat -> AV} {st st' : List Row} {L : List (Nat × AV)} {el : TypeId} {xs : List (List AV)}
theorem jh (h:m=l.length)(hu :∀x,JI (enc x)=enc' x):Oq id g (l.map enc) (.own id g m)=.sl (l.map enc'):=by
 subst h;simp only[Oq,and_self,vH,uZ];rw[JN,wa];congr 1;exact vL λx _=>hu x
theorem le.Oq (h:m=l.length)(hu :∀x,JI (enc x)=enc' x):le (Abs.Oq id g (l.map enc) (.own id g m)) (.sl (l.map enc')):=le.of (jh h hu)
theorem J9 (h :∀x,(enc x).all S7=true):W4 (l.map enc):=λx hx c hc=>by
 obtain⟨y,_,rfl⟩:=uw.1 hx;exact uS.1 (h y) c hc
theorem Ni (zh:st[id]?=some ⟨g,el,size,xs⟩)(hid:k<=id)(hp:W4 xs)(h:ME (λt=>Abs.qC id g xs (e t)) L)(hst:st.set id ⟨g+1,el,size,[]⟩=st'):Wk k ⟨n,e,st⟩ ⟨n,AJ L,st'⟩:=by
 subst hst;exact (Wk.ny (s:=⟨n,e,st⟩) hid zh hp).trans (FJ h)
end Go.Abs
namespace Go.Abs
open Go
variable {P : Program} {F : Nat -> Prop} {os : List Own} {s : St} {a : Act} {w : World} {k : Nat}
section
variable {P : Program} {ops : Array Oper} {Q : Exit -> St -> Prop} {n N f i : Nat} {zU listed' : Array Bool} {e : Nat -> AV} {ty : TypeId} {p : String} {ed : Array Edge} {t : Tmp} {α : Type} {l l2 l' : List α} {enc : α -> List AV} {x y : Operand} {g m size bytes : Nat} {el : TypeId} {zz : List AV} {T : TypeId} {rst : List Row} {k : Nat}
theorem Wv (h:zU=listed'){s:St}(ha:AX P k ops Q N f zU s):AX P k ops Q N f listed' s:=h▸ha
theorem Qn {s:St}(h :∀A:Nat->Array Bool->St->Prop,(∀f l s,A f l s↔AX P k ops Q N f l s)->A f zU s):AX P k ops Q N f zU s:=
 h (AX P k ops Q N) (λ_ _ _=>Iff.rfl)
end
section
variable {P : Program} {ds : List (Option Tmp)} {r : List Oper} {KS : St -> Prop} {n : Nat} {e : Nat -> AV} {st : List Row} {ty : TypeId} {ps : String} {ed : Array Edge} {t : Tmp} {gd : Option (Nat × Bool)} {α : Type} {l l' : List α} {enc : α -> List AV} {x : Operand} {size bytes : Nat} {el T : TypeId} {zz : List AV}
theorem oU {lo hi:Option Operand}{i j:Int}(hg:GO ds gd e)(he:Ck P T=some ⟨el,size,bytes,zz⟩)(hx:St.ev ⟨n,e,st⟩ x=.sl (l.map enc))(h1:Ws (lo.map (St.ev ⟨n,e,st⟩)) 0=some i)(h2:Ws (hi.map (St.ev ⟨n,e,st⟩)) l.length=some j)(hs :∀a,(enc a).length=size)(hl:Sh.sl l i j=some l')
  (hk:DX P (ds++[some t]) r KS ⟨n,EW e t (.sl (l'.map enc)),st⟩):DX P ds (⟨some t,.slice T x lo hi none,ty,ps,ed,gd⟩::r) KS ⟨n,e,st⟩:=by
 refine lB hg rfl (λs0 e1 e2 hd k F os a w hr next Q hn=>?_) hk;refine Ty (k:=k) (K:=(·=s0.put (some t) (.sl (l'.map enc)))) hr hd ?_ hn;show Yk P s0.st T (s0.ev x) (lo.map s0.ev) (hi.map s0.ev) (Option.map s0.ev none) (λv st=>({ s0 with st:=st }:St).put (some t) v=s0.put (some t) (.sl (l'.map enc)));have ex:s0.ev x=St.ev ⟨n,e,st⟩ x:=e2 x (by simp[Op.operands]);have elo:lo.map s0.ev=lo.map (St.ev ⟨n,e,st⟩):=by
  cases lo with
  | none=>rfl
  | some y=>simp only[vY];rw[e2 y (by simp[Op.operands])]
 have ehi:hi.map s0.ev=hi.map (St.ev ⟨n,e,st⟩):=by
  cases hi with
  | none=>rfl
  | some y=>simp only[vY];rw[e2 y (by simp[Op.operands])]
 rw[ex,elo,ehi,hx];unfold Sh.sl at hl;split at hl
 ·rename_i h;simp only[uO]at hl;subst hl;refine Am _ he (Am _ h1 (Am _ (by rw[uZ];exact h2) ⟨h.1,h.2.1,by simpa using h.2.2,λz hz=>?_,?_⟩))
  ·obtain⟨q,_,rfl⟩:=uw.1 hz;exact hs q
  ·rw[List.map_drop,yX]
 ·cases hl
end
end Go.Abs
namespace Go.Abs
open Go
section
variable {P : Program} {k : Nat} {ops : Array Oper} {Q : Exit -> St -> Prop} {ds : List (Option Tmp)} {r : List Oper} {n : Nat} {e : Nat -> AV} {st st' : List Row} {ty : TypeId} {p : String} {ed : Array Edge} {t : Tmp} {x y : Operand} {size bytes m : Nat} {el T Tn : TypeId} {zz : List AV} {α : Type} {enc : α -> List AV} {u : α} {l' : List α} {kk : IntKind} {j : Int} {v : AV} {o : Oper}
theorem iN (hn:o.guard=none)(h :∀F os a w,Rel F os ⟨n,e,st⟩ a w->∃z w' F' os',(execOp a.eval o).run P w=.ok (.value z) w'/\Rel F' os' ⟨n,e,st'⟩ a w'/\Ae F' w' os' v z/\Ext F os w F' os' w' k)
  (hk:AO P k ops Q (ds++[o.dst]) r (St.put ⟨n,e,st'⟩ o.dst v)):AO P k ops Q ds (o::r) ⟨n,e,st⟩:=by
 intro hl hds hdst F os a w hr Q' hQ;have ho:ops[ds.length]?=some o:=by have:=hl 0;simpa using this.symm
 have hod:DK n o.dst=true:=hdst o (by have:=uL (l:=ops.toList) (i:=ds.length) (by simpa using ho);exact this);have hl' :∀(j:Nat),r[j]?=ops[(ds++[o.dst]).length+j]?:=λj=>by
  have:=hl (j+1);simp only[vW]at this;rw[this];congr 1;simp;omega
 have hds' :∀(j:Nat) d,(ds++[o.dst])[j]?=some d->(ops[j]?).map (·.dst)=some d:=λj d hj=>by
  rcases wD j ds.length with h1|h1|h1
  ·rw[uU h1]at hj;exact hds j d hj
  ·subst h1;rw[LJ,uO]at hj;rw[ho];simp[hj]
  ·rw[vf (by simp;omega)]at hj;cases hj
 obtain⟨z,w',F',os',h1,h2,h3,h4⟩:=h F os a w hr;unfold wpList;rw[uX (by unfold Region.wanted;rw[hn])];refine .inl ?_;unfold Oper.wp;rw[h1];simp only[Oper.upon];refine hk hl' hds' (by cases o.dst<;>exact hdst) F' os' _ w' (h2.put hod h3) Q' λ_ _ _ hp=>hQ _ _ _ (hp.trans h4)
theorem fx (hs:Cn P T=true)(hx:St.ev ⟨n,e,st⟩ x=.zc)(hk:AO P k ops Q (ds++[some t]) r ⟨n,EW e t (i64 0),st⟩):
  AO P k ops Q ds (⟨some t,.call ⟨.builtin .cap,#[x],#[T]⟩,ty,p,ed,none⟩::r) ⟨n,e,st⟩:=by
 refine iN rfl (st':=st) (v:=i64 0) (λF os a w hr=>?_) hk;have h1:=hr.ev x;rw[hx]at h1;simp only[Ae]at h1;obtain⟨ad,h1⟩:=h1;unfold Cn at hs;split at hs
 case h_2=>cases hs
 rename_i el hu;refine⟨.int .i64 0,w,F,os,?_,hr,by simp[Ae],Ext.refl _ _ _ _⟩;simp only[execOp,resolve,invoke,builtin,vU,vv,vS,List.map_toArray,vK,wW,h1,Builtin.cap_];simp[vn hu,goInt]
theorem qn {hi:Option Operand}(he:Ck P T=some ⟨el,size,bytes,zz⟩)(hx:St.ev ⟨n,e,st⟩ x=.zc)(h2:Ws (hi.map (St.ev ⟨n,e,st⟩)) 0=some 0)
  (hk:AO P k ops Q (ds++[some t]) r ⟨n,EW e t .zc,st⟩):AO P k ops Q ds (⟨some t,.slice T x none hi none,ty,p,ed,none⟩::r) ⟨n,e,st⟩:=by
 refine ON BJ ?_;rw[XR];simp only[ym];rw[hx];exact Am _ he (Am _ rfl (Am _ h2 ⟨rfl,rfl,hk⟩))
theorem oG {kn:IntKind}(he:Ck P T=some ⟨el,size,bytes,zz⟩)(hn:P.underlying Tn=some (.int kn))(hx:St.ev ⟨n,e,st⟩ x=.zc)(hy:St.ev ⟨n,e,st⟩ y=.int kk j)(h0:decide (0<j)=true)(hz:enc u=zz)(hj:Sh.mk u j bytes=some l')(hm:st.length=m)(hst:st++[⟨0,el,size,l'.map enc⟩]=st')
  (hk:AO P k ops Q (ds++[some t]) r ⟨n,EW e t (.own m 0 l'.length),st'⟩):AO P k ops Q ds (⟨some t,.call ⟨.builtin .append,#[x,y],#[T,Tn]⟩,ty,p,ed,none⟩::r) ⟨n,e,st⟩:=by
 subst hm;subst hst;subst hz;unfold Sh.mk at hj;split at hj
 case isFalse=>cases hj
 rename_i hbd;simp only[uO]at hj;subst hj;refine iN rfl (st':=st++[(⟨0,el,size,(List.replicate j.toNat u).map enc⟩:Row)]) (v:=.own st.length 0 (List.replicate j.toNat u).length) (λF os a w hr=>?_) hk;have h1:=hr.ev x;rw[hx]at h1;simp only[Ae]at h1;obtain⟨ad,h1⟩:=h1;have h2:=hr.ev y;rw[hy]at h2;simp only[Ae]at h2;obtain⟨inf,z,hu,hi,hz,hzs,hpos,hsz,hby,hzz,hlf⟩:=J3 he;dsimp only at hu hi hzs hpos hsz hby hzz hlf;have hj0:0<j:=vm h0;obtain⟨q,rfl⟩:=vu (Int.le_of_lt hj0);rw[wH];have hq0:0<q:=by omega
 have hq48:q*inf.bytes<=281474976710656:=by
  have h9:((q*bytes:Nat):Int)<=281474976710656:=by rw[yH];exact hbd.2.1
  rw[<- hby];omega
 have hold:(Builtin.firstCells inf.size 0 (.slice ad 0 0)).run P w.drew=.ok ([]:List Value).toArray w.drew:=by
  cases ad with
  | none=>exact run_firstCells_none w.drew inf.size 0 0 0
  | some ad=>exact run_firstCells_some w.drew inf.size 0 ad 0 0 [] (by simp) (by simp)
 have hfit:Builtin.nextslicecap (0+q) 0*inf.bytes<=281474976710656:=by rw[vd,nextslicecap_zero hq0];exact hq48
 have hrun:=Lib.run_append_grow_zeros (P:=P) w T Tn ty el inf z kk kn hu hn hi hz ad 0 0 [] hold q hq0 (by omega) (by omega) (by omega) hq48 hfit;rw[vd]at hrun;have hge:=yV w q 0 el;have hle:=xP w q 0 el (by unfold maxLen;omega);have hzc:∀i,i<z.cells.size->∃c',z.cells[i]?=some c':=λi hi=>⟨_,vk hi⟩;have hadd:=hr.Tv (k:=k) (.inr rfl) (cur:=([]:List Value).toArray++Builtin.zeroCells z.cells q++Builtin.zeroCells z.cells (grownCap w q 0 el-q)) (e:=el) (size:=size) (cap:=grownCap w q 0 el) (xs:=(List.replicate q u).map enc)
  (by omega) (λx hx=>by
   rw[xf]at hx;rw[List.eq_of_mem_replicate hx,hzz];refine⟨by simp[hzs,hsz],λc hc=>hlf c (by rw[hzz];exact hc)⟩)
  (by
   simp only[Array.size_append,xl,vl,xX,hzs,hsz,vd,<- vg];congr 1;omega)
  (by rw[uZ,List.length_replicate];omega) hle (λi x hx jj c hc=>by
   rw[xf]at hx;have hi:i<q:=by
    have:=(uK.1 hx).1;simpa using this
   have hx':x=enc u:=List.eq_of_mem_replicate (uL hx);subst hx';rw[hzz]at hc;simp only[uP,uR,wA]at hc;obtain⟨c',hc1,rfl⟩:=hc;have hjl:jj<z.cells.size:=(vR.1 hc1).1;refine⟨c',?_,NP F w os c'⟩;have hlt:i*size+jj<q*size:=by
    have:(i+1)*size<=q*size:=va _ hi;rw[vg]at this;omega
   rw[Array.append_assoc,show (([]:List Value).toArray++(Builtin.zeroCells z.cells q++Builtin.zeroCells z.cells (grownCap w q 0 el-q)))=(Builtin.zeroCells z.cells q++Builtin.zeroCells z.cells (grownCap w q 0 el-q)) by simp];rw[wg (by rw[xX,hzs,<- hsz];exact hlt)];unfold Builtin.zeroCells;rw[Array.getElem?_map,Array.getElem?_range];rw[uX (by rw[hzs,<- hsz];exact hlt)];simp only[vY,uO];have hmod:(i*size+jj) % z.cells.size=jj:=by
    rw[hzs,<- hsz,yL,yj];exact yB (by omega)
   rw[hmod];simp[Array.getElem!_eq_getD,Array.getD,hjl,(vR.1 hc1).2])
 refine⟨.slice (some ⟨w.heap.size,0,none⟩) q (grownCap w q 0 el),_,F,_,?_,hadd.1,?_,hadd.2.1⟩
 ·simp only[execOp,resolve,invoke,builtin,vU,vv,vS,List.map_toArray,vK,wW,h1,h2];rw[hrun];simp
 ·simp only[Ae];have hlen:st.length=os.length:=hr.len;exact⟨_,by rw[hlen];exact LJ _ _,uq _,⟨_,_,_,rfl⟩,λ_=>⟨by simp,.inr ⟨_,rfl,by simp⟩⟩⟩
end
section
variable {P : Program} {ds : List (Option Tmp)} {r : List Oper} {KS : St -> Prop} {n : Nat} {e : Nat -> AV} {st : List Row} {ty : TypeId} {ps : String} {ed : Array Edge} {t : Tmp} {gd : Option (Nat × Bool)} {α : Type} {l : List α} {enc : α -> List AV} {u : α} {x y : Operand} {size bytes : Nat} {el T : TypeId} {zz : List AV} {kk kk' : IntKind} {j : Int}
theorem tZ (hg:GO ds gd e)(he:Ck P T=some ⟨el,size,bytes,zz⟩)(hx:St.ev ⟨n,e,st⟩ x=.int kk j)(hy:St.ev ⟨n,e,st⟩ y=.int kk' j)(hz:enc u=zz)(hl:Sh.mk u j bytes=some l)(hpu:Gm (l.map enc))
  (hk:DX P (ds++[some t]) r KS ⟨n,EW e t (.sl (l.map enc)),st⟩):DX P ds (⟨some t,.makeSlice T x y,ty,ps,ed,gd⟩::r) KS ⟨n,e,st⟩:=by
 subst hz;refine lB hg rfl (λs0 e1 e2 hd k F os a w hr next Q hn=>?_) hk;have ex:s0.ev x=.int kk j:=(e2 x (by simp[Op.operands])).trans hx;have ey:s0.ev y=.int kk' j:=(e2 y (by simp[Op.operands])).trans hy;have hxr:=hr.ev x;have hyr:=hr.ev y;rw[ex]at hxr;rw[ey]at hyr;unfold Sh.mk at hl;split at hl
 case isFalse=>cases hl
 rename_i h;simp only[uO]at hl;subst hl;have h9:IV P 0 F [] ⟨s0.n,λ_=>.F6,[]⟩ a w (Instr.makeSlice T (a.eval x) (a.eval y)) (λz st=>z=.own 0 0 (List.replicate j.toNat u).length/\st=[⟨0,el,size,(List.replicate j.toNat u).map enc⟩]):=by
  refine cO (l:=.int kk j) (c:=.int kk' j) hr.bare (Am _ he ⟨rfl,h.1,h.2.1,h.2.2,?_⟩) (J0 (x:=.int kk j) rfl [] hxr) (J0 (x:=.int kk' j) rfl [] hyr);simp
 obtain⟨u',w',F',g1,g2,g3,g4⟩:=Nh (k:=k) hr h9 (VH hpu) rfl;unfold Oper.wp;simp only[execOp,vU,g1,vS,vv,Oper.upon];exact hn _ _ (OO (st':=s0.st) hd rfl g2 g3 g4)
end
section
variable {P : Program} {k : Nat} {ops : Array Oper} {Q : Exit -> St -> Prop} {ds : List (Option Tmp)} {r : List Oper} {n : Nat} {e : Nat -> AV} {st st' : List Row} {ty : TypeId} {p : String} {ed : Array Edge} {t : Tmp} {x y : Operand} {size bytes m : Nat} {el T : TypeId} {zz : List AV} {kk kk' : IntKind} {c : Nat}
theorem jL {α:Type}{u:α}{l':List α}{j:Int}(he:Ck P T=some ⟨el,size,bytes,zz⟩)(hx:St.ev ⟨n,e,st⟩ x=.int kk 0)(hy:St.ev ⟨n,e,st⟩ y=.int kk' j)(hj:Sh.mk u j bytes=some l')(hm:st.length=m)(hst:st++[⟨0,el,size,[]⟩]=st')
  (hk:AO P k ops Q (ds++[some t]) r ⟨n,EW e t (.own m 0 0),st'⟩):AO P k ops Q ds (⟨some t,.makeSlice T x y,ty,p,ed,none⟩::r) ⟨n,e,st⟩:=by
 subst hm;subst hst;unfold Sh.mk at hj;split at hj
 case isFalse=>cases hj
 rename_i hb0;obtain⟨c,rfl⟩:=vu hb0.1;have hbd:c*bytes<=281474976710656/\c<=9223372036854775807:=by
  have h9:((c*bytes:Nat):Int)<=281474976710656:=by rw[yH];exact hb0.2.1
  have h8:=hb0.2.2;omega
 refine iN rfl (st':=st++[(⟨0,el,size,[]⟩:Row)]) (v:=.own st.length 0 0) (λF os a w hr=>?_) hk;have h1:=hr.ev x;rw[hx]at h1;simp only[Ae]at h1;have h2:=hr.ev y;rw[hy]at h2;simp only[Ae]at h2;obtain⟨inf,z,hu,hi,hz,hzs,hpos,hsz,hby,hzz,hlf⟩:=J3 he;dsimp only at hu hi hzs hpos hsz hby hzz hlf;have hrun:=run_make (P:=P) w T el inf z hu hi hz kk kk' 0 (c:Int) (by omega) (by omega) (by rw[<- hby,<- yH,yL];omega) (by omega);have hadd:=hr.Tv (k:=k) (.inl rfl) (cur:=madeCells z.cells (c*inf.size)) (e:=el) (size:=size) (cap:=c) (xs:=[]) (by omega) (by simp) (by rw[size_madeCells,hsz]) (by simp) (by simp[maxLen];omega) (by simp);refine⟨.slice (some ⟨w.heap.size,0,none⟩) 0 c,_,F,_,?_,hadd.1,?_,hadd.2.1⟩
 ·simp only[execOp,vU,vv,vS,h1,h2];rw[hrun];simp
 ·simp only[Ae];have hlen:st.length=os.length:=hr.len;exact⟨_,by rw[hlen];exact LJ _ _,uq _,⟨_,_,_,rfl⟩,λ_=>⟨by simp,.inr ⟨_,rfl,by simp⟩⟩⟩
end
end Go.Abs
namespace Go.Abs
open Go
variable {P : Program} {n : Nat} {e : Nat -> AV} {st : List Row} {t : Tmp} {ty : TypeId} {ps : String} {ed : Array Edge} {x : Operand}
theorem Gj {id g i off off' el size j f:Nat}{tt:TypeId}{xs:List (List AV)}(hf:G7 P tt f=some j)(h:St.ev ⟨n,e,st⟩ x=.ptr id g i off)(zh:st[id]?=some ⟨g,el,size,xs⟩)(hl:off+j<=size)(ho:off+j=off'):Pd P ⟨n,e,st⟩ ⟨some t,.fieldAddr tt x f,ty,ps,ed,none⟩ (.ptr id g i off'):=
 ⟨rfl,λF os a w hr=>by
  subst ho;have h1:=hr.ev x;rw[h]at h1;unfold G7 at hf;split at hf<;>try (cases hf;done)
  rename_i fs hu;split at hf<;>try (cases hf;done)
  rename_i g1 hg;split at hf<;>try (cases hf;done)
  rename_i i1 hi;split at hf
  ·cases hf
  rename_i hz;simp only[uO]at hf;have hrun:∀b off w',(Instr.fieldAt tt (.pointer (some ⟨b,off,none⟩)) f).run P w'=.ok (.pointer (some ⟨b,off+j,none⟩)) w':=λb off w'=>by
   simp[Instr.fieldAt,vn hu,hg,Instr.sureAddr,fieldPlace,sizeOf,typeInfo,hi,hz,DM,hf]
  obtain⟨ow,how,hrw⟩:=hr.row zh;simp only[Ae]at h1;obtain⟨o',ho',hge,_,hv⟩:=h1;rw[how]at ho';cases ho';have hgg:ow.row.gen=g:=by rw[hrw]
  obtain⟨h2,h3,b,hb,e2⟩:=hv hgg;refine⟨.pointer (some ⟨b,i*ow.row.size+off+j,none⟩),λw'=>?_,?_⟩
  ·simp[execOp,e2,hrun]
  ·simp only[Ae];exact⟨ow,how,hge,⟨_,rfl⟩,λ_=>⟨h2,by rw[hrw];exact hl,b,hb,by rw[wZ]⟩⟩⟩
end Go.Abs
namespace Go.Abs
open Go
def SF (F:Nat->Prop)(w:World):World->Prop:=λw'=>∀b,F b->w'.heap[b]?=w.heap[b]?
section
variable {P : Program} {k : Nat} {ops : Array Oper} {Q : Exit -> St -> Prop} {N f i : Nat} {zU listed' : Array Bool} {s s' : St} {o : Oper}
def AY (P:Program)(k:Nat)(ops:Array Oper)(Q:Exit->St->Prop)(N f:Nat)(zU:Array Bool)(s:St):Prop:=
 s.n=N/\∀F0 os0 w0 F os a w,Rel F os s a w->Ext F0 os0 w0 F os w k->wpAnyH P .any ops (Rh k Q F0 os0 w0) (SF F0 w0) f zU a w
def fb (P:Program)(k:Nat)(ops:Array Oper)(Q:Exit->St->Prop)(N f:Nat)(zU:Array Bool)(s:St)(i:Nat):Prop:=
 ∀F0 os0 w0 F os a w,Rel F os s a w->Ext F0 os0 w0 F os w k->wpOp P ops (Rh k Q F0 os0 w0) i (λa' w'=>SF F0 w0 w'/\wpAnyH P .any ops (Rh k Q F0 os0 w0) (SF F0 w0) f (zU.setIfInBounds i true) a' w') a w
def lV (P:Program)(k:Nat)(ops:Array Oper)(Q:Exit->St->Prop)(N f:Nat)(zU:Array Bool)(s:St):List Nat->Prop
 | []=>True
 | i::r=>fb P k ops Q N f zU s i/\lV P k ops Q N f zU s r
theorem lV.get:∀{l:List Nat},lV P k ops Q N f zU s l->∀i∈l,fb P k ops Q N f zU s i
 | j::r,h,i,hi=>by
  rcases uz.1 hi with rfl|hi
  ·exact h.1
  ·exact lV.get h.2 i hi
theorem AY.all (rs:List Nat)(hn:s.n=N)(hr:Region.ready .any ops zU=rs)(hne:rs≠[])(h:lV P k ops Q N f zU s rs):AY P k ops Q N (f+1) zU s:=
 ⟨hn,λF0 os0 w0 F os a w hrel he=>wpAnyH_all hr hne λi hi=>h.get i hi F0 os0 w0 F os a w hrel he⟩
theorem DQ (hn:s.n=N)(hr:Region.ready .any ops zU=[])(h:Q .normal s):AY P k ops Q N f zU s:=
 ⟨hn,λ_ _ _ F os a w hrel he=>wpAnyH_done hr ⟨s,F,os,⟨rfl,h⟩,hrel,he⟩ f⟩
theorem LZ (hw:Wk k s s')(h:AY P k ops Q N f zU s')(hn:s.n=N):AY P k ops Q N f zU s:=
 ⟨hn,λF0 os0 w0 F os a w hrel he=>by
  obtain⟨F1,os1,h1,e1⟩:=hw F os a w hrel;exact h.2 F0 os0 w0 F1 os1 a w h1 (he.trans e1)⟩
theorem PC (h:zU=listed')(ha:AY P k ops Q N f zU s):AY P k ops Q N f listed' s:=h▸ha
theorem D7 (h :∀A:Nat->Array Bool->St->Prop,(∀f l s,A f l s↔AY P k ops Q N f l s)->A f zU s):AY P k ops Q N f zU s:=
 h (AY P k ops Q N) (λ_ _ _=>Iff.rfl)
theorem fb.of (ho:ops[i]?=some o)(hg:RM o i=true)(hd:(ops.toList.all λo=>DK s.n o.dst)=true)
  (h:AO P k (ops.extract 0 (i+1)) (λe s'=>e=.normal/\AY P k ops Q N f (zU.setIfInBounds i true) s') ((ops.toList.take i).map (·.dst)) [o] s):fb P k ops Q N f zU s i:=by
 intro F0 os0 w0 F os a w hrel he;have hi:i<ops.size:=(vR.1 ho).1;have hex:∀j,(ops.extract 0 (i+1))[j]?=if j<i+1 then ops[j]? else none:=λj=>by
  rw[Array.getElem?_extract];split<;>split<;>simp_all<;>omega
 have h1:=h (λj=>by
   have hlen:((ops.toList.take i).map (·.dst)).length=i:=by simp;omega
   rw[hlen,hex];cases j with
   | zero=>simp[ho]
   | succ j=>rw[uY (by omega)];simp) (λj d hj=>by
   simp only[uP,vN]at hj;split at hj
   ·rw[hex,uX (by omega)];simpa using hj
   ·cases hj) (λo' ho'=>by
   obtain⟨j,hj⟩:=vF.1 ho';rw[wA,hex]at hj;split at hj
   ·exact uS.1 hd o' (uL (i:=j) (by simpa using hj))
   ·cases hj) F os a w hrel (λe a' w'=>e=.normal/\SF F0 w0 w'/\wpAnyH P .any ops (Rh k Q F0 os0 w0) (SF F0 w0) f (zU.setIfInBounds i true) a' w') (by
   rintro e a' w' ⟨s',F',os',⟨rfl,hax⟩,hr',he'⟩;exact⟨rfl,(he.trans he').Jx,hax.2 F0 os0 w0 F' os' a' w' hr' (he.trans he')⟩)
 have hy:Region.wanted o (yielded (ops.extract 0 (i+1)) a.tmps)=Region.wanted o (yielded ops a.tmps):=by
  unfold Region.wanted;unfold RM at hg;cases hgd:o.guard with
  | none=>rfl
  | some p=>
   obtain⟨j,want⟩:=p;rw[hgd]at hg;simp only[uj]at hg;simp only[yielded,hex,uX hg]
 unfold wpList at h1;unfold wpOp;simp only[ho];rw[hy]at h1;split at h1
 ·rename_i hw;rw[uX hw];rcases h1 with h1|⟨_,a1,w1,h1,_⟩
  ·refine .inl (Oper.wp_mono (λa' w' h'=>?_) (WM (λc a' w' h'=>?_) (λh'=>?_) h1))
   ·exact h'.2
   ·exact nomatch h'.1
   ·obtain⟨_,_,h2,_⟩:=h';exact nomatch h2
  ·exact nomatch h1
 ·rename_i hw;rw[uY hw];exact h1.2
theorem S0 (i:Nat){v:AV}(hn:s.n=N)(ho:ops[i]?=some o)(hs:Region.noSelect ops=true)(hf:Region.free .any ops zU i=true)(hr:(Region.ready .any ops zU).contains i=true)(hd:DK s.n o.dst=true)(hh:Pd P s o v)
  (h:AY P k ops Q N f (zU.setIfInBounds i true) (s.put o.dst v)):AY P k ops Q N (f+1) zU s:=
 ⟨hn,λF0 os0 w0 F os a w hrel he=>by
  obtain⟨hg,hh⟩:=hh;obtain⟨u,hu,hv⟩:=hh F os a w hrel;refine wpAnyH_take ho hs hf hr (λc a w ⟨_,_,_,hp,_⟩=>nomatch hp.1) (.inl ⟨by unfold Region.wanted;rw[hg],λw' _=>hu w'⟩) he.Jx ?_;exact h.2 F0 os0 w0 F os _ w (hrel.put hd hv) he⟩
def AZ (P:Program)(k:Nat)(ops:Array Oper)(Q:Exit->St->Prop)(N f:Nat)(zU:Array Bool)(s:St):Prop:=
 s.n=N/\∀F os a w,Rel F os s a w->wpAnyH P .any ops (Rh k Q F os w) (SF F w) f zU a w
theorem FQ {f':Nat}(hf:f=f')(hl:zU=listed')(h:AZ P k ops Q N f' listed' s):AZ P k ops Q N f zU s:=hf▸hl▸h
theorem FE (h:AY P k ops Q N f zU s):AZ P k ops Q N f zU s:=
 ⟨h.1,λF os a w hr=>h.2 F os w F os a w hr (Ext.refl F os w k)⟩
theorem Ci {id:Nat}(hm:P.follows .mixedOrders=true)(h:AZ P k ops Q s.n ops.size (Array.replicate ops.size false) s):AW P k (.region id ops true) Q s:=by
 intro F os a w hr;obtain⟨hr1,he1⟩:=hr.drew (k:=k);refine yv (wp_region_held hm (h.2 F os a w.drew hr1)) ?_;rintro e a' w' ⟨s',F',os',⟨rfl,hq⟩,h1,h2⟩;exact⟨s',F',os',hq,h1,he1.trans h2⟩
def R6 (P:Program)(s:St)(o:Oper)(v:AV):Prop:=
 o.guard=none/\∀F os a w,Rel F os s a w->∃u,(∀w',SF F w w'->(execOp a.eval o).run P w'=.ok (.value u) w')/\Ae F w os v u
theorem Au {v:AV}(h:Pd P s o v):R6 P s o v:=⟨h.1,λF os a w hr=>let ⟨u,h1,h2⟩:=h.2 F os a w hr;⟨u,λw' _=>h1 w',h2⟩⟩
theorem AZ.hoist (i:Nat){v:AV}(hn:s.n=N)(ho:ops[i]?=some o)(hs:Region.noSelect ops=true)(hf:Region.free .any ops zU i=true)(hr:(Region.ready .any ops zU).contains i=true)(hd:DK s.n o.dst=true)(hh:R6 P s o v)
  (h:AZ P k ops Q N f (zU.setIfInBounds i true) (s.put o.dst v)):AZ P k ops Q N (f+1) zU s:=
 ⟨hn,λF os a w hrel=>by
  obtain⟨hg,hh⟩:=hh;obtain⟨u,hu,hv⟩:=hh F os a w hrel;refine wpAnyH_take ho hs hf hr (λc a w ⟨_,_,_,hp,_⟩=>nomatch hp.1) (.inl ⟨by unfold Region.wanted;rw[hg],hu⟩) (λ_ _=>rfl) ?_;exact h.2 F os _ w (hrel.put hd hv)⟩
end
section
variable {P : Program} {n : Nat} {e : Nat -> AV} {st : List Row} {t : Tmp} {ty : TypeId} {ps : String} {ed : Array Edge} {x : Operand}
theorem GH {off off' j f:Nat}{tt:TypeId}{cs:List AV}(hf:G7 P tt f=some j)(h:St.ev ⟨n,e,st⟩ x=.Bj cs off)(ho:off+j=off'):Pd P ⟨n,e,st⟩ ⟨some t,.fieldAddr tt x f,ty,ps,ed,none⟩ (.Bj cs off'):=
 ⟨rfl,λF os a w hr=>by
  subst ho;have h1:=hr.ev x;rw[h]at h1;unfold G7 at hf;split at hf<;>try (cases hf;done)
  rename_i fs hu;split at hf<;>try (cases hf;done)
  rename_i g1 hg;split at hf<;>try (cases hf;done)
  rename_i i1 hi;split at hf
  ·cases hf
  rename_i hz;simp only[uO]at hf;have hrun:∀b off w',(Instr.fieldAt tt (.pointer (some ⟨b,off,none⟩)) f).run P w'=.ok (.pointer (some ⟨b,off+j,none⟩)) w':=λb off w'=>by
   simp[Instr.fieldAt,vn hu,hg,Instr.sureAddr,fieldPlace,sizeOf,typeInfo,hi,hz,DM,hf]
  simp only[Ae]at h1;obtain⟨b,o',e2,hb,hc⟩:=h1;refine⟨.pointer (some ⟨b,o'+off+j,none⟩),λw'=>?_,?_⟩
  ·simp[execOp,e2,hrun]
  ·simp only[Ae];exact⟨b,o',by rw[wZ],hb,hc⟩⟩
theorem Ge {off sz:Nat}{tt:TypeId}{cs:List AV}{c:AV}(hti:DJ P tt=some (false,sz))(h:St.ev ⟨n,e,st⟩ x=.Bj cs off)(hc:cs[off]?=some c):R6 P ⟨n,e,st⟩ ⟨some t,.load tt x,ty,ps,ed,none⟩ c:=
 ⟨rfl,λF os a w hr=>by
  have h1:=hr.ev x;rw[h]at h1;simp only[Ae]at h1;obtain⟨b,o',e2,hb,hcs⟩:=h1;obtain⟨d,i,hud,hi,e1,e3⟩:=LG hti;obtain⟨u,hu1,hu2,hu3⟩:=OD (os:=os) hcs off c hc;refine⟨u,λw' hw'=>?_,hu3⟩;have hag:=Nr (w:=w') hud;rw[<- e1]at hag;have hcell:w'.cell? ⟨b,o'+off,none⟩=some u:=by rw[<- hu1];exact xJ (hw' b hb)
  simp[execOp,e2,Instr.loadAt,Instr.sureAddr,loadVar,hag,hcell]⟩
theorem Hc {off sz:Nat}{tt:TypeId}{cs:List AV}{c:AV}(hti:DJ P tt=some (true,sz))(h:St.ev ⟨n,e,st⟩ x=.Bj cs off)(hl:off+sz<=cs.length)(hc:.agg ((cs.drop off).take sz)=c):R6 P ⟨n,e,st⟩ ⟨some t,.load tt x,ty,ps,ed,none⟩ c:=
 ⟨rfl,λF os a w hr=>by
  subst hc;have h1:=hr.ev x;rw[h]at h1;simp only[Ae]at h1;obtain⟨b,o',e2,hb,hcs⟩:=h1;obtain⟨d,i,hud,hi,e1,e3⟩:=LG hti;have hx:=OD (os:=os) hcs;have hch:∃f:Nat->Value,∀j,j<sz->w.cell? ((⟨b,o'+off,none⟩:Addr).add j)=some (f j)/\∀c,cs[off+j]?=some c->Ae F w os c (f j):=
   ⟨λj=>(w.cell? ((⟨b,o'+off,none⟩:Addr).add j)).getD undef,λj hj=>by
    have hlt:off+j<cs.length:=by omega
    obtain⟨u,hu1,_,hu2⟩:=hx (off+j) cs[off+j] (uQ hlt);have hu1':w.cell? ((⟨b,o'+off,none⟩:Addr).add j)=some u:=by rw[DM,<- hu1,wZ]
    simp only[hu1',wq];refine⟨uM,λc hc=>?_⟩;rw[uQ hlt,uO]at hc;exact hc▸hu2⟩
  obtain⟨f,hf⟩:=hch;refine⟨.agg ((List.range sz).map f).toArray,λw' hw'=>?_,?_⟩
  ·have hag:=Nr (w:=w') hud;rw[<- e1]at hag;have hsz:(sizeOf tt).run P w'=.ok i.size w':=by simp[sizeOf,typeInfo,hi]
   have hlc:=run_loadCells (P:=P) w' ⟨b,o'+off,none⟩ sz f (λj hj=>by
    rw[<- (hf j hj).1,DM];exact xJ (hw' b hb))
   simp only at e3;simp[execOp,e2,Instr.loadAt,Instr.sureAddr,loadVar,hag,hsz,<- e3,hlc]
  ·simp only[Ae];refine⟨_,rfl,DZ (by simp;omega) λj c u hc hu=>?_⟩;simp only[vN,vZ]at hc;split at hc
   ·rename_i hj;simp only[uP,wY hj,vY,uO]at hu;subst hu;exact (hf j hj).2 c hc
   ·cases hc⟩
end
section
variable {P : Program} {k : Nat} {α : Type} {l : List α} {enc : α -> List AV}
variable {ops : Array Oper} {Q : Exit -> St -> Prop} {ds : List (Option Tmp)} {r : List Oper} {n : Nat} {e : Nat -> AV} {st st' : List Row} {ty : TypeId} {ps : String} {ed : Array Edge} {v : AV} {gd : Option (Nat × Bool)} {T : TypeId} {x y : Operand} {ag : Bool} {sz id g size off : Nat} {el : TypeId} {cs cs' : List AV} {c : α} {i : Int}
end
end Go.Abs
namespace Go.Abs
open Go
theorem Wk.move {k n:Nat}{e:Nat->AV}{st st':List Row}{id p j g m el size g2 el2 size2:Nat}{xs:List (List AV)}{cs:List AV}(zh:st[id]?=some ⟨g,el,size,xs⟩)(hp:st[p]?=some ⟨g2,el2,size2,[cs]⟩)(hpi:p≠id)(hc:cs[j]?=some (.own id g m))
  (hst:(st.set id ⟨g+1,el,size,[]⟩).set p ⟨g2,el2,size2,[cs.set j (.own st.length 0 m)]⟩++[⟨0,el,size,xs⟩]=st'):Wk k ⟨n,e,st⟩ ⟨n,e,st'⟩:=λF os a w hr=>by
 subst hst;obtain⟨o,ho,hor⟩:=hr.row zh;obtain⟨q,hq,hqr⟩:=hr.row hp;have zp:=hr.rows id o ho;have hqk:=hr.rows p q hq;have hlen:os.length=st.length:=by have:=vI List.length hr.st;simpa using this
 have hil:=(uK.1 ho).1;have hpl:=(uK.1 hq).1
 let o1:Own:=⟨{ o.row with gen:=o.row.gen+1,xs:=[] },none,0,Gb⟩
 let q1:Own:=⟨{ q.row with xs:=[cs.set j (.own st.length 0 m)] },q.Ea,q.cap,q.more⟩
 let o2:Own:=⟨{ o.row with gen:=0 },o.Ea,o.cap,o.more⟩
 have AAD:∀(i:Nat) (oi:Own),(((os.set id o1).set p q1)++[o2])[i]?=some oi->(i≠id/\i≠p/\os[i]?=some oi)∨(i=id/\oi=o1)∨(i=p/\oi=q1)∨(i=os.length/\oi=o2):=λi oi hi=>by
  by_cases h1:i<os.length
  ·rw[uU (by simpa using h1)]at hi;by_cases h2:i=p
   ·subst h2;rw[uV (by simpa using hpl)]at hi;exact .inr (.inr (.inl ⟨rfl,by simpa using hi.symm⟩))
   ·rw[vE (wR h2)]at hi;by_cases h3:i=id
    ·subst h3;rw[uV hil]at hi;exact .inr (.inl ⟨rfl,by simpa using hi.symm⟩)
    ·rw[vE (wR h3)]at hi;exact .inl ⟨h3,h2,hi⟩
  ·rw[ug (by simp;omega)]at hi;simp only[yi]at hi;have:i-os.length<1:=(uK.1 hi).1;have h4:i=os.length:=by omega
   subst h4;simp only[wX,vC,uO]at hi;exact .inr (.inr (.inr ⟨rfl,hi.symm⟩))
 have hnew:(((os.set id o1).set p q1)++[o2])[st.length]?=some o2:=by rw[<- hlen,ug (by simp)];simp
 have hqx:q.row.xs=[cs]:=by rw[hqr]
 have hos:Er os (((os.set id o1).set p q1)++[o2]):=λi oi hi=>by
  have hl:=(uK.1 hi).1;rw[uU (by simpa using hl)];by_cases h2:i=p
  ·subst h2;rw[hq]at hi;cases hi;exact⟨q1,by rw[uV (by simpa using hpl)],uq _,rfl,λ_=>⟨rfl,rfl,by simp[q1,hqx]⟩⟩
  ·rw[vE (wR h2)];by_cases h3:i=id
   ·subst h3;rw[ho]at hi;cases hi;exact⟨o1,by rw[uV hil],by simp[o1],rfl,λe=>by simp[o1]at e⟩
   ·rw[vE (wR h3)];exact⟨oi,hi,uq _,rfl,λ_=>⟨rfl,rfl,rfl⟩⟩
 have AAC:∀x v,Ae F w os x v->Ae F w (((os.set id o1).set p q1)++[o2]) x v:=λx v h=>D8 (λ_ h=>h) (λ_ _=>rfl) os _ hos x v h;have hog:o.row.gen=g:=by rw[hor]
 have hown:∀(i:Nat) (oi:Own) b,(((os.set id o1).set p q1)++[o2])[i]?=some oi->oi.owns b->∃(i':Nat) (oi':Own),os[i']?=some oi'/\oi'.owns b/\((i'=id/\i=os.length)∨(i'≠id/\i=i')):=λi oi b hi hb=>by
  rcases AAD i oi hi with ⟨h1,h2,h3⟩|⟨rfl,rfl⟩|⟨rfl,rfl⟩|⟨rfl,rfl⟩
  ·exact⟨i,oi,h3,hb,.inr ⟨h1,rfl⟩⟩
  ·rcases hb with hb|hb
   ·simp[o1]at hb
   ·exact hb.elim
  ·exact⟨i,q,hq,hb,.inr ⟨hpi,rfl⟩⟩
  ·exact⟨id,o,ho,hb,.inl ⟨rfl,rfl⟩⟩
 have h:=hr.Z2 (k:=k) (Gt.refl w none) (by simp) hos (λi oi hi=>by
   rcases AAD i oi hi with ⟨h1,h2,h3⟩|⟨rfl,rfl⟩|⟨rfl,rfl⟩|⟨rfl,rfl⟩
   ·exact .inl ⟨h3,by simp⟩
   ·exact .inr ⟨zp.pos,by simp[o1],by simp[o1],by simp[o1],λb hb=>hb.elim,Fz (by simp[o1])⟩
   ·refine .inr ⟨hqk.pos,λx hx=>?_,λe=>?_,λb hb=>?_,hqk.mo,hqk.deep.keep rfl (λ_ h=>h) rfl (λ_ _=>rfl) (λi' x j' e' s' ys h1 h2=>?_)⟩
    ·simp only[q1,vQ]at hx;subst hx;have h5:=hqk.lens cs (by rw[hqx];simp);refine⟨by simpa using h5.1,λc hcm=>?_⟩;rcases vq hcm with h6|rfl
     ·exact h5.2 c h6
     ·rfl
    ·have h5:=(hqk.none e).1;rw[hqx]at h5;cases h5
    ·obtain⟨e1,cur,e2,e3,e4,e5,e6⟩:=hqk.some b hb;refine⟨e1,cur,e2,e3,by simpa [q1,hqx] using e4,e5,λi' x hx j' c hcj=>?_⟩;have h6:i'<1:=by have:=(uK.1 hx).1;simpa [q1] using this
     obtain rfl:i'=0:=by omega
     simp only[q1,vC,uO]at hx;subst hx;by_cases h7:j'=j
     ·subst h7;rw[uV (uK.1 hc).1,uO]at hcj;subst hcj;obtain⟨u,f1,f2⟩:=e6 0 cs (by rw[hqx];rfl) j' _ hc;refine⟨u,f1,?_⟩;simp only[Ae]at f2⊢;obtain⟨o',ho',_,hsh,f3⟩:=f2;rw[ho]at ho';cases ho';obtain⟨f4,f5⟩:=f3 hog;exact⟨o2,hnew,uq _,hsh,λ_=>⟨f4,f5⟩⟩
     ·rw[vE (wR h7)]at hcj;obtain⟨u,f1,f2⟩:=e6 0 cs (by rw[hqx];rfl) j' c hcj;exact⟨u,f1,AAC _ _ f2⟩
    ·have h6:i'<1:=by have:=(uK.1 h1).1;simpa [q1] using this
     obtain rfl:i'=0:=by omega
     simp only[q1,vC,uO]at h1;subst h1;by_cases h7:j'=j
     ·subst h7;rw[uV (uK.1 hc).1,uO]at h2;cases h2
     ·rw[vE (wR h7)]at h2;exact⟨cs,by rw[hqx];rfl,h2⟩
   ·refine .inr ⟨zp.pos,zp.lens,zp.none,λb hb=>?_,zp.mo,zp.deep.keep rfl (λ_ h=>h) rfl (λ_ _=>rfl) (λi' x j' e' s' ys h1 h2=>⟨x,h1,h2⟩)⟩;obtain⟨e1,cur,e2,e3,e4,e5,e6⟩:=zp.some b hb;exact⟨e1,cur,e2,e3,e4,e5,λi' x hx j' c hcj=>by obtain⟨u,f1,f2⟩:=e6 i' x hx j' c hcj;exact⟨u,f1,AAC _ _ f2⟩⟩)
  (λi j' oi oj b hi hj hbi hbj=>by
   obtain⟨i',oi',e1,e2,e3⟩:=hown i oi b hi hbi;obtain⟨j'',oj',f1,f2,f3⟩:=hown j' oj b hj hbj;have:=hr.inj i' j'' oi' oj' b e1 f1 e2 f2;subst this;omega)
  (λo' ho' b hb=>by
   obtain⟨i,hi⟩:=vF.1 ho';obtain⟨i',oi',e1,e2,_⟩:=hown i o' b hi hb;exact .inr ⟨oi',uL e1,e2⟩)
  (by simp)
 refine⟨F,_,?_,h.2.1⟩;have h1:=h.1;have e1:o1.row=⟨g+1,el,size,[]⟩:=by simp only[o1,hor]
 have e2:q1.row=⟨g2,el2,size2,[cs.set j (.own st.length 0 m)]⟩:=by simp only[q1,hqr]
 have e3:o2.row=⟨0,el,size,xs⟩:=by simp only[o2,hor]
 rw[vx,wb,wb,hr.st,vK,wW,e1,e2,e3]at h1;exact h1
end Go.Abs
namespace Go.Abs
open Go
theorem Wk.pk {k n:Nat}{e:Nat->AV}{st st':List Row}{L:List (Nat×AV)}(sel:List Nat)(hk:sel.take k=List.range k)(hnd:sel.Nodup)(hlt:sel.all (·<st.length)=true)(hp:Ca st sel=st')(hs:SR sel st' st')(h:ME (λt=>L0 sel (e t)) L):
  Wk k ⟨n,e,st⟩ ⟨n,AJ L,st'⟩:=Sm sel hk hnd hlt hp hs h
section
variable {P : Program} {k : Nat} {α : Type} {l : List α} {enc : α -> List AV} {ops : Array Oper} {Q : Exit -> St -> Prop} {ds : List (Option Tmp)} {r : List Oper} {n : Nat} {e : Nat -> AV} {st st' : List Row} {ty : TypeId} {ps : String} {ed : Array Edge} {t : Tmp} {gd : Option (Nat × Bool)} {T : TypeId} {bytes size m : Nat} {el : TypeId} {zz : List AV}
end
end Go.Abs
namespace Go.Abs
open Go
section
variable {P : Program} {k : Nat} {ops : Array Oper} {Q : Exit -> St -> Prop} {ds : List (Option Tmp)} {r : List Oper} {n : Nat} {e : Nat -> AV} {st st' : List Row} {ty : TypeId} {ps : String} {ed : Array Edge} {gd : Option (Nat × Bool)} {T : TypeId} {x y : Operand} {size id g sz : Nat} {el : TypeId} {α : Type} {l : List α} {enc : α -> List AV} {c : α} {i : Int} {v : AV} {cs x0 : List AV} {ag : Bool}
end
end Go.Abs
namespace Go.Abs
open Go
structure MS where
 n:Nat
 e:Nat->AV
 x:Row
 z:List Row
def MS.st (R:List Row)(m:MS):St:=⟨m.n,m.e,m.x::(R++m.z)⟩
def MS.put (m:MS)(d:Option Tmp)(v:AV):MS:=match d with
 | some d=>{ m with e:=EW m.e d v }
 | none=>m
def MS.ev (m:MS)(x:Operand):AV:=St.ev ⟨m.n,m.e,[]⟩ x
inductive Kind where
 | q
 | l (x y:Row)
 | a (row:Row)
def Kind.D:Kind->Row->List Row->Prop
 | .q,_,_=>True
 | .l x0 _,x,_=>x=x0
 | .a _,_,z=>z=[]
section
variable {P : Program} {k : Nat} {ops : Array Oper} {md : Region.Mode} {R : List Row}
end
section
variable {P : Program} {k : Nat} {R : List Row} {ds : List (Option Tmp)} {r : List Oper} {K : MS -> Prop} {n : Nat} {e : Nat -> AV} {x0 : Row} {z0 : List Row} {t : Tmp} {op : Op} {ty : TypeId} {ps : String} {ed : Array Edge} {gd : Option (Nat × Bool)} {v : AV}
end
end Go.Abs
namespace Go.Abs
open Go
def rh (e:Nat->AV):List (Nat×AV)->List AV
 | []=>[]
 | (t,_)::r=>e t::rh e r
def rY:List (Nat×AV)->List AV
 | []=>[]
 | (_,v)::r=>v::rY r
theorem ME.same {e:Nat->AV}:∀{L:List (Nat×AV)},rh e L=rY L->ME e L
 | [],_=>trivial
 | (t,v)::r,h=>by
  simp only[rh,rY,yh]at h;obtain⟨h1,h2⟩:=h;subst h1;exact⟨.rfl,ME.same h2⟩
section
variable {P : Program} {k : Nat} {R : List Row} {ds : List (Option Tmp)} {r : List Oper} {K : MS -> Prop} {n : Nat} {e : Nat -> AV} {x0 : Row} {z0 : List Row} {t : Tmp} {op : Op} {ty : TypeId} {ps : String} {ed : Array Edge} {gd : Option (Nat × Bool)}
end
section
variable {P : Program} {k : Nat} {s : St} {ops : Array Oper} {Q : Exit -> St -> Prop} {ds : List (Option Tmp)} {r : List Oper} {n : Nat} {e : Nat -> AV} {st st' : List Row} {ty : TypeId} {ps : String} {ed : Array Edge} {d : Option Tmp} {v v' : AV} {gd : Option (Nat × Bool)}
variable {f : FuncId} {ars : Array Operand} {ts : Array TypeId} {args args' : List AV} {rows0 rows1 : List Row}
theorem ZS (sel:List Nat)(hg:GO ds gd e)(hb:DP P f=true)(hc:BW P f args' rows0 λr st=>r=v/\st=rows1)(ha:ars.toList.map (St.ev ⟨n,e,st⟩)++[]=args)(hnd:sel.Nodup)(hlt:sel.all (·<st.length)=true)
  (hp:Ca st sel=rows0) (hs:SR sel rows0 rows0) (hf:args.map (L0 sel)=args') (hlen:rows1.length=sel.length) (h1:UN sel st.length rows1 rows1) (h2:UN sel st.length [] []) (hv:bQ sel st.length v=v') (hst':KN sel rows1 0 st=st')
  (hk:AO P k ops Q (ds++[d]) r (St.put ⟨n,e,st'⟩ d v')):AO P k ops Q ds (⟨d,.call ⟨.value (.func f),ars,ts⟩,ty,ps,ed,gd⟩::r) ⟨n,e,st⟩:=
 HG (rows2:=[]) (rows2':=[]) sel hg hb (by simpa using hc) ha hnd hlt hp hs hf hlen h1 h2 hv (by simpa using hst') hk
end
def tm:Nat->Nat->List Bool
 | 0,_=>[]
 | n+1,m=>(m % 2==1)::tm n (m / 2)
def bm (n m:Nat):Array Bool:=⟨tm n m⟩
end Go.Abs
