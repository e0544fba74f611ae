import Derived.Test.YtihdgoiebmfapaaGreatAbsW
import Derived.Lib.AppendZerosOnto
import Derived.OrdersHeld
namespace Go.Abs
open Go
def Pd:AV->Bool
 | .int ..|.bool _|.str _|.zc|.RA|.Q0|.dv ..=>true
 | _=>false
def TA (xs:List (List AV)):Prop:=∀x∈xs,∀c∈x,Pd c=true
theorem YL {F S:Nat->Prop}{w:World}{os:List Own}{c:AV}{u:Value}(hc:Pd c=true)(hd :∀e s ys,c≠.dv e s ys)(h:Ae F w os c u):EZ S w c u:=by
 cases c<;>simp only[Pd,lY]at hc<;>simp only[Ae]at h<;>simp only[EZ]<;>first|exact h|exact absurd rfl (hd _ _ _)
theorem Oc {F S:Nat->Prop}{w:World}{os:List Own}{c:AV}{u:Value}(h:EZ S w c u):Ae F w os c u/\c.kept=true/\Pd c=true:=by
 cases c<;>simp only[EZ]at h
 case dv=>
  refine⟨?_,rfl,rfl⟩;simp only[Ae];rcases h.2 with ⟨_,a,rfl⟩|⟨b,cap,cur,rfl,_⟩<;>exact⟨_,_,_,rfl⟩
 all_goals first|exact h.elim|exact⟨by simp only[Ae];exact h,rfl,rfl⟩
theorem YD {w:World}{cur:Array Value}{D:Nat->Nat->Prop}(rn :∀j j' b,D j b->D j' b->j=j'):∀(x:List AV) (o j0:Nat),(∀(j:Nat) c,x[j]?=some c->∃u,cur[o+j]?=some u/\EZ (D (j0+j)) w c u)->
  LF (λb=>∃j,j0<=j/\D j b) w x cur o
 | [],_,_,_=>by simp[LF]
 | c::r,o,j0,h=>by
  simp only[LF];obtain⟨u,h1,h2⟩:=h 0 c rfl;refine⟨D j0,λb=>∃j,j0+1<=j/\D j b,λb hb=>⟨j0,ll _,hb⟩,λb ⟨j,hj,hb⟩=>⟨j,by omega,hb⟩,λb hb ⟨j,hj,rM⟩=>by have:=rn _ _ _ hb rM;omega,⟨u,h1,h2⟩,?_⟩;exact YD rn r (o+1) (j0+1) λj c hc=>by
   obtain⟨u,h1,h2⟩:=h (j+1) c (by simpa using hc);exact⟨u,by rw[<- h1];congr 1;omega,by rw[show j0+1+j=j0+(j+1) by omega];exact h2⟩
theorem Xt {w:World}{cur:Array Value}{size:Nat}{D:Nat->Nat->Nat->Prop}(rn :∀i j i' j' b,D i j b->D i' j' b->i=i'/\j=j'):∀(xs:List (List AV)) (o i0:Nat),(∀x∈xs,x.length=size)->
  (∀(i:Nat) x,xs[i]?=some x->∀(j:Nat) c,x[j]?=some c->∃u,cur[o+i*size+j]?=some u/\EZ (D (i0+i) j) w c u)->LK (λb=>∃i j,i0<=i/\D i j b) w xs cur o
 | [],_,_,_,_=>by simp[LK]
 | x::r,o,i0,hs,h=>by
  simp only[LK];refine⟨λb=>∃j,0<=j/\D i0 j b,λb=>∃i j,i0+1<=i/\D i j b,λb ⟨j,_,hb⟩=>⟨i0,j,ll _,hb⟩,λb ⟨i,j,hi,hb⟩=>⟨i,j,by omega,hb⟩,λb ⟨j,_,hb⟩ ⟨i,j',hi,rM⟩=>by have:=(rn _ _ _ _ _ hb rM).1;omega,?_,?_⟩
  ·exact YD (D:=D i0) (λj j' b h1 h2=>(rn _ _ _ _ _ h1 h2).2) x o 0 λj c hc=>by
    obtain⟨u,h1,h2⟩:=h 0 x rfl j c hc;exact⟨u,by rw[<- h1];congr 1;omega,by simpa using h2⟩
  ·rw[hs x (by simp)];exact Xt rn r (o+size) (i0+1) (λx hx=>hs x (by simp[hx])) λi y hy j c hc=>by
    obtain⟨u,h1,h2⟩:=h (i+1) y (by simpa using hy) j c hc;exact⟨u,by rw[<- h1];congr 1;rw[mM];omega,by rw[show i0+1+i=i0+(i+1) by omega];exact h2⟩
theorem Vb {w:World}{cur:Array Value}:∀{x:List AV} {S:Nat->Prop} {o:Nat},LF S w x cur o->∃D:Nat->Nat->Prop,(∀j b,D j b->S b)/\(∀j j' b,D j b->D j' b->j=j')/\
  ∀(j:Nat) c,x[j]?=some c->∃u,cur[o+j]?=some u/\EZ (D j) w c u
 | [],_,_,_=>⟨λ_ _=>False,λ_ _ h=>h.elim,λ_ _ _ h=>h.elim,λj c h=>by simp at h⟩
 | c::r,S,o,h=>by
  simp only[LF]at h;obtain⟨S1,S2,h1,h2,h3,⟨u,h4,h5⟩,h6⟩:=h;obtain⟨D,d1,d2,d3⟩:=Vb h6;refine⟨λj=>match j with|0=>S1|j+1=>D j,λj b hb=>?_,λj j' b hb rM=>?_,λj c' hc=>?_⟩
  ·cases j with
   | zero=>exact h1 b hb
   | succ j=>exact h2 b (d1 j b hb)
  ·cases j with
   | zero=>
    cases j' with
    | zero=>rfl
    | succ j'=>exact absurd (d1 j' b rM) (h3 b hb)
   | succ j=>
    cases j' with
    | zero=>exact absurd (d1 j b hb) (h3 b rM)
    | succ j'=>rw[d2 j j' b hb rM]
  ·cases j with
   | zero=>simp only[mI,lX]at hc;subst hc;exact⟨u,h4,h5⟩
   | succ j=>
    obtain⟨u',g1,g2⟩:=d3 j c' (by simpa using hc);exact⟨u',by rw[<- g1];congr 1;omega,g2⟩
theorem WY {w:World}{cur:Array Value}{size:Nat}:∀{xs:List (List AV)} {S:Nat->Prop} {o:Nat},(∀x∈xs,x.length=size)->LK S w xs cur o->∃D:Nat->Nat->Nat->Prop,(∀i j b,D i j b->S b)/\
  (∀i j i' j' b,D i j b->D i' j' b->i=i'/\j=j')/\∀(i:Nat) x,xs[i]?=some x->∀(j:Nat) c,x[j]?=some c->∃u,cur[o+i*size+j]?=some u/\EZ (D i j) w c u
 | [],_,_,_,_=>⟨λ_ _ _=>False,λ_ _ _ h=>h.elim,λ_ _ _ _ _ h=>h.elim,λi x h=>by simp at h⟩
 | x::r,S,o,hs,h=>by
  simp only[LK]at h;obtain⟨S1,S2,h1,h2,h3,h4,h5⟩:=h;obtain⟨E,e1,e2,e3⟩:=Vb h4;obtain⟨D,d1,d2,d3⟩:=WY (λx hx=>hs x (by simp[hx])) h5;refine⟨λi=>match i with|0=>E|i+1=>D i,λi j b hb=>?_,λi j i' j' b hb rM=>?_,λi y hy j c hc=>?_⟩
  ·cases i with
   | zero=>exact h1 b (e1 j b hb)
   | succ i=>exact h2 b (d1 i j b hb)
  ·cases i with
   | zero=>
    cases i' with
    | zero=>exact⟨rfl,e2 j j' b hb rM⟩
    | succ i'=>exact absurd (d1 i' j' b rM) (h3 b (e1 j b hb))
   | succ i=>
    cases i' with
    | zero=>exact absurd (d1 i j b hb) (h3 b (e1 j' b rM))
    | succ i'=>
     obtain⟨q1,q2⟩:=d2 i j i' j' b hb rM;exact⟨by rw[q1],q2⟩
  ·cases i with
   | zero=>
    simp only[mI,lX]at hy;subst hy;obtain⟨u,g1,g2⟩:=e3 j c hc;exact⟨u,by rw[<- g1];congr 1;omega,g2⟩
   | succ i=>
    obtain⟨u,g1,g2⟩:=d3 i y (by simpa using hy) j c hc;rw[hs x (by simp)]at g1;exact⟨u,by rw[<- g1];congr 1;rw[mM];omega,g2⟩
variable {P : Program} {F : Nat -> Prop} {os : List Own} {s : St} {a : Act} {w : World} {k : Nat}
theorem US {p:Own}(h:MY F w os p)(hd:TA p.row.xs){v:Value}(hv:(p.Fk=none/\∃a,v=.slice a p.row.xs.length 0)∨∃b,p.Fk=some b/\v=.slice (some ⟨b,0,none⟩) p.row.xs.length p.cap):
  EZ p.owns w (.dv p.row.elem p.row.size p.row.xs) v:=by
 simp only[EZ];refine⟨h.pos,?_⟩;rcases hv with ⟨hb,a,rfl⟩|⟨b,hb,rfl⟩
 ·have:=(h.none hb).1;exact .inl ⟨this,a,by rw[this];rfl⟩
 ·obtain⟨_,cur,qt,rA,hle,sc,qw⟩:=h.some b hb;obtain⟨D,d1,d2,d3⟩:=h.deep;refine .inr ⟨b,p.cap,cur,rfl,hle,sc,.inl hb,qt,rA,λx hx=>(h.lens x hx).1,?_⟩;have:=Xt (w:=w) (cur:=cur) (size:=p.row.size) d2 p.row.xs 0 0 (λx hx=>(h.lens x hx).1) (λi x hx j c hc=>by
   simp only[ml];by_cases hdv :∃e s ys,c=.dv e s ys
   ·obtain⟨e,s,ys,rfl⟩:=hdv;exact d3 b hb cur _ _ qt i x j e s ys hx hc
   ·obtain⟨u,g1,g2⟩:=qw i x hx j c hc;exact⟨u,g1,YL (hd x (lT hx) c (lT hc)) (λe s ys e'=>hdv ⟨e,s,ys,e'⟩) g2⟩)
  exact Pq (λc ⟨i,j,_,hc⟩=>⟨.inr (d1 i j c hc),λe=>(h.mo c (d1 i j c hc)).2.2 (by rw[hb,e])⟩) (λ_ _=>rfl) _ _ _ this
theorem Km {id m g gm size sz n i j nn:Nat}{el tI:TypeId}{xs ys:List (List AV)}{x:List AV}{e:Nat->AV}{st st':List Row}(qa:st[id]?=some ⟨g,el,size,xs⟩)(hx:xs[i]?=some x)(hc:x[j]?=some (.own m gm n))
  (hm:st[m]?=some ⟨gm,tI,sz,ys⟩) (hn:n=ys.length) (rC:id≠m) (sw:k<=m) (hd:TA ys) (qx:(st.set id ⟨g,el,size,xs.set i (x.set j (.dv tI sz ys))⟩).set m ⟨gm+1,tI,sz,[]⟩=st') :
  Wk k ⟨nn,e,st⟩ ⟨nn,e,st'⟩:=λF os a w hr=>by
 subst qx;subst hn;obtain⟨o,ho,uK⟩:=hr.row qa;obtain⟨p,hp,xb⟩:=hr.row hm;have qd:=hr.rows id o ho;have xc:=hr.rows m p hp;have qx:os.map Own.row=st:=hr.st;have uL:o.row.xs=xs:=by rw[uK]
 have hpx:p.row.xs=ys:=by rw[xb]
 let o':Own:={ o with row:={ o.row with xs:=xs.set i (x.set j (.dv tI sz ys)) },more:=λb=>o.more b∨p.owns b }
 let p':Own:=⟨{ p.row with gen:=p.row.gen+1,xs:=[] },none,0,Fc⟩
 have rr:i<xs.length:=(lV.1 hx).1;have uD:j<x.length:=(lV.1 hc).1;have wy:=(lV.1 ho).1;have hml:=(lV.1 hp).1;have rn:∀b,o.owns b->¬ p.owns b:=λb h1 h2=>rC (hr.inj id m o p b ho hp h1 h2);have qg:∀(q:Nat) (oq:Own),((os.set id o').set m p')[q]?=some oq->(q≠id/\q≠m/\os[q]?=some oq)∨(q=id/\oq=o')∨(q=m/\oq=p'):=λq oq hq=>by
  by_cases e:q=m
  ·subst e;rw[lp (by simpa using hml),lX]at hq;exact .inr (.inr ⟨rfl,hq.symm⟩)
  ·rw[mG (nK e)]at hq;by_cases e2:q=id
   ·subst e2;rw[lp wy,lX]at hq;exact .inr (.inl ⟨rfl,hq.symm⟩)
   ·rw[mG (nK e2)]at hq;exact .inl ⟨e2,e,hq⟩
 have rS:FN os ((os.set id o').set m p'):=λq oq hq=>by
  by_cases e:q=m
  ·subst e;rw[hp]at hq;cases hq;exact⟨p',lp (by simpa using hml),Nat.le_succ _,rfl,λe=>by simp[p']at e⟩
  ·rw[mG (nK e)];by_cases e2:q=id
   ·subst e2;rw[ho]at hq;cases hq;exact⟨o',lp wy,ll _,rfl,λ_=>⟨rfl,rfl,by simp[o',uL]⟩⟩
   ·rw[mG (nK e2)];exact⟨oq,hq,ll _,rfl,λ_=>⟨rfl,rfl,rfl⟩⟩
 have qi:∀y v,Ae F w os y v->Ae F w ((os.set id o').set m p') y v:=λy v h=>DW (λ_ h=>h) (λ_ _=>rfl) os _ rS y v h;have wz:∀b,o'.owns b->o.owns b∨p.owns b:=λb hb=>by
  rcases hb with hb|hb|hb
  ·exact .inl (.inl hb)
  ·exact .inl (.inr hb)
  ·exact .inr hb
 have hpn:∀b,¬ p'.owns b:=λb hb=>by
  rcases hb with hb|hb
  ·simp[p']at hb
  ·exact hb
 obtain⟨bo,ve⟩ :∃b,o.Fk=some b:=by
  cases hb:o.Fk with
  | none=>have:=(qd.none hb).1;rw[uL]at this;rw[this]at rr;simp at rr
  | some b=>exact⟨b,rfl⟩
 obtain⟨vO,cur,qt,rA,hle,sc,qw⟩:=qd.some bo ve;obtain⟨uv,hu1,su⟩:=qw i x (by rw[uL];exact hx) j _ hc;have huv:(p.Fk=none/\∃a,uv=.slice a p.row.xs.length 0)∨∃b,p.Fk=some b/\uv=.slice (some ⟨b,0,none⟩) p.row.xs.length p.cap:=by
  simp only[Ae]at su;obtain⟨q,hq,_,_,hv⟩:=su;rw[hp]at hq;cases hq;have:=(hv (by rw[xb])).2;rw[hpx]at this⊢;simpa only[nW,pJ,pI] using this
 have hRD:EZ p.owns w (.dv tI sz ys) uv:=by
  have:=US xc (by rw[hpx];exact hd) huv;rw[xb]at this;exact this
 refine⟨F,(os.set id o').set m p',⟨?_,λt=>qi _ _ (hr.env t),hr.size,λq oq hq=>?_,λq q' oq xz b hq wO hb rM=>?_,hr.FR,hr.defers⟩,⟨rfl,rfl,rfl,ll _,λ_ h=>h,λ_ _=>rfl,λb _ h1 h2=>⟨rfl,h1,λoq hoq hb=>?_⟩,λq oq _ hq=>rS q oq hq⟩⟩
 ·rw[nj,nj,qx];simp only[o',p',uK,xb]
 ·rcases qg q oq hq with ⟨_,_,h⟩|⟨_,rfl⟩|⟨_,rfl⟩
  ·have h0:=hr.rows q oq h;refine⟨h0.pos,h0.lens,h0.none,λb hb=>?_,h0.mo,h0.deep⟩;obtain⟨e1,cur,e2,e3,e4,e5,e6⟩:=h0.some b hb;exact⟨e1,cur,e2,e3,e4,e5,λi' y hy j' c hc=>by obtain⟨u,f1,f2⟩:=e6 i' y hy j' c hc;exact⟨u,f1,qi _ _ f2⟩⟩
  ·refine⟨qd.pos,λy hy=>?_,(λhn=>by simp only[o']at hn;rw[ve]at hn;cases hn),λb hb=>?_,λb hb=>?_,?_⟩
   ·rcases mg hy with hy|rfl
    ·exact qd.lens y (by rw[uL];exact hy)
    ·have h0:=qd.lens x (by rw[uL];exact lT hx);refine⟨by rw[pf];exact h0.1,λc sJ=>?_⟩;rcases mg sJ with h|rfl
     ·exact h0.2 c h
     ·rfl
   ·simp only[o']at hb;rw[ve]at hb;cases hb;refine⟨vO,cur,qt,rA,by simpa [o',uL] using hle,sc,λi' y hy j' c tV=>?_⟩;simp only[o']at hy⊢;by_cases hi:i'=i
    ·subst hi;rw[lp rr,lX]at hy;subst hy;by_cases hj:j'=j
     ·subst hj;rw[lp uD,lX]at tV;subst tV;exact⟨uv,hu1,(Oc hRD).1⟩
     ·rw[mG (nK hj)]at tV;obtain⟨u,f1,f2⟩:=qw i' x (by rw[uL];exact hx) j' c tV;exact⟨u,f1,qi _ _ f2⟩
    ·rw[mG (nK hi)]at hy;obtain⟨u,f1,f2⟩:=qw i' y (by rw[uL];exact hy) j' c tV;exact⟨u,f1,qi _ _ f2⟩
   ·rcases hb with hb|hb
    ·exact qd.mo b hb
    ·exact⟨xc.nF hb,xc.lt hb,λe=>rn b (.inl e) hb⟩
   ·obtain⟨D,d1,d2,d3⟩:=qd.deep;refine⟨λi' j' b=>if i'=i/\j'=j then p.owns b else D i' j' b,λi' j' b hb=>?_,λi1 j1 i2 j2 b h1 h2=>?_,λb hb uF el2 l rP i' y j' e2 s2 zs hy tV=>?_⟩
    ·simp only at hb;split at hb
     ·exact .inr hb
     ·exact .inl (d1 i' j' b hb)
    ·simp only at h1 h2;split at h1<;>split at h2
     ·rename_i q1 q2;exact⟨q1.1.trans q2.1.symm,q1.2.trans q2.2.symm⟩
     ·exact absurd h1 (rn b (.inr (d1 _ _ _ h2)))
     ·exact absurd h2 (rn b (.inr (d1 _ _ _ h1)))
     ·exact d2 _ _ _ _ _ h1 h2
    ·simp only[o']at hb hy⊢;rw[ve]at hb;cases hb;rw[qt]at rP;cases rP;by_cases vT:i'=i/\j'=j
     ·obtain⟨rfl,rfl⟩:=vT;rw[lp rr,lX]at hy;subst hy;rw[lp uD,lX]at tV;cases tV;exact⟨uv,hu1,by simpa using hRD⟩
     ·have hold:∃y0,o.row.xs[i']?=some y0/\y0[j']?=some (.dv e2 s2 zs):=by
       rw[uL];by_cases hi:i'=i
       ·subst hi;rw[lp rr,lX]at hy;subst hy;have hj:j'≠j:=λe=>vT ⟨rfl,e⟩;rw[mG (nK hj)]at tV;exact⟨x,hx,tV⟩
       ·rw[mG (nK hi)]at hy;exact⟨y,hy,tV⟩
      obtain⟨y0,xS,sX⟩:=hold;obtain⟨u,f1,f2⟩:=d3 bo ve cur _ _ qt i' y0 j' e2 s2 zs xS sX;exact⟨u,f1,by simpa only[vT,mC] using f2⟩
  ·exact⟨xc.pos,by simp[p'],by simp[p'],by simp[p'],λb hb=>hb.elim,Ew (by simp[p'])⟩
 ·rcases qg q oq hq with ⟨q1,q2,h⟩|⟨rfl,rfl⟩|⟨_,rfl⟩<;>rcases qg q' xz wO with ⟨q1',q2',h'⟩|⟨rfl,rfl⟩|⟨_,rfl⟩
  ·exact hr.inj q q' oq xz b h h' hb rM
  ·rcases wz b rM with e|e
   ·exact hr.inj q _ oq o b h ho hb e
   ·exact absurd (hr.inj q m oq p b h hp hb e) q2
  ·exact absurd rM (hpn b)
  ·rcases wz b hb with e|e
   ·exact hr.inj _ q' o xz b ho h' e rM
   ·exact absurd (hr.inj m q' p xz b hp h' e rM).symm q2'
  ·rfl
  ·exact absurd rM (hpn b)
  ·exact absurd hb (hpn b)
  ·exact absurd hb (hpn b)
  ·exact absurd hb (hpn b)
 ·obtain⟨q,hq⟩:=lv.1 hoq;rcases qg q oq hq with ⟨_,_,h⟩|⟨_,rfl⟩|⟨_,rfl⟩
  ·exact h2 oq (lT h) hb
  ·rcases wz b hb with e|e
   ·exact h2 o (lT ho) e
   ·exact h2 p (lT hp) e
  ·exact hpn b hb
end Go.Abs
namespace Go.Abs
open Go
variable {P : Program} {F : Nat -> Prop} {os : List Own} {s : St} {a : Act} {w : World} {k : Nat}
theorem Y3 {S:Nat->Prop}{el sz:Nat}{ys:List (List AV)}{u:Value}(hS :∀b,S b->¬ F b/\b<w.heap.size)(h:EZ S w (.dv el sz ys) u):
  ∃p:Own,p.row=⟨0,el,sz,ys⟩/\(∀b,p.owns b->S b)/\(∀os,MY F w os p)/\((p.Fk=none/\∃a,u=.slice a ys.length 0)∨∃b,p.Fk=some b/\u=.slice (some ⟨b,0,none⟩) ys.length p.cap):=by
 simp only[EZ]at h;obtain⟨hp,h⟩:=h;rcases h with ⟨rfl,a,rfl⟩|⟨b,cap,cur,rfl,h2,h3,h4,h5,h6,h7,h8⟩
 ·refine⟨⟨⟨0,el,sz,[]⟩,none,0,Fc⟩,rfl,λb hb=>?_,λos=>⟨hp,by simp,by simp,by simp,λb hb=>hb.elim,Ew (by simp)⟩,.inl ⟨rfl,a,rfl⟩⟩;rcases hb with hb|hb
  ·cases hb
  ·exact hb.elim
 ·obtain⟨D,d1,d2,d3⟩:=WY h7 h8;refine⟨⟨⟨0,el,sz,ys⟩,some b,cap,λc=>S c/\c≠b⟩,rfl,λc hc=>?_,λos=>⟨hp,λx hx=>⟨h7 x hx,λc hc=>?_⟩,by simp,λb' rM=>?_,λc hc=>⟨(hS c hc.1).1,(hS c hc.1).2,λe=>hc.2 (by simpa using e.symm)⟩,⟨D,d1,d2,λb' rM uF el2 l rP i x j e s zs hx hc=>?_⟩⟩,.inr ⟨b,rfl,rfl⟩⟩
  ·rcases hc with hc|hc
   ·cases hc;exact h4
   ·exact hc.1
  ·obtain⟨i,hi⟩:=lv.1 hx;obtain⟨j,hj⟩:=lv.1 hc;obtain⟨u,_,g2⟩:=d3 i x hi j c hj;exact (Oc (F:=F) (os:=os) g2).2.1
  ·simp only[lX]at rM;subst rM;refine⟨(hS _ h4).1,cur,h5,h6,h2,h3,λi x hx j c hc=>?_⟩;obtain⟨u,g1,g2⟩:=d3 i x hx j c hc;exact⟨u,by simpa using g1,(Oc g2).1⟩
  ·simp only[lX]at rM;subst rM;rw[h5]at rP;cases rP;obtain⟨u,g1,g2⟩:=d3 i x hx j _ hc;exact⟨u,by simpa using g1,g2⟩
theorem OV {id m g size sz n i j nn:Nat}{el tI:TypeId}{xs ys:List (List AV)}{x:List AV}{e:Nat->AV}{st st':List Row}(qa:st[id]?=some ⟨g,el,size,xs⟩)(hx:xs[i]?=some x)(hc:x[j]?=some (.dv tI sz ys))
  (hm:st.length=m) (hn:n=ys.length) (qx:st.set id ⟨g,el,size,xs.set i (x.set j (.own m 0 n))⟩++[⟨0,tI,sz,ys⟩]=st'):Wk k ⟨nn,e,st⟩ ⟨nn,e,st'⟩:=λF os a w hr=>by
 subst qx;subst hn;subst hm;obtain⟨o,ho,uK⟩:=hr.row qa;have qd:=hr.rows id o ho;have qx:os.map Own.row=st:=hr.st;have hol:os.length=st.length:=by rw[<- qx];simp
 have uL:o.row.xs=xs:=by rw[uK]
 have rr:i<xs.length:=(lV.1 hx).1;have uD:j<x.length:=(lV.1 hc).1;have wy:=(lV.1 ho).1;obtain⟨bo,ve⟩ :∃b,o.Fk=some b:=by
  cases hb:o.Fk with
  | none=>have:=(qd.none hb).1;rw[uL]at this;rw[this]at rr;simp at rr
  | some b=>exact⟨b,rfl⟩
 obtain⟨vO,cur,qt,rA,hle,sc,qw⟩:=qd.some bo ve;obtain⟨D,d1,d2,d3⟩:=qd.deep;obtain⟨uv,hu1,su⟩:=d3 bo ve cur _ _ qt i x j tI sz ys (by rw[uL];exact hx) hc;obtain⟨p,xb,hpo,xc,hpv⟩:=Y3 (F:=F) (λb hb=>⟨(qd.mo b (d1 _ _ _ hb)).1,(qd.mo b (d1 _ _ _ hb)).2.1⟩) su
 let o':Own:={ o with row:={ o.row with xs:=xs.set i (x.set j (.own st.length 0 ys.length)) },more:=λb=>o.more b/\¬ D i j b }
 have qg:∀(q:Nat) (oq:Own),(os.set id o'++[p])[q]?=some oq->(q≠id/\q<os.length/\os[q]?=some oq)∨(q=id/\oq=o')∨(q=os.length/\oq=p):=λq oq hq=>by
  rcases nG q os.length with h|h|h
  ·rw[lj (by simpa using h)]at hq;by_cases e2:q=id
   ·subst e2;rw[lp wy,lX]at hq;exact .inr (.inl ⟨rfl,hq.symm⟩)
   ·rw[mG (nK e2)]at hq;exact .inl ⟨e2,h,hq⟩
  ·subst h;rw[ln (by simp)]at hq;simp at hq;exact .inr (.inr ⟨rfl,hq.symm⟩)
  ·rw[mV (by simp;omega)]at hq;cases hq
 have hpget:(os.set id o'++[p])[st.length]?=some p:=by
  rw[ln (by simp;omega)];simp[hol]
 have rS:FN os (os.set id o'++[p]):=λq oq hq=>by
  have hql:=(lV.1 hq).1;rw[lj (by simpa using hql)];by_cases e2:q=id
  ·subst e2;rw[ho]at hq;cases hq;exact⟨o',lp wy,ll _,rfl,λ_=>⟨rfl,rfl,by simp[o',uL]⟩⟩
  ·rw[mG (nK e2)];exact⟨oq,hq,ll _,rfl,λ_=>⟨rfl,rfl,rfl⟩⟩
 have qi:∀y v,Ae F w os y v->Ae F w (os.set id o'++[p]) y v:=λy v h=>DW (λ_ h=>h) (λ_ _=>rfl) os _ rS y v h;have zQ :∀b,o'.owns b->o.owns b:=λb hb=>by
  rcases hb with hb|hb
  ·exact .inl hb
  ·exact .inr hb.1
 have zR:∀b,p.owns b->o.owns b:=λb hb=>.inr (d1 _ _ _ (hpo b hb));have rn:∀b,o'.owns b->¬ p.owns b:=λb h1 h2=>by
  have h3:=hpo b h2;rcases h1 with h1|h1
  ·exact (qd.mo b (d1 _ _ _ h3)).2.2 h1
  ·exact h1.2 h3
 have wm:Ae F w (os.set id o'++[p]) (.own st.length 0 ys.length) uv:=by
  simp only[Ae];refine⟨p,hpget,mB _,?_,λ_=>⟨by rw[xb];exact ll _,by rw[xb];simpa only[nW,pJ,pI] using hpv⟩⟩;rcases hpv with ⟨_,a,rfl⟩|⟨b,_,rfl⟩<;>exact⟨_,_,_,rfl⟩
 refine⟨F,os.set id o'++[p],⟨?_,λt=>qi _ _ (hr.env t),hr.size,λq oq hq=>?_,λq q' oq xz b hq wO hb rM=>?_,hr.FR,hr.defers⟩,⟨rfl,rfl,rfl,ll _,λ_ h=>h,λ_ _=>rfl,λb _ h1 h2=>⟨rfl,h1,λoq hoq hb=>?_⟩,λq oq _ hq=>rS q oq hq⟩⟩
 ·rw[nI,nj,qx];simp only[o',uK,mF,nV,xb]
 ·rcases qg q oq hq with ⟨_,_,h⟩|⟨_,rfl⟩|⟨_,rfl⟩
  ·have h0:=hr.rows q oq h;refine⟨h0.pos,h0.lens,h0.none,λb hb=>?_,h0.mo,h0.deep⟩;obtain⟨e1,cur,e2,e3,e4,e5,e6⟩:=h0.some b hb;exact⟨e1,cur,e2,e3,e4,e5,λi' y hy j' c hc=>by obtain⟨u,f1,f2⟩:=e6 i' y hy j' c hc;exact⟨u,f1,qi _ _ f2⟩⟩
  ·refine⟨qd.pos,λy hy=>?_,(λhn=>by simp only[o']at hn;rw[ve]at hn;cases hn),λb hb=>?_,λb hb=>qd.mo b hb.1,?_⟩
   ·rcases mg hy with hy|rfl
    ·exact qd.lens y (by rw[uL];exact hy)
    ·have h0:=qd.lens x (by rw[uL];exact lT hx);refine⟨by rw[pf];exact h0.1,λc sJ=>?_⟩;rcases mg sJ with h|rfl
     ·exact h0.2 c h
     ·rfl
   ·simp only[o']at hb;rw[ve]at hb;cases hb;refine⟨vO,cur,qt,rA,by simpa [o',uL] using hle,sc,λi' y hy j' c tV=>?_⟩;simp only[o']at hy⊢;by_cases hi:i'=i
    ·subst hi;rw[lp rr,lX]at hy;subst hy;by_cases hj:j'=j
     ·subst hj;rw[lp uD,lX]at tV;subst tV;exact⟨uv,hu1,wm⟩
     ·rw[mG (nK hj)]at tV;obtain⟨u,f1,f2⟩:=qw i' x (by rw[uL];exact hx) j' c tV;exact⟨u,f1,qi _ _ f2⟩
    ·rw[mG (nK hi)]at hy;obtain⟨u,f1,f2⟩:=qw i' y (by rw[uL];exact hy) j' c tV;exact⟨u,f1,qi _ _ f2⟩
   ·refine⟨λi' j' b=>if i'=i/\j'=j then False else D i' j' b,λi' j' b hb=>?_,λi1 j1 i2 j2 b h1 h2=>?_,λb hb uF el2 l rP i' y j' e2 s2 zs hy tV=>?_⟩
    ·simp only at hb;split at hb
     ·exact hb.elim
     ·rename_i vT;exact⟨d1 i' j' b hb,λh=>vT (d2 _ _ _ _ _ hb h)⟩
    ·simp only at h1 h2;split at h1<;>split at h2<;>first|exact h1.elim|exact h2.elim|exact d2 _ _ _ _ _ h1 h2
    ·simp only[o']at hb hy⊢;rw[ve]at hb;cases hb;rw[qt]at rP;cases rP;have hold:(¬ (i'=i/\j'=j))/\∃y0,o.row.xs[i']?=some y0/\y0[j']?=some (.dv e2 s2 zs):=by
      rw[uL];by_cases hi:i'=i
      ·subst hi;rw[lp rr,lX]at hy;subst hy;by_cases hj:j'=j
       ·subst hj;rw[lp uD,lX]at tV;cases tV
       ·rw[mG (nK hj)]at tV;exact⟨λh=>hj h.2,x,hx,tV⟩
      ·rw[mG (nK hi)]at hy;exact⟨λh=>hi h.1,y,hy,tV⟩
     obtain⟨vT,y0,xS,sX⟩:=hold;obtain⟨u,f1,f2⟩:=d3 bo ve cur _ _ qt i' y0 j' e2 s2 zs xS sX;exact⟨u,f1,by simpa only[vT,mC] using f2⟩
  ·exact xc _
 ·rcases qg q oq hq with ⟨q1,q2,h⟩|⟨rfl,rfl⟩|⟨rfl,rfl⟩<;>rcases qg q' xz wO with ⟨q1',q2',h'⟩|⟨rfl,rfl⟩|⟨rfl,rfl⟩
  ·exact hr.inj q q' oq xz b h h' hb rM
  ·exact hr.inj q _ oq o b h ho hb (zQ b rM)
  ·exact absurd (hr.inj q id oq o b h ho hb (zR b rM)) q1
  ·exact hr.inj _ q' o xz b ho h' (zQ b hb) rM
  ·rfl
  ·exact absurd rM (rn b hb)
  ·exact absurd (hr.inj id q' o xz b ho h' (zR b hb) rM).symm q1'
  ·exact absurd hb (rn b rM)
  ·rfl
 ·obtain⟨q,hq⟩:=lv.1 hoq;rcases qg q oq hq with ⟨_,_,h⟩|⟨_,rfl⟩|⟨_,rfl⟩
  ·exact h2 oq (lT h) hb
  ·exact h2 o (lT ho) (zQ b hb)
  ·exact h2 o (lT ho) (zR b hb)
variable {α β : Type} {l : List α} {enc : α -> List AV}
def hole (l:List α)(enc:α->List AV)(i:Int)(x:List AV):List (List AV):=(l.map enc).set i.toNat x
theorem ae {i:Int}{u:α}{x:List AV}(h:x=enc u):hole l enc i x=(Sh.put l i u).map enc:=by subst h;exact Zf
theorem FI {i:Int}{u:α}{x:List AV}(h:Sh.get l i=some u):(hole l enc i x)[i.toNat]?=some x:=by
 have:=(Sh.get_some h).2.2;have h0:=(Sh.get_some h).1;exact lp (by simp;omega)
theorem Tu {i:Int}{x y:List AV}:(hole l enc i x).set i.toNat y=hole l enc i y:=by unfold hole;rw[List.set_set]
theorem GY {id m g size sz nn j:Nat}{el tI:TypeId}{i:Int}{c:α}{ys:List β}{encY:β->List AV}{x x':List AV}{e:Nat->AV}{st st':List Row}(qa:st[id]?=some ⟨g,el,size,l.map enc⟩)(hi:Sh.get l i=some c)(hx:enc c=x)(hc:x[j]?=some (.dv tI sz (ys.map encY)))
  (hm:st.length=m) (tL:x.set j (.own m 0 ys.length)=x') (qx:st.set id ⟨g,el,size,hole l enc i x'⟩++[⟨0,tI,sz,ys.map encY⟩]=st'):Wk k ⟨nn,e,st⟩ ⟨nn,e,st'⟩:=by
 subst qx;subst tL;subst hx;exact OV qa (CW hi) hc hm (n:=ys.length) (by simp) rfl
theorem Wk.take {id m g gm size sz nn j n:Nat}{el tI:TypeId}{i:Int}{c:α}{ys:List β}{encY:β->List AV}{x x':List AV}{e:Nat->AV}{st st':List Row}(qa:st[id]?=some ⟨g,el,size,hole l enc i x⟩)(hi:Sh.get l i=some c)(hc:x[j]?=some (.own m gm n))
  (hm:st[m]?=some ⟨gm,tI,sz,ys.map encY⟩) (hn:n=ys.length) (rC:id≠m) (sw:k<=m) (hd :∀y,(encY y).all Pd=true) (tL:x.set j (.dv tI sz (ys.map encY))=x') (qx:(st.set id ⟨g,el,size,hole l enc i x'⟩).set m ⟨gm+1,tI,sz,[]⟩=st') :
  Wk k ⟨nn,e,st⟩ ⟨nn,e,st'⟩:=by
 subst qx;subst tL;refine Km qa (FI hi) hc hm (by simpa using hn) rC sw (λy hy c hc=>?_) (by rw[Tu]);obtain⟨z,_,rfl⟩:=mA.1 hy;exact lh.1 (hd z) c hc
theorem SS {id g size nn:Nat}{el:TypeId}{i:Int}{u:α}{x:List AV}{e:Nat->AV}{st st':List Row}(qa:st[id]?=some ⟨g,el,size,hole l enc i x⟩)(hx:x=enc u)(qx:st.set id ⟨g,el,size,(Sh.put l i u).map enc⟩=st'):Wk k ⟨nn,e,st⟩ ⟨nn,e,st'⟩:=by
 rw[ae hx]at qa;have:st.set id ⟨g,el,size,(Sh.put l i u).map enc⟩=st:=by
  obtain⟨h1,h2⟩:=lV.1 qa;rw[<- h2];exact ou h1
 rw[this]at qx;exact Fe qx
section
variable {ops : Array Oper} {Q : Exit -> St -> Prop} {ds : List (Option Tmp)} {r : List Oper} {n : Nat} {e : Nat -> AV} {st st' : List Row} {ty : TypeId} {ps : String} {ed : Array Edge} {t : Tmp} {v : AV} {gd : Option (Nat × Bool)} {T : TypeId} {x y : Operand} {ag : Bool} {sz id g size : Nat} {el : TypeId} {cs : List AV} {c : α} {i : Int}
end
end Go.Abs
namespace Go.Abs
open Go
variable {P : Program} {F : Nat -> Prop} {os : List Own} {s : St} {a : Act} {w : World} {k : Nat}
section
variable {α : Type} {l : List α} {enc : α -> List AV}
variable {ops : Array Oper} {Q : Exit -> St -> Prop} {ds : List (Option Tmp)} {r : List Oper} {n : Nat} {e : Nat -> AV} {st st' : List Row} {ty : TypeId} {ps : String} {ed : Array Edge} {t : Tmp} {T : TypeId} {x y : Operand} {m bytes size : Nat} {el : TypeId} {zz : List AV} {u : α} {j : Int} {kk uT : IntKind}
end
end Go.Abs
namespace Go.Abs
open Go
variable {P : Program} {F : Nat -> Prop} {os : List Own} {s : St} {a : Act} {w : World} {k : Nat}
variable {α β : Type} {l : List α} {enc : α -> List AV}
theorem HC {id g size nn:Nat}{el:TypeId}{i:Int}{c:α}{x:List AV}{e:Nat->AV}{st st':List Row}(qa:st[id]?=some ⟨g,el,size,hole l enc i x⟩)(hi:Sh.get l i=some c)(hx:x=enc c)(qx:st.set id ⟨g,el,size,l.map enc⟩=st'):Wk k ⟨nn,e,st⟩ ⟨nn,e,st'⟩:=by
 have h2:hole l enc i x=l.map enc:=by
  subst hx;unfold hole;have:=CW (enc:=enc) hi;obtain⟨h1,h2⟩:=lV.1 this;rw[<- h2];exact ou h1
 rw[h2]at qa;have:st.set id ⟨g,el,size,l.map enc⟩=st:=by
  obtain⟨h1,h2⟩:=lV.1 qa;rw[<- h2];exact ou h1
 rw[this]at qx;exact Fe qx
end Go.Abs
namespace Go.Abs
open Go
theorem Z4 {α:Type}{l l':List α}{c:α}{b:Nat}(h:Sh.app l [c] b=some l'):Sh.get l' (Sh.len l)=some c:=by
 unfold Sh.app at h;split at h
 ·simp only[lX]at h;subst h;unfold Sh.get Sh.len;rw[ld (oY _)];simp
 ·cases h
section
variable {P : Program} {k : Nat} {α : Type} {l l' : List α} {enc : α -> List AV} {c : α}
variable {ops : Array Oper} {Q : Exit -> St -> Prop} {ds : List (Option Tmp)} {r : List Oper} {n : Nat} {e : Nat -> AV} {st st' : List Row} {ty : TypeId} {ps : String} {ed : Array Edge} {t : Tmp} {gd : Option (Nat × Bool)} {T : TypeId} {x y : Operand} {bytes size id g m q gq size' : Nat} {el tI : TypeId} {zz cs : List AV}
theorem cR (hg:GO ds gd e)(he:Ds P T=some ⟨el,size,bytes,zz⟩)(hx:St.ev ⟨n,e,st⟩ x=.own id g m)(hr:st[id]?=some ⟨g,el,size,l.map enc⟩)(hm:m=l.length)(hy:St.ev ⟨n,e,st⟩ y=.own q gq 1)(hq:st[q]?=some ⟨gq,tI,size',[cs]⟩)
  (rZ:cs.all AV.leaf=true) (sY:cs.length=size) (ha:Sh.app l [c] bytes=some l') (qx:st.set id ⟨g+1,el,size,hole l' enc (Sh.len l) cs⟩=st') (hk:AO P k ops Q (ds++[some t]) r ⟨n,EE e t (.own id (g+1) l'.length),st'⟩) :
  AO P k ops Q ds (⟨some t,.call ⟨.builtin .append,#[x,y],#[T,T]⟩,ty,ps,ed,gd⟩::r) ⟨n,e,st⟩:=by
 subst qx;subst hm;refine My hg ?_;rw[V0];refine⟨rfl,?_⟩;rw[hx,hy];unfold Sh.app at ha;split at ha
 ·rename_i h;simp only[lX]at ha;subst ha;refine Aq _ he (Aq _ hq ⟨rfl,λz hz c hc=>?_,rfl,λz hz=>?_,Aq _ hr ⟨rfl,(ly _).symm,rfl,rfl,by simpa using h.1,by simpa using h.2,?_⟩⟩)
  ·simp only[lu]at hz;subst hz;exact lh.1 rZ c hc
  ·simp only[List.take_one,List.head?_cons,Option.toList_some,lu]at hz;subst hz;exact sY
  ·have e1:(l.map enc).take l.length=l.map enc:=by rw[<- ly (f:=enc) (as:=l),nL]
   have e3:List.map enc l++[cs]=hole (l++[c]) enc (Sh.len l) cs:=by simp[hole,Sh.len]
   simp only[e1,List.take_one,List.head?_cons,Option.toList_some,e3,List.length_singleton];rw[show l.length+1=(l++[c]).length by simp];exact hk
 ·cases ha
end
end Go.Abs
namespace Go.Abs
open Go
variable {P : Program} {F : Nat -> Prop} {os : List Own} {s : St} {a : Act} {w : World} {k : Nat}
def PF (id g:Nat)(xs:List (List AV)):AV->AV
 | .own rL g' n=>if rL=id/\g'=g then (if n=xs.length then .sl (Kc xs) else .E7) else .own rL g' n
 | v=>v
def ah (id g:Nat)(xs:List (List AV)):AV->AV
 | .agg cs=>.agg (cs.map (PF id g xs))
 | .Dd cs=>.Dd (cs.map (PF id g xs))
 | v=>PF id g xs v
theorem Wk.gJ {id:Nat}{row:Row}(tM:k<=id)(qa:s.st[id]?=some row)(hp:TA row.xs):
  Wk k s ⟨s.n,λt=>ah id row.gen row.xs (s.env t),s.st.set id { row with gen:=row.gen+1,xs:=[] }⟩:=λF os a w hr=>by
 obtain⟨o,ho,rfl⟩:=hr.row qa;have qd:=hr.rows id o ho;refine⟨λb=>F b∨o.owns b,os.set id ⟨{ o.row with gen:=o.row.gen+1,xs:=[] },none,0,Fc⟩,?_,?_⟩
 case refine_2=>
  refine⟨rfl,rfl,rfl,ll _,λ_ h=>.inl h,λ_ _=>rfl,λb _ h1 h2=>⟨rfl,λh=>h.elim h1 (λe=>h2 o (lT ho) e),λo' rF=>?_⟩,λi oi hi tE=>⟨oi,?_,ll _,rfl,λ_=>⟨rfl,rfl,rfl⟩⟩⟩
  ·rcases mg rF with h|rfl
   ·exact h2 o' h
   ·intro hh;rcases hh with hh|hh
    ·simp at hh
    ·exact hh
  ·rw[mG (by omega)];exact tE
 have hF:∀b,F b->(λb=>F b∨o.owns b) b:=λ_ h=>.inl h;have rS:FN os (os.set id ⟨{ o.row with gen:=o.row.gen+1,xs:=[] },none,0,Fc⟩):=FN.set ho (by simp) rfl (λe=>by simp at e);have qi:∀x v,Ae F w os x v->Ae (λb=>F b∨o.owns b) w (os.set id ⟨{ o.row with gen:=o.row.gen+1,xs:=[] },none,0,Fc⟩) x v:=λx v h=>
  DW hF (λ_ _=>rfl) os _ rS x v h
 have h1:∀x v,Ae F w os x v->Ae (λb=>F b∨o.owns b) w (os.set id ⟨{ o.row with gen:=o.row.gen+1,xs:=[] },none,0,Fc⟩) (PF id o.row.gen o.row.xs x) v:=λx v h=>by
  cases x with
  | own rL g' n=>
   simp only[PF];split
   ·rename_i yS;obtain⟨rfl,rfl⟩:=yS;split
    ·rename_i vR;subst vR;simp only[Ae]at h;obtain⟨o',rF,_,_,h⟩:=h;rw[ho]at rF;cases rF;obtain⟨_,hv⟩:=h rfl;have hD:=US qd hp (v:=v) (by simpa only[nW,pJ,pI] using hv);have:=(Tq (F:=λb=>F b∨o.owns b) (λb hb=>.inr hb) _ _ hD).1;simp only[PQ,Ae]at this⊢;exact this
    ·simp[Ae]
   ·exact qi _ _ h
  | _=>exact qi _ _ h
 have hL:∀xs us,Bs F w os xs us->Bs (λb=>F b∨o.owns b) w (os.set id ⟨{ o.row with gen:=o.row.gen+1,xs:=[] },none,0,Fc⟩) (xs.map (PF id o.row.gen o.row.xs)) us:=λxs us h=>
  Da (by simp[BZ h]) λi x u hx hu=>by
   simp only[lW,lg]at hx;obtain⟨y,hy,rfl⟩:=hx;obtain⟨u',e1,e2⟩:=CO h i y hy;rw[hu]at e1;cases e1;exact h1 _ _ e2
 have qg:∀(i:Nat) (oi:Own),(os.set id ⟨{ o.row with gen:=o.row.gen+1,xs:=[] },none,0,Fc⟩)[i]?=some oi->(i≠id/\os[i]?=some oi)∨(i=id/\oi=⟨{ o.row with gen:=o.row.gen+1,xs:=[] },none,0,Fc⟩):=λi oi hi=>by
  by_cases e:i=id
  ·subst e;rw[lp (lV.1 ho).1,lX]at hi;exact .inr ⟨rfl,hi.symm⟩
  ·rw[mG (nK e)]at hi;exact .inl ⟨e,hi⟩
 refine⟨by rw[nj,hr.st],λt=>?_,hr.size,λi oi hi=>?_,λi j oi oj b hi hj sK sL=>?_,λb hb=>?_,hr.defers⟩
 ·have:=hr.env t;simp only;generalize s.env t=x at this⊢;cases x with
  | agg cs=>simp only[ah,Ae]at this⊢;obtain⟨us,e,h⟩:=this;exact⟨us,e,hL _ _ h⟩
  | Dd cs=>simp only[ah,Ae]at this⊢;obtain⟨us,e,h⟩:=this;exact⟨us,e,hL _ _ h⟩
  | _=>exact h1 _ _ this
 ·rcases qg i oi hi with ⟨rC,h⟩|⟨_,rfl⟩
  ·have sS:=hr.rows i oi h;refine⟨sS.pos,sS.lens,sS.none,λb hb=>?_,λb hb=>⟨λhF=>hF.elim (sS.mo b hb).1 (λtG=>rC (hr.inj i id oi o b h ho (.inr hb) tG)),(sS.mo b hb).2⟩,sS.deep⟩;obtain⟨e1,cur,e2,e3,e4,e5,e6⟩:=sS.some b hb;refine⟨λhF=>hF.elim e1 (λtG=>rC (hr.inj i id oi o b h ho (.inl hb) tG)),cur,e2,e3,e4,e5,λi' x hx j c hc=>?_⟩;obtain⟨u,f1,f2⟩:=e6 i' x hx j c hc;exact⟨u,f1,qi _ _ f2⟩
  ·exact⟨qd.pos,by simp,by simp,by simp,λb hb=>hb.elim,Ew (by simp)⟩
 ·rcases qg i oi hi with ⟨rC,h⟩|⟨h,rfl⟩<;>rcases qg j oj hj with ⟨wg,h'⟩|⟨h',rfl⟩
  ·exact hr.inj i j oi oj b h h' sK sL
  ·exact sL.elim (λe=>by simp at e) λe=>e.elim
  ·exact sK.elim (λe=>by simp at e) λe=>e.elim
  ·omega
 ·rcases hb with hb|hb|hb
  ·exact hr.FR b hb
  ·obtain⟨_,cur,qt,_⟩:=qd.some b hb;exact (mO.1 qt).1
  ·exact (qd.mo b hb).2.1
variable {α : Type} {l : List α} {enc rz : α -> List AV} {n id g m size : Nat} {e : Nat -> AV} {st st' : List Row} {L : List (Nat × AV)} {el : TypeId} {xs : List (List AV)}
theorem Wv (h:m=l.length)(hu :∀x,Hz (enc x)=rz x):PF id g (l.map enc) (.own id g m)=.sl (l.map rz):=by
 subst h;simp only[PF,and_self,mL,ly];rw[ID,nU];congr 1;exact mH λx _=>hu x
theorem le.PF (h:m=l.length)(hu :∀x,Hz (enc x)=rz x):le (Abs.PF id g (l.map enc) (.own id g m)) (.sl (l.map rz)):=le.of (Wv h hu)
theorem le.ah (h:m=l.length)(hu :∀x,Hz (enc x)=rz x):le (Abs.ah id g (l.map enc) (.own id g m)) (.sl (l.map rz)):=le.of (Wv h hu)
theorem JG (h :∀x,(enc x).all Pd=true):TA (l.map enc):=λx hx c hc=>by
 obtain⟨y,_,rfl⟩:=mA.1 hx;exact lh.1 (h y) c hc
theorem Rk (qa:st[id]?=some ⟨g,el,size,xs⟩)(tM:k<=id)(hp:TA xs)(h:ME (λt=>Abs.ah id g xs (e t)) L)(qx:st.set id ⟨g+1,el,size,[]⟩=st'):Wk k ⟨n,e,st⟩ ⟨n,Aa L,st'⟩:=by
 subst qx;exact (Wk.gJ (s:=⟨n,e,st⟩) tM qa hp).trans (Af h)
end Go.Abs
namespace Go.Abs
open Go
variable {P : Program} {F : Nat -> Prop} {os : List Own} {s : St} {a : Act} {w : World} {k : Nat}
def jL (x:AV):AV:=bif flat x then x else .E7
theorem fT {F':Nat->Prop}{w':World}(hF :∀b,F b->F' b)(hw :∀b,F b->w'.heap[b]?=w.heap[b]?)(os':List Own){x:AV}{v:Value}(h:Ae F w os x v):Ae F' w' os' (jL x) v:=by
  unfold jL;cases hf:flat x with
  | false=>simp[Ae]
  | true=>exact Ji hf os' (DW hF hw [] [] (by simp) x v (Ji hf [] h))
def iA (x:AV):AV:=bif flat x then x else match x with
  | .ptr (id+1) g i off=>.ptr (id+1) g i off
  | _=>.E7
theorem fv {F':Nat->Prop}{w':World}(hF :∀b,F b->F' b)(hw :∀b,F b->w'.heap[b]?=w.heap[b]?){o o':Own}{se:List Own}{x:AV}{v:Value}(h:Ae F w (o::se) x v):Ae F' w' (o'::se) (iA x) v:=by
  unfold iA;cases hf:flat x with
  | true=>exact Ji hf _ (DW hF hw [] [] (by simp) x v (Ji hf [] h))
  | false=>
    cases x<;>simp only[cond_false]<;>try simp[Ae]
    rename_i id g i off;cases id with
    | zero=>simp[Ae]
    | succ id=>
      simp only[Ae,mQ]at h⊢;exact h
theorem SU {P:Program}{ops:Array Oper}{md:Region.Mode}{Q Q':Exit->Act->World->Prop}(hp :∀c a w,Q (.panic c) a w->Q' (.panic c) a w)(vr:LetsOut Q->LetsOut Q')(hn :∀a w,Q .normal a w->Q' .normal a w):
    ∀(fuel:Nat) {qU:Array Bool} {a:Act} {w:World},wpAny P md ops Q fuel qU a w->wpAny P md ops Q' fuel qU a w
  | 0,_,_,_,h=>⟨h.1,hn _ _ h.2⟩
  | fuel+1,qU,a,w,h=>by
    refine⟨λh0=>hn _ _ (h.1 h0),λi hi=>?_⟩;have:=h.2 i hi;unfold wpOp at this⊢;split
    · rename_i ho;simp only[ho]at this;exact SU hp vr hn fuel this
    · rename_i o ho;simp only[ho]at this;split
      · rename_i hw;rw[ld hw]at this;exact this.imp (λh=>Ow hp vr (Oper.wp_mono (λa w h=>SU hp vr hn fuel h) h)) λh=>⟨h.1,vr h.2⟩
      · rename_i hw;rw[la hw]at this;exact SU hp vr hn fuel this
def cy (row tn:Row)(Q:Exit->St->Prop):Exit->St->Prop:=λex s'=>(∃r,s'.st=tn::r)/\Q ex ⟨s'.n,λt=>jL (s'.env t),[row]⟩
theorem Rm {xs:List (List AV)}(hp:EN xs){o:Own}(qd:MY F w os o)(hx:o.row.xs=xs):∀x∈xs,∀c∈x,c.leaf=true:=λx hm c hc=>by
  have h1:=hp x hm c hc;have h2:=(qd.lens x (by rw[hx];exact hm)).2 c hc;cases c<;>simp_all [simple,AV.leaf,AV.kept]
theorem dm {Q:Exit->St->Prop}{o:Own}{se:List Own}{g:Nat}{el:TypeId}{size b0:Nat}{xs ys:List (List AV)}(hp:EN (xs++ys))(qa:o.row=⟨g,el,size,xs⟩)(yb:o.Fk=some b0)(vO:¬ F b0){w1:World}(ht:Hr w w1 (some b0))
    {e:Exit} {a':Act} {w':World} (h:KO 1 (cy ⟨g,el,size,xs⟩ ⟨g,el,size,xs++ys⟩ Q) F (⟨⟨g,el,size,xs++ys⟩,some b0,o.cap,o.more⟩::se) w1 e a' w') (hold :∀b,F b->b<w.heap.size):KO 1 Q F (o::se) w e a' w':=by
  obtain⟨s',F',os',⟨⟨rst',qx⟩,hQ⟩,hR,hE⟩:=h;have rS:∃o' yA,os'=o'::yA/\o'.row=⟨g,el,size,xs++ys⟩:=by
    have:=hR.st;rw[qx]at this;cases os' with
    | nil=>cases this
    | cons o' yA=>
      simp only[mF,oI]at this;exact⟨o',yA,rfl,this.1⟩
  obtain⟨o',yA,rfl,hrow'⟩:=rS;obtain⟨o2,e2,_,_,e3⟩:=hE.UO 0 _ (by omega) rfl;simp only[mI,lX]at e2;subst e2;obtain⟨e4,e5,_⟩:=e3 (by rw[hrow']);dsimp only at e4 e5;have xA:=hR.rows 0 o' rfl;have rZ:=Rm hp xA (by rw[hrow']);have hF:∀b,F b->w1.heap[b]?=w.heap[b]?:=λb hb=>ht.FR b (hold b hb) (λe=>vO (by cases e;exact hb));refine⟨_,F',[{ o' with row:=⟨g,el,size,xs⟩ }],hQ,⟨rfl,λt=>fT (λ_ h=>h) (λ_ _=>rfl) _ (hR.env t),hR.size,λi oi hi=>?_,λi j oi oj b hi hj sK sL=>?_,hR.FR,hR.defers⟩,?_⟩
  · match i,hi with
    | 0,hi=>
      simp only[mI,lX]at hi;subst hi;refine⟨by have:=xA.pos;rw[hrow']at this;exact this,λx hx=>?_,λhn=>(by rw[e4]at hn;cases hn),λb hb=>?_,λb hb=>xA.mo b hb,Ew λx hx c hc=>rZ x (mf _ hx) c hc⟩
      · have:=xA.lens x (by rw[hrow'];exact mf _ hx);rw[hrow']at this;exact this
      · obtain⟨h1,cur,h2,h3,h4,h5,h6⟩:=xA.some b hb;rw[hrow']at h2 h3 h4 h6;refine⟨h1,cur,h2,h3,by simp only[mD]at h4⊢;omega,h5,λi x hx j c hc=>?_⟩;obtain⟨u,f1,f2⟩:=h6 i x (by simp only at hx⊢;rw[lj (lV.1 hx).1];exact hx) j c hc;exact⟨u,f1,Fg (hp x (mf _ (lT hx)) c (lT hc)) _ f2⟩
  · match i,j,hi,hj with
    | 0,0,_,_=>rfl
  · refine⟨hE.sys.trans ht.sys,hE.tape.trans ht.tape,hE.output.trans ht.output,nx ht.size hE.size,hE.NS,λb hb=>(hE.IU b hb).trans (hF b hb),λb hb h1 h2=>?_,λi oi hi tE=>?_⟩
    · have rC:b≠b0:=λe=>h2 o (by simp) (.inl (by rw[e];exact yb));have hnm:¬ o.more b:=λhm=>h2 o (by simp) (.inr hm);obtain⟨f1,f2,f3⟩:=hE.other b (ma hb ht.size) h1 (λq hq tG=>by
        rcases lk.1 hq with rfl|hq
        · rcases tG with tG|tG
          · simp only[lX]at tG;exact rC tG.symm
          · exact hnm tG
        · exact h2 q (by simp[hq]) tG)
      refine⟨f1.trans (ht.FR b hb (λe=>rC (by cases e;rfl))),f2,λq hq tG=>?_⟩;simp only[lu]at hq;subst hq;exact f3 o' (by simp) tG
    · match i,tE with
      | 0,tE=>
        simp only[mI,lX]at tE;subst tE;exact⟨_,rfl,by rw[qa];exact ll _,by rw[qa],λ_=>⟨by rw[yb];exact e4,e5,by rw[qa]⟩⟩
      | _+1,_=>omega
theorem YO {t ty:TypeId}{ei:cM}{g:Nat}{xs:List (List AV)}{ys:List (List AV)}{y:AV}{ux ud:Value}(hr:Rel F os s a w){uW:List Row}(qx:s.st=⟨g,ei.e,ei.size,xs⟩::uW)(zS :∀row∈uW,EN row.xs)(he:Ds P t=some ei)
    (hd:Ae F w os (.own 0 g xs.length) ud) (hx:Ae F w os y ux) (wM:EL s.st y ys) (hys :∀z∈ys,z.length=ei.size) (hp:EN (xs++ys)) (rC:ys≠[]) (hb:(xs.length+ys.length)*ei.bytes<=140737488355328) (hm:xs.length+ys.length<=9223372036854775807) :
    ∃o se u w',os=o::se/\o.row=⟨g,ei.e,ei.size,xs⟩/\(Builtin.append_ #[t,t] ty #[ud,ux]).run P w=.ok u w'/\
      ((∃b0,o.Fk=some b0/\¬ F b0/\Hr w w' (some b0)/\Rel F (⟨⟨g,ei.e,ei.size,xs++ys⟩,some b0,o.cap,o.more⟩::se) ⟨s.n,λt=>iA (s.env t),⟨g,ei.e,ei.size,xs++ys⟩::uW⟩ a w'/\
          u=.slice (some ⟨b0,0,none⟩) (xs.length+ys.length) o.cap)∨
       (∃cap,Rel F (os++[⟨⟨0,ei.e,ei.size,xs++ys⟩,some w.heap.size,cap,Fc⟩]) { s with st:=s.st++[⟨0,ei.e,ei.size,xs++ys⟩] } a w'/\Ext F os w F (os++[⟨⟨0,ei.e,ei.size,xs++ys⟩,some w.heap.size,cap,Fc⟩]) w' k/\
          u=.slice (some ⟨w.heap.size,0,none⟩) (xs.length+ys.length) cap)):=by
  obtain⟨inf,z,hu,hi,hz,tN,rO,rA,hby,_,_⟩:=IS he;obtain⟨sk,h,hys',vQ,⟨ad,c,rfl,hsrc⟩⟩:=VM (size:=ei.size) (K:=λz=>z=ys) hr (wM _ ⟨hys,rfl⟩) hx;subst h;have rS:∃o se,os=o::se/\o.row=⟨g,ei.e,ei.size,xs⟩/\se.map Own.row=uW:=by
    have:=hr.st;rw[qx]at this;cases os with
    | nil=>cases this
    | cons o se=>
      simp only[mF,oI]at this;exact⟨o,se,rfl,this.1,this.2⟩
  obtain⟨o,se,rfl,qa,hros⟩:=rS;have vQ:∀y∈sk,∀c∈y,c.leaf=true:=by
    rcases vQ with e|h
    · exact absurd e rC
    · exact h
  have hylen:0<sk.length:=pG.2 rC;have vg:∃b off,ad=some ⟨b,off,none⟩/\∃us:List Value,us.length=sk.length*inf.size/\(∀(j:Nat) u,us[j]?=some u->w.cell? ((⟨b,off,none⟩:Addr).add j)=some u)/\(∀u∈us,u.oneCell'=true)/\Gh F w (o::se) ei.size us sk:=by
    rcases hsrc with e|⟨b,off,rfl,hc⟩
    · exact absurd e rC
    · obtain⟨us,h1,h2,h3,h4⟩:=QX hys' hc;exact⟨b,off,rfl,us,by rw[h1,rA],h2,h3,h1,λi y hy j c hc=>by obtain⟨u,e1,_,e2⟩:=h4 i y hy j c hc;exact⟨u,e1,e2⟩⟩
  obtain⟨b,off,rfl,us,uH,rQ,vo,hrep⟩:=vg;have qd:=hr.rows 0 o rfl;have hxlf:=Rm (xs:=xs) (λx hx=>hp x (mf _ hx)) qd (by rw[qa]);have rh:∀x∈xs++sk,x.length=ei.size/\∀c∈x,c.leaf=true:=λx hx=>by
    rcases lz.1 hx with h|h
    · have:=(qd.lens x (by rw[qa];exact h)).1;rw[qa]at this;exact⟨this,hxlf x h⟩
    · exact⟨hys' x h,vQ x h⟩
  have ye:∀(cap:Nat) (rl:List Value),Gh F w (o::se) ei.size rl xs->xs.length+sk.length<=cap->cap<=maxLen->
      Rel F ((o::se)++[⟨⟨0,ei.e,ei.size,xs++sk⟩,some w.heap.size,cap,Fc⟩]) { s with st:=s.st++[⟨0,ei.e,ei.size,xs++sk⟩] } a (w.drew.alloc (.cells (rl.toArray++us.toArray++Builtin.zeroCells z.cells (cap-(xs.length+sk.length))) ei.e))/\
      Ext F (o::se) w F ((o::se)++[⟨⟨0,ei.e,ei.size,xs++sk⟩,some w.heap.size,cap,Fc⟩]) (w.drew.alloc (.cells (rl.toArray++us.toArray++Builtin.zeroCells z.cells (cap-(xs.length+sk.length))) ei.e)) k:=λcap rl hold te sc=>by
    obtain⟨e1,e2⟩:=OX (F:=F) (w:=w) (os:=o::se) (z:=z) (size:=ei.size) (n:=xs.length) (m:=sk.length) (cap:=cap) (by rw[tN,rA]) rfl rfl hold hrep te;have:=hr.Om (k:=k) (.inr rfl) (cur:=_) (e:=ei.e) (size:=ei.size) (cap:=cap) (xs:=xs++sk) (by omega) rh e1 (by simpa using te) sc (λi x hx j c hc=>e2 i x hx j c hc);exact⟨this.1,this.2.1⟩
  have tw:=grownCap_ge w (xs.length+sk.length);have wo:=ob w (xs.length+sk.length);simp only[Ae]at hd;obtain⟨o',rF,_,_,hd⟩:=hd;simp only[mI,lX]at rF;subst rF;obtain⟨_,hd⟩:=hd (by rw[qa]);rw[qa]at hd;simp only[nW,pJ,pI]at hd;rcases hd with ⟨vH,a0,rfl⟩|⟨b0,Js,rfl⟩
  · have vR:=(qd.none vH).1;rw[qa]at vR;dsimp only at vR;subst vR;have qz:(Builtin.append_ #[t,t] ty #[.slice a0 0 0,.slice (some ⟨b,off,none⟩) sk.length c]).run P w=.ok (.slice (some ⟨w.heap.size,0,none⟩) (0+sk.length) (grownCap w (0+sk.length) 0 ei.e))
        (w.drew.alloc (.cells (([]:List Value).toArray++us.toArray++Builtin.zeroCells z.cells (grownCap w (0+sk.length) 0 ei.e-(0+sk.length))) ei.e)):=by
      cases a0 with
      | none=>
        have:=run_append_nil (P:=P) w t ty ei.e inf z hu hi hz ⟨b,off,none⟩ sk.length c us uH rQ (by omega) (by simp at hm;omega) (by rw[<- hby];simp at hb;omega);simpa using this
      | some a0=>
        have:=oX (P:=P) w t ty ei.e inf z hu hi hz a0 0 0 [] (by simp) (by simp) ⟨b,off,none⟩ sk.length c us uH rQ (by omega) (by omega) (oh (by simp at hm;omega) (by rw[<- hby];simpa using hb));simpa using this
    have vq:=ye (grownCap w (0+sk.length) 0 ei.e) [] (by simp[Gh]) (by simpa using tw 0 ei.e) (by simpa using wo 0 ei.e (by simp[maxLen]at hm⊢;omega));exact⟨o,se,_,_,rfl,qa,qz,.inr ⟨_,vq.1,vq.2,rfl⟩⟩
  · obtain⟨vO,cur,qt,sY,xR,vh,qw⟩:=qd.some b0 Js;rw[qa]at qt sY xR qw;dsimp only at qt sY xR qw;by_cases hroom:xs.length+sk.length<=o.cap
    · have sB:xs.length*inf.size+us.length<=cur.size:=by rw[uH,sY,rA,<- mM];exact mP _ hroom
      have qz:=run_append_room (P:=P) w t ty ei.e inf hu hi b0 xs.length o.cap cur qt ⟨b,off,none⟩ sk.length c us uH rQ vo hroom sB;have hT:=Hr.setRow w b0 (cur.toList.take (xs.length*inf.size)++us++cur.toList.drop (xs.length*inf.size+us.length)).toArray;have hF:∀g,F g->(w.setRow b0 (cur.toList.take (xs.length*inf.size)++us++cur.toList.drop (xs.length*inf.size+us.length)).toArray).heap[g]?=w.heap[g]?:=λg hg=>hT.FR g (hr.FR g hg) (λe=>vO (by cases e;exact hg));refine⟨o,se,_,_,rfl,qa,qz,.inl ⟨b0,Js,vO,hT,⟨by simp only[mF,hros],λt=>fv (λ_ h=>h) hF (hr.env t),hr.size,λi oi hi=>?_,λi j oi oj b hi hj sK sL=>?_,λg hg=>ma (hr.FR g hg) hT.size,hr.defers⟩,rfl⟩⟩
      · match i,hi with
        | 0,hi=>
          simp only[mI,lX]at hi;subst hi;have sJ:∀c u,simple c=true->Ae F w (o::se) c u->∀os',Ae F (w.setRow b0 (cur.toList.take (xs.length*inf.size)++us++cur.toList.drop (xs.length*inf.size+us.length)).toArray) os' c u:=λc u hc h os'=>
            Fg hc os' (DW (λ_ h=>h) hF [] [] (by simp) c u (Fg hc [] h))
          refine⟨by have:=qd.pos;rw[qa]at this;exact this,λx hx=>⟨(rh x hx).1,λc hc=>D4 ((rh x hx).2 c hc)⟩,λhn=>(by cases hn),λb' rM=>?_,λg hg=>⟨(qd.mo g hg).1,by simpa using (qd.mo g hg).2.1,by rw[<- Js];exact (qd.mo g hg).2.2⟩,Ew λx hx c hc=>(rh x hx).2 c hc⟩;simp only[lX]at rM;subst rM;refine⟨vO,_,pT w b0 cur _ _ _ qt,?_,by simpa using hroom,vh,λi y hy j c hc=>?_⟩
          · simp only[oL,mD,nq,oE,nt]at sB⊢;rw[<- sY];omega
          · simp only at hy⊢;rw[KP sB];by_cases rY:i<xs.length
            · rw[lj rY]at hy;obtain⟨u,f1,f2⟩:=qw i y hy j c hc;have uD:j<ei.size:=by rw[<- (rh y (mf _ (lT hy))).1];exact (lV.1 hc).1
              have:(i+1)*ei.size<=xs.length*ei.size:=mP _ rY;rw[mM]at this;refine⟨u,?_,sJ c u (hp y (mf _ (lT hy)) c (lT hc)) f2 _⟩;rw[ld (by rw[<- rA];omega)];exact f1
            · rw[ln (by omega)]at hy;obtain⟨u,f1,f2⟩:=hrep.2 _ y hy j c hc;refine⟨u,?_,sJ c u (hp y (nm _ (lT hy)) c (lT hc)) f2 _⟩;have qu:=(lV.1 f1).1;have h3:xs.length*ei.size<=i*ei.size:=mP _ (by omega);rw[Nat.sub_mul]at f1 qu;rw[la (by rw[<- rA];omega),ld (by rw[<- rA];omega),<- f1];congr 1;rw[<- rA];omega
        | i+1,hi=>
          simp only[mQ]at hi;have tE:=hr.rows (i+1) oi (by simpa using hi);have hpi:EN oi.row.xs:=zS oi.row (by rw[<- hros];exact nC (lT hi));have hlfi:=Rm hpi tE rfl;have hni:∀b,oi.owns b->b≠b0:=λb hb e=>by
            have:=hr.inj (i+1) 0 oi o b (by simpa using hi) rfl hb (.inl (by rw[e];exact Js));omega
          refine⟨tE.pos,tE.lens,tE.none,λb hb=>?_,λb hb=>⟨(tE.mo b hb).1,ma (tE.mo b hb).2.1 hT.size,(tE.mo b hb).2.2⟩,Ew hlfi⟩;obtain⟨f1,uF,f2,f3,f4,f5,f6⟩:=tE.some b hb;refine⟨f1,uF,?_,f3,f4,f5,λi' x hx j c hc=>?_⟩
          · rw[hT.FR b (tE.lt (.inl hb)) (λe=>hni b (.inl hb) (by cases e;rfl))];exact f2
          · obtain⟨u,g1,g2⟩:=f6 i' x hx j c hc;have tl:=hpi x (lT hx) c (lT hc);exact⟨u,g1,Fg tl _ (DW (λ_ h=>h) hF [] [] (by simp) c u (Fg tl [] g2))⟩
      · have key:∀(i:Nat) oi b,((⟨⟨g,ei.e,ei.size,xs++sk⟩,some b0,o.cap,o.more⟩:Own)::se)[i]?=some oi->oi.owns b->∃vx,(o::se)[i]?=some vx/\vx.owns b:=λi oi b hi hb=>by
          cases i with
          | zero=>
            simp only[mI,lX]at hi;subst hi;exact⟨o,rfl,hb.imp (λhb=>by rw[Js];exact hb) id⟩
          | succ i=>exact⟨oi,hi,hb⟩
        obtain⟨vx,q1,q2⟩:=key i oi b hi sK;obtain⟨oj',q3,q4⟩:=key j oj b hj sL;exact hr.inj i j vx oj' b q1 q3 q2 q4
    · have hold:∀(i:Nat) y,xs[i]?=some y->Mj F w (o::se) b0 (0+i*ei.size) y:=λi y hy=>by
        have:=hr.OD (id:=0) (o:=o) rfl Js (i:=i) (x:=y) (by rw[qa];exact hy);rw[qa]at this;simpa using this
      obtain⟨rl,h1,h2,_,h4⟩:=QX (λx hx=>(rh x (mf _ hx)).1) hold;have qz:=oX (P:=P) w t ty ei.e inf z hu hi hz ⟨b0,0,none⟩ xs.length o.cap rl (by rw[h1,rA]) h2 ⟨b,off,none⟩ sk.length c us uH rQ (by omega) (by omega) (oh (by omega) (by rw[<- hby];exact hb));have vq:=ye (grownCap w (xs.length+sk.length) o.cap ei.e) rl ⟨h1,λi y hy j c hc=>by obtain⟨u,f1,_,f2⟩:=h4 i y hy j c hc;exact⟨u,f1,f2⟩⟩ (tw o.cap ei.e) (wo o.cap ei.e (by simp[maxLen];omega));exact⟨o,se,_,_,rfl,qa,qz,.inr ⟨_,vq.1,vq.2,rfl⟩⟩
section
variable {P : Program} {ops : Array Oper} {Q : Exit -> St -> Prop} {n N f i : Nat} {qU listed' : Array Bool} {e : Nat -> AV} {ty : TypeId} {p : String} {ed : Array Edge} {t : Tmp} {α : Type} {l l2 l' : List α} {enc : α -> List AV} {x y : Operand} {g m size bytes : Nat} {el : TypeId} {zz : List AV} {T : TypeId} {uW : List Row} {k : Nat}
theorem BH (h:qU=listed'){s:St}(ha:AX P k ops Q N f qU s):AX P k ops Q N f listed' s:=h▸ha
theorem AX.two (row tn:Row){s:St}(h :∀A A':Nat->Array Bool->St->Prop,(∀f l s,A f l s↔AX P k ops Q N f l s)->(∀f l s,A' f l s↔AX P k ops (cy row tn Q) N f l s)->A f qU s):AX P k ops Q N f qU s:=
  h (AX P k ops Q N) (AX P k ops (cy row tn Q) N) (λ_ _ _=>Iff.rfl) (λ_ _ _=>Iff.rfl)
theorem KQ {s:St}(h :∀A:Nat->Array Bool->St->Prop,(∀f l s,A f l s↔AX P k ops Q N f l s)->A f qU s):AX P k ops Q N f qU s:=
  h (AX P k ops Q N) (λ_ _ _=>Iff.rfl)
theorem KM {ys:AV}(ho:ops[i]?=some ⟨some t,.call ⟨.builtin .append,#[x,y],#[T,T]⟩,ty,p,ed,none⟩)(vt:DH n (some t)=true)(he:Ds P T=some ⟨el,size,bytes,zz⟩)(zS :∀row∈uW,EN row.xs)(hx:St.ev ⟨n,e,⟨g,el,size,l.map enc⟩::uW⟩ x=.own 0 g m)(hm:m=l.length)(hy:St.ev ⟨n,e,⟨g,el,size,l.map enc⟩::uW⟩ y=ys)(wM:EL (⟨g,el,size,l.map enc⟩::uW) ys (l2.map enc))
    (wP:l2.isEmpty=false) (hs :∀a,(enc a).length=size) (hp :∀l:List α,EN (l.map enc)) (ha:Sh.app l l2 bytes=some l')
    (h1:AX P 1 ops (cy ⟨g,el,size,l.map enc⟩ ⟨g,el,size,l'.map enc⟩ Q) N f (qU.setIfInBounds i true) ⟨n,EE (λt=>iA (e t)) t (.own 0 g l'.length),⟨g,el,size,l'.map enc⟩::uW⟩)
    (h2:AX P 1 ops Q N f (qU.setIfInBounds i true) ⟨n,EE e t (.own (uW.length+1) 0 l'.length),⟨g,el,size,l.map enc⟩::(uW++[⟨0,el,size,l'.map enc⟩])⟩) :
    Eh P 1 ops Q N f qU ⟨n,e,⟨g,el,size,l.map enc⟩::uW⟩ i:=by
  subst hm;unfold Sh.app at ha;split at ha
  case isFalse=>cases ha
  rename_i hbd;simp only[lX]at ha;subst ha;intro F0 os0 w0 F os a w hr xB;have hxr:=hr.ev x;rw[hx]at hxr;have hyr:=hr.ev y;rw[hy]at hyr;have hpp:=hp (l++l2);rw[nI]at hpp h1 h2;obtain⟨o,se,u,w',rfl,qa,qz,hA⟩:=YO (k:=1) (ty:=ty) (ei:=⟨el,size,bytes,zz⟩) (g:=g) (xs:=l.map enc) (ys:=l2.map enc) hr rfl zS he (by simpa using hxr) hyr wM
    (λz hz=>by obtain⟨q,_,rfl⟩:=mA.1 hz;exact hs q) hpp (by intro e;rw[oT]at e;rw[e]at wP;cases wP) (by simpa using hbd.1) (by simpa using hbd.2)
  unfold wpOp;simp only[ho];rw[ld (by rfl)];refine .inl ?_;unfold Oper.wp;simp only[execOp,resolve,invoke,builtin,mW,mm,mT,pZ,mF,nV,qz,Oper.upon];rcases hA with ⟨b0,Js,vO,hT,hR,rfl⟩|⟨cap,hR,hE,rfl⟩
  · have h3:=h1.2 F _ w' F _ _ w' (hR.put (d:=some t) vt (v:=.own 0 g (l++l2).length) (u:=.slice (some ⟨b0,0,none⟩) ((l.map enc).length+(l2.map enc).length) o.cap) (by
      simp only[Ae];exact⟨_,rfl,ll _,⟨_,_,_,rfl⟩,λ_=>⟨by simp,.inr ⟨b0,rfl,by simp⟩⟩⟩)) (Ext.refl _ _ _ _)
    refine SU (λc a'' xQ hp=>?_) (λhl=>?_) (λa'' xQ hp=>?_) _ h3
    · obtain⟨_,_,_,h4,_⟩:=hp;exact nomatch h4.1
    · obtain⟨_,_,h4,_⟩:=hl;exact nomatch h4
    obtain⟨s',F',os',⟨h4,h5⟩,h6,h7⟩:=hp;obtain⟨s2,F2,os2,h8,h9,h10⟩:=dm (Q:=λe s=>e=.normal/\Q e s) hpp qa Js vO hT ⟨s',F',os',⟨h5.1,h4,h5.2⟩,h6,h7⟩ hr.FR;exact⟨s2,F2,os2,h8,h9,xB.trans h10⟩
  · refine h2.2 F0 os0 w0 F _ _ w' ?_ (xB.trans hE);have hlen:se.length=uW.length:=by
      have:=hr.st;simp only[mF,oI]at this;rw[<- this.2,ly]
    refine hR.put (d:=some t) vt (v:=.own (uW.length+1) 0 (l++l2).length) ?_;simp only[Ae];exact⟨⟨⟨0,el,size,l.map enc++l2.map enc⟩,some w.heap.size,cap,Fc⟩,by rw[<- hlen];simp,ll _,⟨_,_,_,rfl⟩,λ_=>⟨by simp,.inr ⟨_,rfl,by simp⟩⟩⟩
end
section
variable {P : Program} {ds : List (Option Tmp)} {r : List Oper} {KS : St -> Prop} {n : Nat} {e : Nat -> AV} {st : List Row} {ty : TypeId} {ps : String} {ed : Array Edge} {t : Tmp} {gd : Option (Nat × Bool)} {α : Type} {l l' : List α} {enc : α -> List AV} {x : Operand} {size bytes : Nat} {el T : TypeId} {zz : List AV}
theorem bd {lo hi:Option Operand}{i j:Int}(hg:GO ds gd e)(he:Ds P T=some ⟨el,size,bytes,zz⟩)(hx:St.ev ⟨n,e,st⟩ x=.sl (l.map enc))(h1:Tk (lo.map (St.ev ⟨n,e,st⟩)) 0=some i)(h2:Tk (hi.map (St.ev ⟨n,e,st⟩)) l.length=some j)(hs :∀a,(enc a).length=size)(hl:Sh.sl l i j=some l')
    (hk:D7 P (ds++[some t]) r KS ⟨n,EE e t (.sl (l'.map enc)),st⟩):D7 P ds (⟨some t,.slice T x lo hi none,ty,ps,ed,gd⟩::r) KS ⟨n,e,st⟩:=by
  refine dS hg rfl (λs0 e1 e2 hd k F os a w hr next Q hn=>?_) hk;refine K0 (k:=k) (K:=(·=s0.put (some t) (.sl (l'.map enc)))) hr hd ?_ hn;show U4 P s0.st T (s0.ev x) (lo.map s0.ev) (hi.map s0.ev) (Option.map s0.ev none) (λv st=>({ s0 with st:=st }:St).put (some t) v=s0.put (some t) (.sl (l'.map enc)));have ex:s0.ev x=St.ev ⟨n,e,st⟩ x:=e2 x (by simp[Op.operands]);have elo:lo.map s0.ev=lo.map (St.ev ⟨n,e,st⟩):=by
    cases lo with
    | none=>rfl
    | some y=>simp only[mZ];rw[e2 y (by simp[Op.operands])]
  have ehi:hi.map s0.ev=hi.map (St.ev ⟨n,e,st⟩):=by
    cases hi with
    | none=>rfl
    | some y=>simp only[mZ];rw[e2 y (by simp[Op.operands])]
  rw[ex,elo,ehi,hx];unfold Sh.sl at hl;split at hl
  · rename_i h;simp only[lX]at hl;subst hl;refine Aq _ he (Aq _ h1 (Aq _ (by rw[ly];exact h2) ⟨h.1,h.2.1,by simpa using h.2.2,λz hz=>?_,?_⟩))
    · obtain⟨q,_,rfl⟩:=mA.1 hz;exact hs q
    · rw[List.map_drop,List.map_take]
  · cases hl
theorem Wq {f:FuncId}{rf:Array Operand}{ts:Array TypeId}{args rH:List AV}{rowsP rows0 rows1 rows1':List Row}{v v':AV}(sel:List Nat)(hg:GO ds gd e)(hb:Dp P f=true)(hc:Ab P f rH rows0 λr st=>r=v/\st=rows1)(ha:rf.toList.map (St.ev ⟨n,e,st⟩)++[]=args)(sA:sel.Nodup)(qu:sel.all (·<st.length)=true)
    (hp:Cb st sel=rowsP) (hs:SR sel rowsP rows0) (hf:args.map (KV sel)=rH) (hlen:rows1.length=sel.length) (h1:UN sel st.length rows1 rows1') (hv:TY sel st.length v=v') (sT:GB sel rows1' 0 st=st)
    (hk:D7 P (ds++[some t]) r KS ⟨n,EE e t v',st⟩):D7 P ds (⟨some t,.call ⟨.value (.func f),rf,ts⟩,ty,ps,ed,gd⟩::r) KS ⟨n,e,st⟩:=by
  subst ha;subst hv;subst hp;refine dS hg rfl (λs0 e1 e2 hd k F os a w hr next Q hn=>?_) hk;refine K0 (k:=k) (K:=(·=s0.put (some t) (TY sel st.length v))) hr hd ?_ hn;show Dp P f=true/\callThen P k s0 f (rf.toList.map s0.ev++[]) (some t) _;rw[Sy e2];refine⟨hb,Kk λhle=>?_⟩;subst e1;obtain⟨e1,e3⟩:=hs.spec (st0:=s0.st) hle (λrow qa=>by
    obtain⟨i,_,hi⟩:=mu.1 qa;exact lT hi)
  refine LO (rows2:=[]) sel (by simpa using hc) sA (λi hi=>by simpa using lh.1 qu i hi) e1 e3 hf hlen (λrow qa=>by
    rw[mn]at qa;exact h1.leaf row qa) λ_=>?_
  simp only[h1.spec,nV,mn,sT]
end
end Go.Abs
namespace Go.Abs
open Go
section
variable {P : Program} {k : Nat} {ops : Array Oper} {Q : Exit -> St -> Prop} {ds : List (Option Tmp)} {r : List Oper} {n : Nat} {e : Nat -> AV} {st st' : List Row} {ty : TypeId} {p : String} {ed : Array Edge} {t : Tmp} {x y : Operand} {size bytes m : Nat} {el T Tn : TypeId} {zz : List AV} {α : Type} {enc : α -> List AV} {u : α} {l' : List α} {kk : IntKind} {j : Int} {v : AV} {o : Oper}
theorem bU (hn:o.guard=none)(h :∀F os a w,Rel F os ⟨n,e,st⟩ a w->∃z w' F' os',(execOp a.eval o).run P w=.ok (.value z) w'/\Rel F' os' ⟨n,e,st'⟩ a w'/\Ae F' w' os' v z/\Ext F os w F' os' w' k)
  (hk:AO P k ops Q (ds++[o.dst]) r (St.put ⟨n,e,st'⟩ o.dst v)):AO P k ops Q ds (o::r) ⟨n,e,st⟩:=by
 intro hl uI rU F os a w hr Q' hQ;have ho:ops[ds.length]?=some o:=by have:=hl 0;simpa using this.symm
 have vt:DH n o.dst=true:=rU o (by have:=lT (l:=ops.toList) (i:=ds.length) (by simpa using ho);exact this);have vG :∀(j:Nat),r[j]?=ops[(ds++[o.dst]).length+j]?:=λj=>by
  have:=hl (j+1);simp only[mQ]at this;rw[this];congr 1;simp;omega
 have uu :∀(j:Nat) d,(ds++[o.dst])[j]?=some d->(ops[j]?).map (·.dst)=some d:=λj d hj=>by
  rcases nG j ds.length with h1|h1|h1
  ·rw[lj h1]at hj;exact uI j d hj
  ·subst h1;rw[Jz,lX]at hj;rw[ho];simp[hj]
  ·rw[mV (by simp;omega)]at hj;cases hj
 obtain⟨z,w',F',os',h1,h2,h3,h4⟩:=h F os a w hr;unfold wpList;rw[ld (by unfold Region.wanted;rw[hn])];refine .inl ?_;unfold Oper.wp;rw[h1];simp only[Oper.upon];refine hk vG uu (by cases o.dst<;>exact rU) F' os' _ w' (h2.put vt h3) Q' λ_ _ _ hp=>hQ _ _ _ (hp.trans h4)
theorem aB (hs:DV P T=true)(hx:St.ev ⟨n,e,st⟩ x=.zc)(hk:AO P k ops Q (ds++[some t]) r ⟨n,EE e t (i64 0),st⟩):
  AO P k ops Q ds (⟨some t,.call ⟨.builtin .cap,#[x],#[T]⟩,ty,p,ed,none⟩::r) ⟨n,e,st⟩:=by
 refine bU rfl (st':=st) (v:=i64 0) (λF os a w hr=>?_) hk;have h1:=hr.ev x;rw[hx]at h1;simp only[Ae]at h1;obtain⟨ad,h1⟩:=h1;unfold DV at hs;split at hs
 case h_2=>cases hs
 rename_i el hu;refine⟨.int .i64 0,w,F,os,?_,hr,by simp[Ae],Ext.refl _ _ _ _⟩;simp only[execOp,resolve,invoke,builtin,mW,mm,mT,pZ,mF,nV,h1,Builtin.cap_];simp[me hu,goInt]
theorem iB {hi:Option Operand}(he:Ds P T=some ⟨el,size,bytes,zz⟩)(hx:St.ev ⟨n,e,st⟩ x=.zc)(h2:Tk (hi.map (St.ev ⟨n,e,st⟩)) 0=some 0)
  (hk:AO P k ops Q (ds++[some t]) r ⟨n,EE e t .zc,st⟩):AO P k ops Q ds (⟨some t,.slice T x none hi none,ty,p,ed,none⟩::r) ⟨n,e,st⟩:=by
 refine My AI ?_;rw[Tg];simp only[ph];rw[hx];exact Aq _ he (Aq _ rfl (Aq _ h2 ⟨rfl,rfl,hk⟩))
theorem eX {kn:IntKind}(he:Ds P T=some ⟨el,size,bytes,zz⟩)(hn:P.underlying Tn=some (.int kn))(hx:St.ev ⟨n,e,st⟩ x=.zc)(hy:St.ev ⟨n,e,st⟩ y=.int kk j)(h0:decide (0<j)=true)(hz:enc u=zz)(hj:Sh.mk u j bytes=some l')(hm:st.length=m)(qx:st++[⟨0,el,size,l'.map enc⟩]=st')
  (hk:AO P k ops Q (ds++[some t]) r ⟨n,EE e t (.own m 0 l'.length),st'⟩):AO P k ops Q ds (⟨some t,.call ⟨.builtin .append,#[x,y],#[T,Tn]⟩,ty,p,ed,none⟩::r) ⟨n,e,st⟩:=by
 subst hm;subst qx;subst hz;unfold Sh.mk at hj;split at hj
 case isFalse=>cases hj
 rename_i hbd;simp only[lX]at hj;subst hj;refine bU rfl (st':=st++[(⟨0,el,size,(List.replicate j.toNat u).map enc⟩:Row)]) (v:=.own st.length 0 (List.replicate j.toNat u).length) (λF os a w hr=>?_) hk;have h1:=hr.ev x;rw[hx]at h1;simp only[Ae]at h1;obtain⟨ad,h1⟩:=h1;have h2:=hr.ev y;rw[hy]at h2;simp only[Ae]at h2;obtain⟨inf,z,hu,hi,hz,tN,rO,rA,hby,hzz,rZ⟩:=IS he;dsimp only at hu hi tN rO rA hby hzz rZ;have hj0:0<j:=mz h0;obtain⟨q,rfl⟩:=mS (Int.le_of_lt hj0);rw[nY];have hq0:0<q:=by omega
 have hq48:q*inf.bytes<=281474976710656:=by
  have h9:((q*bytes:Nat):Int)<=281474976710656:=by rw[pd];exact hbd.2.1
  rw[<- hby];omega
 have hold:(Builtin.firstCells inf.size 0 (.slice ad 0 0)).run P w.drew=.ok ([]:List Value).toArray w.drew:=by
  cases ad with
  | none=>exact run_firstCells_none w.drew inf.size 0 0 0
  | some ad=>exact run_firstCells_some w.drew inf.size 0 ad 0 0 [] (by simp) (by simp)
 have sB:Builtin.nextslicecap (0+q) 0*inf.bytes<=281474976710656:=by rw[ml,nextslicecap_zero hq0];exact hq48
 have qz:=Lib.run_append_grow_zeros (P:=P) w T Tn ty el inf z kk kn hu hn hi hz ad 0 0 [] hold q hq0 (by omega) (by omega) (by omega) hq48 sB;rw[ml]at qz;have tw:=grownCap_ge w q 0 el;have hle:=ob w q 0 el (by unfold maxLen;omega);have hzc:∀i,i<z.cells.size->∃c',z.cells[i]?=some c':=λi hi=>⟨_,mw hi⟩;have tW:=hr.Om (k:=k) (.inr rfl) (cur:=([]:List Value).toArray++Builtin.zeroCells z.cells q++Builtin.zeroCells z.cells (grownCap w q 0 el-q)) (e:=el) (size:=size) (cap:=grownCap w q 0 el) (xs:=(List.replicate q u).map enc)
  (by omega) (λx hx=>by
   rw[pM]at hx;rw[List.eq_of_mem_replicate hx,hzz];refine⟨by simp[tN,rA],λc hc=>rZ c (by rw[hzz];exact hc)⟩)
  (by
   simp only[Array.size_append,oL,nD,size_zeroCells,tN,rA,ml,<- mM];congr 1;omega)
  (by rw[ly,om];omega) hle (λi x hx jj c hc=>by
   rw[pM]at hx;have hi:i<q:=by
    have:=(lV.1 hx).1;simpa using this
   have tL:x=enc u:=List.eq_of_mem_replicate (lT hx);subst tL;rw[hzz]at hc;simp only[lW,lg,nk]at hc;obtain⟨c',hc1,rfl⟩:=hc;have uD:jj<z.cells.size:=(mO.1 hc1).1;refine⟨c',?_,MG F w os c'⟩;have qu:i*size+jj<q*size:=by
    have:(i+1)*size<=q*size:=mP _ hi;rw[mM]at this;omega
   rw[Array.append_assoc,show (([]:List Value).toArray++(Builtin.zeroCells z.cells q++Builtin.zeroCells z.cells (grownCap w q 0 el-q)))=(Builtin.zeroCells z.cells q++Builtin.zeroCells z.cells (grownCap w q 0 el-q)) by simp];rw[nP (by rw[size_zeroCells,tN,<- rA];exact qu)];unfold Builtin.zeroCells;rw[Array.getElem?_map,Array.getElem?_range];rw[ld (by rw[tN,<- rA];exact qu)];simp only[mZ,lX];have ug:(i*size+jj) % z.cells.size=jj:=by
    rw[tN,<- rA,pc,Nat.mul_add_mod];exact oQ (by omega)
   rw[ug];simp[Array.getElem!_eq_getD,Array.getD,uD,(mO.1 hc1).2])
 refine⟨.slice (some ⟨w.heap.size,0,none⟩) q (grownCap w q 0 el),_,F,_,?_,tW.1,?_,tW.2.1⟩
 ·simp only[execOp,resolve,invoke,builtin,mW,mm,mT,pZ,mF,nV,h1,h2];rw[qz];simp
 ·simp only[Ae];have hlen:st.length=os.length:=hr.len;exact⟨_,by rw[hlen];exact Jz _ _,ll _,⟨_,_,_,rfl⟩,λ_=>⟨by simp,.inr ⟨_,rfl,by simp⟩⟩⟩
end
section
variable {P : Program} {ds : List (Option Tmp)} {r : List Oper} {KS : St -> Prop} {n : Nat} {e : Nat -> AV} {st : List Row} {ty : TypeId} {ps : String} {ed : Array Edge} {t : Tmp} {gd : Option (Nat × Bool)} {α : Type} {l : List α} {enc : α -> List AV} {u : α} {x y : Operand} {size bytes : Nat} {el T : TypeId} {zz : List AV} {kk uT : IntKind} {j : Int}
theorem kZ (hg:GO ds gd e)(he:Ds P T=some ⟨el,size,bytes,zz⟩)(hx:St.ev ⟨n,e,st⟩ x=.int kk j)(hy:St.ev ⟨n,e,st⟩ y=.int uT j)(hz:enc u=zz)(hl:Sh.mk u j bytes=some l)(hpu:EN (l.map enc))
  (hk:D7 P (ds++[some t]) r KS ⟨n,EE e t (.sl (l.map enc)),st⟩):D7 P ds (⟨some t,.makeSlice T x y,ty,ps,ed,gd⟩::r) KS ⟨n,e,st⟩:=by
 subst hz;refine dS hg rfl (λs0 e1 e2 hd k F os a w hr next Q hn=>?_) hk;have ex:s0.ev x=.int kk j:=(e2 x (by simp[Op.operands])).trans hx;have ey:s0.ev y=.int uT j:=(e2 y (by simp[Op.operands])).trans hy;have hxr:=hr.ev x;have hyr:=hr.ev y;rw[ex]at hxr;rw[ey]at hyr;unfold Sh.mk at hl;split at hl
 case isFalse=>cases hl
 rename_i h;simp only[lX]at hl;subst hl;have h9:IE P 0 F [] ⟨s0.n,λ_=>.E7,[]⟩ a w (Instr.makeSlice T (a.eval x) (a.eval y)) (λz st=>z=.own 0 0 (List.replicate j.toNat u).length/\st=[⟨0,el,size,(List.replicate j.toNat u).map enc⟩]):=by
  refine X2 (l:=.int kk j) (c:=.int uT j) hr.bare (Aq _ he ⟨rfl,h.1,h.2.1,h.2.2,?_⟩) (Fg (x:=.int kk j) rfl [] hxr) (Fg (x:=.int uT j) rfl [] hyr);simp
 obtain⟨u',w',F',g1,g2,g3,g4⟩:=OA (k:=k) hr h9 (VP hpu) rfl;unfold Oper.wp;simp only[execOp,mW,g1,mT,mm,Oper.upon];exact hn _ _ (PS (st':=s0.st) hd rfl g2 g3 g4)
end
theorem IC {row:Row}{uW:List Row}(h:EN row.xs)(g :∀q∈uW,EN q.xs):∀q∈row::uW,EN q.xs:=λq hq=>by
 rcases lk.1 hq with rfl|hq
 ·exact h
 ·exact g q hq
section
variable {P : Program} {k : Nat} {ops : Array Oper} {Q : Exit -> St -> Prop} {ds : List (Option Tmp)} {r : List Oper} {n : Nat} {e : Nat -> AV} {st st' : List Row} {ty : TypeId} {p : String} {ed : Array Edge} {t : Tmp} {x y : Operand} {size bytes m : Nat} {el T : TypeId} {zz : List AV} {kk uT : IntKind} {c : Nat}
theorem eC (he:Ds P T=some ⟨el,size,bytes,zz⟩)(hx:St.ev ⟨n,e,st⟩ x=.int kk 0)(hy:St.ev ⟨n,e,st⟩ y=.int uT (c:Int))(hc:decide (c*bytes<=281474976710656/\c<=9223372036854775807)=true)(hm:st.length=m)(qx:st++[⟨0,el,size,[]⟩]=st')
  (hk:AO P k ops Q (ds++[some t]) r ⟨n,EE e t (.own m 0 0),st'⟩):AO P k ops Q ds (⟨some t,.makeSlice T x y,ty,p,ed,none⟩::r) ⟨n,e,st⟩:=by
 subst hm;subst qx;have hbd:=mz hc;refine bU rfl (st':=st++[(⟨0,el,size,[]⟩:Row)]) (v:=.own st.length 0 0) (λF os a w hr=>?_) hk;have h1:=hr.ev x;rw[hx]at h1;simp only[Ae]at h1;have h2:=hr.ev y;rw[hy]at h2;simp only[Ae]at h2;obtain⟨inf,z,hu,hi,hz,tN,rO,rA,hby,hzz,rZ⟩:=IS he;dsimp only at hu hi tN rO rA hby hzz rZ;have qz:=run_make (P:=P) w T el inf z hu hi hz kk uT 0 (c:Int) (by omega) (by omega) (by rw[<- hby,<- pd,pc];omega) (by omega);have tW:=hr.Om (k:=k) (.inl rfl) (cur:=madeCells z.cells (c*inf.size)) (e:=el) (size:=size) (cap:=c) (xs:=[]) (by omega) (by simp) (by rw[size_madeCells,rA]) (by simp) (by simp[maxLen];omega) (by simp);refine⟨.slice (some ⟨w.heap.size,0,none⟩) 0 c,_,F,_,?_,tW.1,?_,tW.2.1⟩
 ·simp only[execOp,mW,mm,mT,h1,h2];rw[qz];simp
 ·simp only[Ae];have hlen:st.length=os.length:=hr.len;exact⟨_,by rw[hlen];exact Jz _ _,ll _,⟨_,_,_,rfl⟩,λ_=>⟨by simp,.inr ⟨_,rfl,by simp⟩⟩⟩
end
end Go.Abs
namespace Go.Abs
open Go
variable {P : Program} {n : Nat} {e : Nat -> AV} {st : List Row} {t : Tmp} {ty : TypeId} {ps : String} {ed : Array Edge} {x : Operand}
theorem KE {id g i off tp el size j f:Nat}{tt:TypeId}{xs:List (List AV)}(hf:Hq P tt f=some j)(h:St.ev ⟨n,e,st⟩ x=.ptr id g i off)(qa:st[id]?=some ⟨g,el,size,xs⟩)(hl:off+j<=size)(ho:off+j=tp):Oh P ⟨n,e,st⟩ ⟨some t,.fieldAddr tt x f,ty,ps,ed,none⟩ (.ptr id g i tp):=
 ⟨rfl,λF os a w hr=>by
  subst ho;have h1:=hr.ev x;rw[h]at h1;unfold Hq at hf;split at hf<;>try (cases hf;done)
  rename_i fs hu;split at hf<;>try (cases hf;done)
  rename_i g1 hg;split at hf<;>try (cases hf;done)
  rename_i i1 hi;split at hf
  ·cases hf
  rename_i hz;simp only[lX]at hf;have qz:∀b off w',(Instr.fieldAt tt (.pointer (some ⟨b,off,none⟩)) f).run P w'=.ok (.pointer (some ⟨b,off+j,none⟩)) w':=λb off w'=>by
   simp[Instr.fieldAt,me hu,hg,Instr.sureAddr,fieldPlace,sizeOf,typeInfo,hi,hz,DJ,hf]
  obtain⟨ow,how,hrw⟩:=hr.row qa;simp only[Ae]at h1;obtain⟨o',rF,tw,_,hv⟩:=h1;rw[how]at rF;cases rF;have vq:ow.row.gen=g:=by rw[hrw]
  obtain⟨h2,h3,b,hb,e2⟩:=hv vq;refine⟨.pointer (some ⟨b,i*ow.row.size+off+j,none⟩),λw'=>?_,?_⟩
  ·simp[execOp,e2,qz]
  ·simp only[Ae];exact⟨ow,how,tw,⟨_,rfl⟩,λ_=>⟨h2,by rw[hrw];exact hl,b,hb,by rw[nS]⟩⟩⟩
end Go.Abs
namespace Go.Abs
open Go
def SF (F:Nat->Prop)(w:World):World->Prop:=λw'=>∀b,F b->w'.heap[b]?=w.heap[b]?
section
variable {P : Program} {k : Nat} {ops : Array Oper} {Q : Exit -> St -> Prop} {N f i : Nat} {qU listed' : Array Bool} {s s' : St} {o : Oper}
def AY (P:Program)(k:Nat)(ops:Array Oper)(Q:Exit->St->Prop)(N f:Nat)(qU:Array Bool)(s:St):Prop:=
 s.n=N/\∀F0 os0 w0 F os a w,Rel F os s a w->Ext F0 os0 w0 F os w k->wpAnyH P .any ops (Nm k Q F0 os0 w0) (SF F0 w0) f qU a w
def ZO (P:Program)(k:Nat)(ops:Array Oper)(Q:Exit->St->Prop)(N f:Nat)(qU:Array Bool)(s:St)(i:Nat):Prop:=
 ∀F0 os0 w0 F os a w,Rel F os s a w->Ext F0 os0 w0 F os w k->wpOp P ops (Nm k Q F0 os0 w0) i (λa' w'=>SF F0 w0 w'/\wpAnyH P .any ops (Nm k Q F0 os0 w0) (SF F0 w0) f (qU.setIfInBounds i true) a' w') a w
def dh (P:Program)(k:Nat)(ops:Array Oper)(Q:Exit->St->Prop)(N f:Nat)(qU:Array Bool)(s:St):List Nat->Prop
 | []=>True
 | i::r=>ZO P k ops Q N f qU s i/\dh P k ops Q N f qU s r
theorem dh.get:∀{l:List Nat},dh P k ops Q N f qU s l->∀i∈l,ZO P k ops Q N f qU s i
 | j::r,h,i,hi=>by
  rcases lk.1 hi with rfl|hi
  ·exact h.1
  ·exact dh.get h.2 i hi
theorem AY.all (rs:List Nat)(hn:s.n=N)(hr:Region.ready .any ops qU=rs)(rC:rs≠[])(h:dh P k ops Q N f qU s rs):AY P k ops Q N (f+1) qU s:=
 ⟨hn,λF0 os0 w0 F os a w rE he=>wpAnyH_all hr rC λi hi=>h.get i hi F0 os0 w0 F os a w rE he⟩
theorem Rc (hn:s.n=N)(hr:Region.ready .any ops qU=[])(h:Q .normal s):AY P k ops Q N f qU s:=
 ⟨hn,λ_ _ _ F os a w rE he=>wpAnyH_done hr ⟨s,F,os,⟨rfl,h⟩,rE,he⟩ f⟩
theorem S0 (hw:Wk k s s')(h:AY P k ops Q N f qU s')(hn:s.n=N):AY P k ops Q N f qU s:=
 ⟨hn,λF0 os0 w0 F os a w rE he=>by
  obtain⟨F1,rJ,h1,e1⟩:=hw F os a w rE;exact h.2 F0 os0 w0 F1 rJ a w h1 (he.trans e1)⟩
theorem Xx (h:qU=listed')(ha:AY P k ops Q N f qU s):AY P k ops Q N f listed' s:=h▸ha
theorem Tw (h :∀A:Nat->Array Bool->St->Prop,(∀f l s,A f l s↔AY P k ops Q N f l s)->A f qU s):AY P k ops Q N f qU s:=
 h (AY P k ops Q N) (λ_ _ _=>Iff.rfl)
theorem ZO.of (ho:ops[i]?=some o)(hg:Ny o i=true)(hd:(ops.toList.all λo=>DH s.n o.dst)=true)
  (h:AO P k (ops.extract 0 (i+1)) (λe s'=>e=.normal/\AY P k ops Q N f (qU.setIfInBounds i true) s') ((ops.toList.take i).map (·.dst)) [o] s):ZO P k ops Q N f qU s i:=by
 intro F0 os0 w0 F os a w rE he;have hi:i<ops.size:=(mO.1 ho).1;have hex:∀j,(ops.extract 0 (i+1))[j]?=if j<i+1 then ops[j]? else none:=λj=>by
  rw[Array.getElem?_extract];split<;>split<;>simp_all<;>omega
 have h1:=h (λj=>by
   have hlen:((ops.toList.take i).map (·.dst)).length=i:=by simp;omega
   rw[hlen,hex];cases j with
   | zero=>simp[ho]
   | succ j=>rw[la (by omega)];simp) (λj d hj=>by
   simp only[lW,mJ]at hj;split at hj
   ·rw[hex,ld (by omega)];simpa using hj
   ·cases hj) (λo' rF=>by
   obtain⟨j,hj⟩:=lv.1 rF;rw[nk,hex]at hj;split at hj
   ·exact lh.1 hd o' (lT (i:=j) (by simpa using hj))
   ·cases hj) F os a w rE (λe a' w'=>e=.normal/\SF F0 w0 w'/\wpAnyH P .any ops (Nm k Q F0 os0 w0) (SF F0 w0) f (qU.setIfInBounds i true) a' w') (by
   rintro e a' w' ⟨s',F',os',⟨rfl,hax⟩,ru,he'⟩;exact⟨rfl,(he.trans he').IU,hax.2 F0 os0 w0 F' os' a' w' ru (he.trans he')⟩)
 have hy:Region.wanted o (yielded (ops.extract 0 (i+1)) a.tmps)=Region.wanted o (yielded ops a.tmps):=by
  unfold Region.wanted;unfold Ny at hg;cases hgd:o.guard with
  | none=>rfl
  | some p=>
   obtain⟨j,want⟩:=p;rw[hgd]at hg;simp only[lq]at hg;simp only[yielded,hex,ld hg]
 unfold wpList at h1;unfold wpOp;simp only[ho];rw[hy]at h1;split at h1
 ·rename_i hw;rw[ld hw];rcases h1 with h1|⟨_,a1,w1,h1,_⟩
  ·refine .inl (Oper.wp_mono (λa' w' h'=>?_) (Ow (λc a' w' h'=>?_) (λh'=>?_) h1))
   ·exact h'.2
   ·exact nomatch h'.1
   ·obtain⟨_,_,h2,_⟩:=h';exact nomatch h2
  ·exact nomatch h1
 ·rename_i hw;rw[la hw];exact h1.2
theorem UK (i:Nat){v:AV}(hn:s.n=N)(ho:ops[i]?=some o)(hs:Region.noSelect ops=true)(hf:Region.free .any ops qU i=true)(hr:(Region.ready .any ops qU).contains i=true)(hd:DH s.n o.dst=true)(hh:Oh P s o v)
  (h:AY P k ops Q N f (qU.setIfInBounds i true) (s.put o.dst v)):AY P k ops Q N (f+1) qU s:=
 ⟨hn,λF0 os0 w0 F os a w rE he=>by
  obtain⟨hg,hh⟩:=hh;obtain⟨u,hu,hv⟩:=hh F os a w rE;refine wpAnyH_take ho hs hf hr (λc a w ⟨_,_,_,hp,_⟩=>nomatch hp.1) (.inl ⟨by unfold Region.wanted;rw[hg],λw' _=>hu w'⟩) he.IU ?_;exact h.2 F0 os0 w0 F os _ w (rE.put hd hv) he⟩
def AZ (P:Program)(k:Nat)(ops:Array Oper)(Q:Exit->St->Prop)(N f:Nat)(qU:Array Bool)(s:St):Prop:=
 s.n=N/\∀F os a w,Rel F os s a w->wpAnyH P .any ops (Nm k Q F os w) (SF F w) f qU a w
theorem Vq {f':Nat}(hf:f=f')(hl:qU=listed')(h:AZ P k ops Q N f' listed' s):AZ P k ops Q N f qU s:=hf▸hl▸h
theorem WC (h:AY P k ops Q N f qU s):AZ P k ops Q N f qU s:=
 ⟨h.1,λF os a w hr=>h.2 F os w F os a w hr (Ext.refl F os w k)⟩
theorem PT {id:Nat}(hm:P.follows .mixedOrders=true)(h:AZ P k ops Q s.n ops.size (Array.replicate ops.size false) s):AW P k (.region id ops true) Q s:=by
 intro F os a w hr;obtain⟨wv,he1⟩:=hr.drew (k:=k);refine oH (wp_region_held hm (h.2 F os a w.drew wv)) ?_;rintro e a' w' ⟨s',F',os',⟨rfl,hq⟩,h1,h2⟩;exact⟨s',F',os',hq,h1,he1.trans h2⟩
def QQ (P:Program)(s:St)(o:Oper)(v:AV):Prop:=
 o.guard=none/\∀F os a w,Rel F os s a w->∃u,(∀w',SF F w w'->(execOp a.eval o).run P w'=.ok (.value u) w')/\Ae F w os v u
theorem E9 {v:AV}(h:Oh P s o v):QQ P s o v:=⟨h.1,λF os a w hr=>let ⟨u,h1,h2⟩:=h.2 F os a w hr;⟨u,λw' _=>h1 w',h2⟩⟩
theorem DX (i:Nat){v:AV}(hn:s.n=N)(ho:ops[i]?=some o)(hs:Region.noSelect ops=true)(hf:Region.free .any ops qU i=true)(hr:(Region.ready .any ops qU).contains i=true)(hd:DH s.n o.dst=true)(hh:QQ P s o v)
  (h:AZ P k ops Q N f (qU.setIfInBounds i true) (s.put o.dst v)):AZ P k ops Q N (f+1) qU s:=
 ⟨hn,λF os a w rE=>by
  obtain⟨hg,hh⟩:=hh;obtain⟨u,hu,hv⟩:=hh F os a w rE;refine wpAnyH_take ho hs hf hr (λc a w ⟨_,_,_,hp,_⟩=>nomatch hp.1) (.inl ⟨by unfold Region.wanted;rw[hg],hu⟩) (λ_ _=>rfl) ?_;exact h.2 F os _ w (rE.put hd hv)⟩
end
section
variable {P : Program} {n : Nat} {e : Nat -> AV} {st : List Row} {t : Tmp} {ty : TypeId} {ps : String} {ed : Array Edge} {x : Operand}
theorem Mt {off tp j f:Nat}{tt:TypeId}{cs:List AV}(hf:Hq P tt f=some j)(h:St.ev ⟨n,e,st⟩ x=.Bo cs off)(ho:off+j=tp):Oh P ⟨n,e,st⟩ ⟨some t,.fieldAddr tt x f,ty,ps,ed,none⟩ (.Bo cs tp):=
 ⟨rfl,λF os a w hr=>by
  subst ho;have h1:=hr.ev x;rw[h]at h1;unfold Hq at hf;split at hf<;>try (cases hf;done)
  rename_i fs hu;split at hf<;>try (cases hf;done)
  rename_i g1 hg;split at hf<;>try (cases hf;done)
  rename_i i1 hi;split at hf
  ·cases hf
  rename_i hz;simp only[lX]at hf;have qz:∀b off w',(Instr.fieldAt tt (.pointer (some ⟨b,off,none⟩)) f).run P w'=.ok (.pointer (some ⟨b,off+j,none⟩)) w':=λb off w'=>by
   simp[Instr.fieldAt,me hu,hg,Instr.sureAddr,fieldPlace,sizeOf,typeInfo,hi,hz,DJ,hf]
  simp only[Ae]at h1;obtain⟨b,o',e2,hb,hc⟩:=h1;refine⟨.pointer (some ⟨b,o'+off+j,none⟩),λw'=>?_,?_⟩
  ·simp[execOp,e2,qz]
  ·simp only[Ae];exact⟨b,o',by rw[nS],hb,hc⟩⟩
theorem OU {off sz:Nat}{tt:TypeId}{cs:List AV}{c:AV}(zT:Dr P tt=some (false,sz))(h:St.ev ⟨n,e,st⟩ x=.Bo cs off)(hc:cs[off]?=some c):QQ P ⟨n,e,st⟩ ⟨some t,.load tt x,ty,ps,ed,none⟩ c:=
 ⟨rfl,λF os a w hr=>by
  have h1:=hr.ev x;rw[h]at h1;simp only[Ae]at h1;obtain⟨b,o',e2,hb,sY⟩:=h1;obtain⟨d,i,hud,hi,e1,e3⟩:=JW zT;obtain⟨u,hu1,su,hu3⟩:=LQ (os:=os) sY off c hc;refine⟨u,λw' zU=>?_,hu3⟩;have tO:=LB (w:=w') hud;rw[<- e1]at tO;have rQ:w'.cell? ⟨b,o'+off,none⟩=some u:=by rw[<- hu1];exact oB (zU b hb)
  simp[execOp,e2,Instr.loadAt,Instr.sureAddr,loadVar,tO,rQ]⟩
theorem UE {off sz:Nat}{tt:TypeId}{cs:List AV}{c:AV}(zT:Dr P tt=some (true,sz))(h:St.ev ⟨n,e,st⟩ x=.Bo cs off)(hl:off+sz<=cs.length)(hc:.agg ((cs.drop off).take sz)=c):QQ P ⟨n,e,st⟩ ⟨some t,.load tt x,ty,ps,ed,none⟩ c:=
 ⟨rfl,λF os a w hr=>by
  subst hc;have h1:=hr.ev x;rw[h]at h1;simp only[Ae]at h1;obtain⟨b,o',e2,hb,sY⟩:=h1;obtain⟨d,i,hud,hi,e1,e3⟩:=JW zT;have hx:=LQ (os:=os) sY;have hch:∃f:Nat->Value,∀j,j<sz->w.cell? ((⟨b,o'+off,none⟩:Addr).add j)=some (f j)/\∀c,cs[off+j]?=some c->Ae F w os c (f j):=
   ⟨λj=>(w.cell? ((⟨b,o'+off,none⟩:Addr).add j)).getD undef,λj hj=>by
    have qu:off+j<cs.length:=by omega
    obtain⟨u,hu1,_,su⟩:=hx (off+j) cs[off+j] (lZ qu);have zV:w.cell? ((⟨b,o'+off,none⟩:Addr).add j)=some u:=by rw[DJ,<- hu1,nS]
    simp only[zV,ng];refine⟨lU,λc hc=>?_⟩;rw[lZ qu,lX]at hc;exact hc▸su⟩
  obtain⟨f,hf⟩:=hch;refine⟨.agg ((List.range sz).map f).toArray,λw' zU=>?_,?_⟩
  ·have tO:=LB (w:=w') hud;rw[<- e1]at tO;have rA:(sizeOf tt).run P w'=.ok i.size w':=by simp[sizeOf,typeInfo,hi]
   have xR:=run_loadCells (P:=P) w' ⟨b,o'+off,none⟩ sz f (λj hj=>by
    rw[<- (hf j hj).1,DJ];exact oB (zU b hb))
   simp only at e3;simp[execOp,e2,Instr.loadAt,Instr.sureAddr,loadVar,tO,rA,<- e3,xR]
  ·simp only[Ae];refine⟨_,rfl,Da (by simp;omega) λj c u hc hu=>?_⟩;simp only[mJ,mU]at hc;split at hc
   ·rename_i hj;simp only[lW,nM hj,mZ,lX]at hu;subst hu;exact (hf j hj).2 c hc
   ·cases hc⟩
end
section
variable {P : Program} {k : Nat} {α : Type} {l : List α} {enc : α -> List AV}
variable {ops : Array Oper} {Q : Exit -> St -> Prop} {ds : List (Option Tmp)} {r : List Oper} {n : Nat} {e : Nat -> AV} {st st' : List Row} {ty : TypeId} {ps : String} {ed : Array Edge} {v : AV} {gd : Option (Nat × Bool)} {T : TypeId} {x y : Operand} {ag : Bool} {sz id g size off : Nat} {el : TypeId} {cs cs' : List AV} {c : α} {i : Int}
end
end Go.Abs
namespace Go.Abs
open Go
end Go.Abs
namespace Go.Abs
open Go
def T2 (size:Nat):Nat->List (Nat×AV)->List (List AV)->Prop
 | _,[],[]=>True
 | k,(i,v)::r,c::cs=>i=k/\Kb v=some c/\c.length=size/\T2 size (k+1) r cs
 | _,_,_=>False
theorem T2.len {size:Nat}:∀{k:Nat} {pv:List (Nat×AV)} {xC:List (List AV)},T2 size k pv xC->pv.length=xC.length/\∀c∈xC,c.length=size
 | _,[],[],_=>⟨rfl,by simp⟩
 | k,(i,v)::r,c::cs,h=>by
  obtain⟨h1,h2⟩:=T2.len h.2.2.2;refine⟨by simp[h1],λx hx=>?_⟩;rcases lk.1 hx with rfl|hx
  ·exact h.2.2.1
  ·exact h2 x hx
theorem T8 {size:Nat}:∀(pv:List (Nat×AV)) (xC:List (List AV)) (k:Nat) (pre rest:List AV),pre.length=k*size->rest.length=pv.length*size->T2 size k pv xC->Ms (λi=>some (i*size,size)) (pre++rest) pv=some (pre++xC.flatten)
 | [],[],k,pre,rest,_,h2,_=>by
  have:rest=[]:=mY (by simpa using h2);subst this;rfl
 | (i,v)::r,c::cs,k,pre,rest,h1,h2,h=>by
  obtain⟨rfl,hv,hc,hr⟩:=h;rw[mN,mM,Nat.one_mul]at h2;have qu:size<=rest.length:=by omega
  unfold Ms;simp only[hv];rw[ld ⟨hc,by rw[mD];omega⟩];have hs:HG (pre++rest) (i*size) c=(pre++c)++rest.drop size:=by
   unfold HG;rw[<- h1,List.take_left,hc,List.drop_append,nv (by omega),nJ,show pre.length+size-pre.length=size by omega]
  rw[hs,T8 r cs (i+1) (pre++c) (rest.drop size) (by rw[mD,mM];omega) (by rw[oE];omega) hr];simp
theorem UH {size:Nat}:∀(xC:List (List AV)),(∀c∈xC,c.length=size)->chunk size xC.length xC.flatten=xC
 | [],_=>rfl
 | c::cs,h=>by
  have hc:=h c (by simp);show (c++cs.flatten).take size::chunk size cs.length ((c++cs.flatten).drop size)=_;rw[<- hc,List.take_left,List.drop_left,hc,UH cs λx hx=>h x (by simp[hx])]
theorem AS {k n:Nat}{e:Nat->AV}{st st':List Row}{L:List (Nat×AV)}(sel:List Nat)(hk:sel.take k=List.range k)(sA:sel.Nodup)(qu:sel.all (·<st.length)=true)(hp:Cb st sel=st')(hs:SR sel st' st')(h:ME (λt=>KV sel (e t)) L):
  Wk k ⟨n,e,st⟩ ⟨n,Aa L,st'⟩:=Lf sel hk sA qu hp hs h
section
variable {P : Program} {k : Nat} {α : Type} {l : List α} {enc : α -> List AV} {ops : Array Oper} {Q : Exit -> St -> Prop} {ds : List (Option Tmp)} {r : List Oper} {n : Nat} {e : Nat -> AV} {st st' : List Row} {ty : TypeId} {ps : String} {ed : Array Edge} {t : Tmp} {gd : Option (Nat × Bool)} {T : TypeId} {bytes size m : Nat} {el : TypeId} {zz : List AV}
theorem iV {len:Nat}{parts:Array (Nat×Operand)}{pv:List (Nat×AV)}(hg:GO ds gd e)(he:Ds P T=some ⟨el,size,bytes,zz⟩)(hle:len*size<=16777216)(hp:(parts.toList.map λp=>(p.1,St.ev ⟨n,e,st⟩ p.2))=pv)
  (hz:zz.length=size) (hf:T2 size 0 pv (l.map enc)) (yY:len=l.length) (hm:st.length=m) (qx:st++[⟨0,el,size,l.map enc⟩]=st') (hk:AO P k ops Q (ds++[some t]) r ⟨n,EE e t (.own m 0 l.length),st'⟩) :
  AO P k ops Q ds (⟨some t,.buildSlice T len parts,ty,ps,ed,gd⟩::r) ⟨n,e,st⟩:=by
 obtain⟨h1,h2⟩:=hf.len;have hl:(l.map enc).length=len:=by rw[ly,yY]
 have ha:=T8 pv (l.map enc) 0 [] (List.replicate len zz).flatten (by simp) (by rw[h1,hl];simp[hz]) hf;rw[nJ,nJ]at ha;refine BF (cs:=(l.map enc).flatten) hg he hle hp ha ?_ yY hm qx hk;rw[<- hl];exact UH _ h2
end
end Go.Abs
namespace Go.Abs
open Go
section
variable {P : Program} {k : Nat} {ops : Array Oper} {Q : Exit -> St -> Prop} {ds : List (Option Tmp)} {r : List Oper} {n : Nat} {e : Nat -> AV} {st st' : List Row} {ty : TypeId} {ps : String} {ed : Array Edge} {gd : Option (Nat × Bool)} {T : TypeId} {x y : Operand} {size id g sz : Nat} {el : TypeId} {α : Type} {l : List α} {enc : α -> List AV} {c : α} {i : Int} {v : AV} {cs x0 : List AV} {ag : Bool}
end
end Go.Abs
namespace Go.Abs
open Go
structure MS where
 n:Nat
 e:Nat->AV
 x:Row
 z:List Row
def MS.st (R:List Row)(m:MS):St:=⟨m.n,m.e,m.x::(R++m.z)⟩
def MS.put (m:MS)(d:Option Tmp)(v:AV):MS:=match d with
 | some d=>{ m with e:=EE m.e d v }
 | none=>m
theorem Ov (R:List Row)(m:MS)(d:Option Tmp)(v:AV):(m.put d v).st R=(m.st R).put d v:=by cases d<;>rfl
theorem Na (m:MS)(d:Option Tmp)(v:AV):(m.put d v).x=m.x:=by cases d<;>rfl
theorem NH (m:MS)(d:Option Tmp)(v:AV):(m.put d v).z=m.z:=by cases d<;>rfl
theorem NK (m:MS)(d:Option Tmp)(v:AV):(m.put d v).n=m.n:=by cases d<;>rfl
def MS.ev (m:MS)(x:Operand):AV:=St.ev ⟨m.n,m.e,[]⟩ x
theorem UG (R:List Row)(m:MS)(x:Operand):(m.st R).ev x=m.ev x:=by cases x<;>rfl
inductive Kind where
 | q
 | l (x y:Row)
 | a (row:Row)
def Kind.D:Kind->Row->List Row->Prop
 | .q,_,_=>True
 | .l x0 _,x,_=>x=x0
 | .a _,_,z=>z=[]
def Kind.fx:Kind->Row->Row
 | .l _ y,_=>y
 | _,x=>x
def Kind.fz:Kind->List Row->List Row
 | .a row,_=>[row]
 | _,z=>z
def UA (o:Oper):Bool:=match o.op with
 | .call ⟨.value _,_,_⟩=>true
 | _=>false
def UJ (o:Oper):Bool:=match o.op with
 | .alloc _=>true
 | _=>false
def Kind.fits:Kind->Oper->Prop
 | .q,_=>True
 | .l ..,o=>UA o=true
 | .a _,o=>UJ o=true
def MS.go (m:MS)(kd:Kind):MS:=⟨m.n,m.e,kd.fx m.x,kd.fz m.z⟩
section
variable {P : Program} {k : Nat} {ops : Array Oper} {md : Region.Mode} {R : List Row}
def lQ (P:Program)(k:Nat)(o:Oper)(s s':St):Prop:=
 ∀(F:Nat->Prop) (os:List Own) (a:Act) (w:World),Rel F os s a w->∀(next:Act->World->Prop) (Q:Exit->Act->World->Prop),
  (∀a' w',Step k s.n F os w (·=s') a' w'->next a' w')->o.wp P a w next Q
def dE (P:Program)(k:Nat)(R:List Row)(o:Oper)(n:Nat)(ev:Operand->AV)(kd:Kind)(v:AV):Prop:=
 ∀x z e,kd.D x z->(∀y∈o.op.operands,MS.ev ⟨n,e,x,z⟩ y=ev y)->DH n o.dst=true->lQ P k o (MS.st R ⟨n,e,x,z⟩) (MS.st R ((MS.go ⟨n,e,x,z⟩ kd).put o.dst v))
def kg (P:Program)(k:Nat)(R:List Row)(o:Oper)(m m':MS):Prop:=
 ∃kd v,Kind.fits kd o/\kd.D m.x m.z/\m'=(m.go kd).put o.dst v/\dE P k R o m.n m.ev kd v
def MT (P:Program)(k:Nat)(R:List Row)(ops:Array Oper)(o:Oper)(m m':MS):Prop:=
 (Fj ops o (m.st R)=some true/\kg P k R o m m')∨(Fj ops o (m.st R)=some false/\m'=m.put o.dst .un)
def VZ (P:Program)(k:Nat)(R:List Row)(ops:Array Oper)(i:Nat)(K:MS->Prop)(m:MS):Prop:=
 match ops[i]? with
 | none=>K m
 | some o=>∃m',MT P k R ops o m m'/\K m'
theorem WX {m:MS}{d:Option Tmp}{v:AV}{x:Operand}(h :∀t,d=some t->x≠.tmp t):(m.put d v).ev x=m.ev x:=by
 cases d with
 | none=>rfl
 | some d=>
  cases x with
  | tmp t=>
   have rC:t≠d:=λe=>h d rfl (e▸rfl);simp[MS.ev,MS.put,St.ev,EE,rC]
  | _=>rfl
theorem MB (m:MS){x y:Option Tmp}(v u:AV)(h :∀d,x=some d->y≠some d):(m.put x v).put y u=(m.put y u).put x v:=by
 cases x with
 | none=>rfl
 | some d=>
  cases y with
  | none=>rfl
  | some e=>
   have rC:d≠e:=λhe=>h d rfl (he▸rfl);simp only[MS.put,MS.mk.injEq,true_and,and_true];funext t;simp only[EE];by_cases h1:t=d
   ·subst h1;simp[rC]
   ·by_cases h2:t=e
    ·subst h2;simp[h1]
    ·simp[h1,h2]
theorem VG (m:MS)(kd:Kind)(d:Option Tmp)(v:AV):(m.put d v).go kd=(m.go kd).put d v:=by cases d<;>rfl
theorem WI {o:Oper}{m:MS}:Fj ops o (m.st R)=Fj ops o ⟨m.n,m.e,[]⟩:=rfl
theorem HV {oi:Oper}{m:MS}{d:Option Tmp}{u:AV}{kd:Kind}(hd :∀t,d=some t->t ∉ oi.looksAt ops):Fj ops oi (((m.go kd).put d u).st R)=Fj ops oi (m.st R):=by
 rw[WI,WI];unfold Fj;cases hg:oi.guard with
 | none=>rfl
 | some p=>
  obtain⟨j,want⟩:=p;dsimp only;cases ht:(ops[j]?).bind (·.dst) with
  | none=>rfl
  | some t=>
   dsimp only;have:((m.go kd).put d u).e t=m.e t:=WX (m:=m.go kd) (x:=.tmp t) λt' wu e=>hd t' wu (by
    cases e;exact nm _ (by simp[hg,ht]))
   rw[this]
theorem LP {oi:Oper}{m:MS}{d:Option Tmp}{u:AV}(hd :∀t,d=some t->t ∉ oi.looksAt ops):∀x∈oi.op.operands,(m.put d u).ev x=m.ev x:=λx hx=>
 WX λt ht hxt=>hd t ht (by
  subst hxt;exact mf _ (mu.2 ⟨.tmp t,by simpa using hx,rfl⟩))
theorem dE.congr {o:Oper}{n:Nat}{ev ev':Operand->AV}{kd:Kind}{v:AV}(h:dE P k R o n ev kd v)(he :∀y∈o.op.operands,ev' y=ev y):dE P k R o n ev' kd v:=
 λx z e hD ho hd=>h x z e hD (λy hy=>(ho y hy).trans (he y hy)) hd
theorem bz {ki kj:Kind}{oi oj:Oper}(hi:ki.fits oi)(hj:kj.fits oj)(hf:¬ (UA oi=true/\UA oj=true))(ha:¬ (UJ oi=true/\UJ oj=true)){x:Row}{z:List Row}(h1:ki.D x z)(h2:kj.D (ki.fx x) (ki.fz z)):
  kj.D x z/\ki.D (kj.fx x) (kj.fz z)/\ki.fx (kj.fx x)=kj.fx (ki.fx x)/\ki.fz (kj.fz z)=kj.fz (ki.fz z):=by
 cases ki with
 | q=>exact⟨h2,lU,rfl,rfl⟩
 | l x0 y=>
  cases kj with
  | q=>exact⟨lU,h1,rfl,rfl⟩
  | l x1 y1=>exact absurd ⟨hi,hj⟩ hf
  | a row=>exact⟨h2,h1,rfl,rfl⟩
 | a row=>
  cases kj with
  | q=>exact⟨lU,h1,rfl,rfl⟩
  | l x1 y1=>exact⟨h2,h1,rfl,rfl⟩
  | a row1=>exact absurd ⟨hi,hj⟩ ha
theorem fK {oi oj:Oper}{m mi mij:MS}(hap:oi.apart ops oj=true)(hf:¬ (UA oi=true/\UA oj=true))(ha:¬ (UJ oi=true/\UJ oj=true))(hi:MT P k R ops oi m mi)(hj:MT P k R ops oj mi mij):
  ∃mj,MT P k R ops oj m mj/\MT P k R ops oi mj mij:=by
 obtain⟨h1,h2,h3⟩:=Oper.apart_spec hap;have hq:∀(m:MS),m.go .q=m:=λm=>rfl;rcases hi with ⟨wi,ki,vi,fi,di,rfl,gi⟩|⟨wi,rfl⟩<;>rcases hj with ⟨wj,kj,vj,fj,dj,rfl,gj⟩|⟨wj,rfl⟩
 ·rw[HV h1]at wj;rw[Na,NH]at dj;obtain⟨e1,e2,e3,e4⟩:=bz fi fj hf ha di dj;refine⟨(m.go kj).put oj.dst vj,.inl ⟨wj,kj,vj,fj,e1,rfl,?_⟩,.inl ⟨by rw[HV h3];exact wi,ki,vi,fi,by rw[Na,NH];exact e2,?_,?_⟩⟩
  ·rw[NK]at gj;exact gj.congr λy hy=>(LP (m:=m.go ki) (u:=vi) h1 y hy).symm
  ·rw[VG,VG,<- MB _ vi vj h2];congr 2;simp only[MS.go,e3,e4]
  ·rw[NK];exact gi.congr λy hy=>LP (m:=m.go kj) h3 y hy
 ·rw[HV h1]at wj;refine⟨m.put oj.dst .un,.inr ⟨wj,rfl⟩,.inl ⟨by have:=HV (R:=R) (m:=m) (kd:=.q) (u:=.un) h3;rw[hq]at this;rw[this];exact wi,ki,vi,fi,by rw[Na,NH];exact di,?_,?_⟩⟩
  ·rw[VG,<- MB _ vi .un h2]
  ·rw[NK];exact gi.congr λy hy=>LP h3 y hy
 ·have h5:=HV (R:=R) (m:=m) (kd:=.q) (u:=.un) h1;rw[hq]at h5;rw[h5]at wj;rw[Na,NH]at dj;refine⟨(m.go kj).put oj.dst vj,.inl ⟨wj,kj,vj,fj,dj,rfl,?_⟩,.inr ⟨by rw[HV h3];exact wi,?_⟩⟩
  ·rw[NK]at gj;exact gj.congr λy hy=>(LP h1 y hy).symm
  ·rw[VG,<- MB _ .un vj h2]
 ·have h5:=HV (R:=R) (m:=m) (kd:=.q) (u:=.un) h1;have h6:=HV (R:=R) (m:=m) (kd:=.q) (u:=.un) h3;rw[hq]at h5 h6;rw[h5]at wj;exact⟨m.put oj.dst .un,.inr ⟨wj,rfl⟩,.inr ⟨by rw[h6];exact wi,by rw[<- MB _ .un .un h2]⟩⟩
def anyM (P:Program)(k:Nat)(R:List Row)(md:Region.Mode)(ops:Array Oper)(n:Nat)(L:Array Bool->MS->Prop):Nat->Array Bool->MS->Prop
 | 0,qU,s=>L qU s
 | f+1,qU,s=>Region.ready md ops qU≠[]/\∀i∈Region.ready md ops qU,i<n/\VZ P k R ops i (anyM P k R md ops n L f (qU.setIfInBounds i true)) s
theorem XJ {F:Nat->Prop}{os:List Own}{a:Act}{w:World}{i:Nat}{K:MS->Prop}{m:MS}(rU :∀o∈ops.toList,DH m.n o.dst=true)(hr:Rel F os (m.st R) a w)(h:VZ P k R ops i K m){next:Act->World->Prop}{Q:Exit->Act->World->Prop}
  (hn :∀a' w',Step k m.n F os w (λs=>∃m',s=m'.st R/\K m') a' w'->next a' w'):wpOp P ops Q i next a w:=by
 unfold VZ at h;unfold wpOp;split
 ·rename_i ho;simp only[ho]at h;exact hn a w ⟨m.st R,F,os,rfl,⟨m,rfl,h⟩,hr,Ext.refl _ _ _ _⟩
 ·rename_i o ho;simp only[ho]at h;obtain⟨m',hy,hK⟩:=h;have vt:=rU o (by have:=lT (l:=ops.toList) (i:=i) (by simpa using ho);exact this);rcases hy with ⟨hw,kd,v,_,hD,rfl,hg⟩|⟨hw,rfl⟩
  ·rw[ld (NV hr rU hw)];refine .inl (hg m.x m.z m.e hD (λ_ _=>rfl) vt F os a w hr next Q ?_);rintro a' w' ⟨s',F',os',h1,rfl,h3,h4⟩;exact hn a' w' ⟨_,F',os',h1,⟨_,rfl,hK⟩,h3,h4⟩
  ·rw[la (by rw[NV hr rU hw];simp)];exact hn _ w ⟨_,F,os,by rw[Ov];cases o.dst<;>rfl,⟨_,rfl,hK⟩,by rw[Ov];exact hr.un vt,Ext.refl _ _ _ _⟩
theorem Pg {n g N:Nat}{L:Array Bool->MS->Prop}{Q':Exit->Act->World->Prop}{F0:Nat->Prop}{os0:List Own}{w0:World}(rU :∀o∈ops.toList,DH N o.dst=true)
  (hL :∀qU (m:MS) F os a w,m.n=N->L qU m->Rel F os (m.st R) a w->Ext F0 os0 w0 F os w k->wpAny P md ops Q' g qU a w) :
  ∀(f:Nat) (qU:Array Bool) (m:MS) F os a w,m.n=N->anyM P k R md ops n L f qU m->Rel F os (m.st R) a w->Ext F0 os0 w0 F os w k->wpAny P md ops Q' (f+g) qU a w
 | 0,qU,s,F,os,a,w,hn,h,hr,he=>by rw[ml];exact hL _ _ _ _ _ _ hn h hr he
 | f+1,qU,s,F,os,a,w,hn,h,hr,he=>by
  rw[show f+1+g=(f+g)+1 by omega];refine⟨λh0=>absurd h0 h.1,λi hi=>?_⟩;refine XJ (k:=k) (by rw[hn];exact rU) hr (h.2 i hi).2 ?_;rintro a' w' ⟨s',F',os',h1,⟨m',rfl,h2⟩,h3,h4⟩;exact Pg rU hL f _ m' F' os' a' w' (by rw[<- hn];exact h1) h2 h3 (he.trans h4)
def I0 (ops:Array Oper)(i:Nat):Bool:=match ops[i]? with|some o=>UA o|none=>false
def QV (ops:Array Oper)(i:Nat):Bool:=match ops[i]? with|some o=>UJ o|none=>false
def fL (md:Region.Mode)(ops:Array Oper)(j i:Nat):Bool:=match ops[j]? with|some o=>o.after.any λe=>Region.binds md e&&e.on==i|none=>false
def Rt (md:Region.Mode)(ops:Array Oper)(n:Nat):Bool:=
 (List.range n).all λj=>(List.range j).all λi=>(!(QV ops i&&QV ops j))&&(!(I0 ops i&&I0 ops j) || ((List.range j).any λm=>decide (i<m)&&I0 ops m) || fL md ops j i)
theorem PW {n:Nat}(h:Rt md ops n=true){i j:Nat}(vT:i<j)(hj:j<n):¬ (QV ops i=true/\QV ops j=true)/\
  (I0 ops i=true->I0 ops j=true->(∃m,i<m/\m<j/\I0 ops m=true)∨∀oj,ops[j]?=some oj->∃e∈oj.after,Region.binds md e=true/\e.on=i):=by
 unfold Rt at h;have h1:=lh.1 (lh.1 h j (na.2 hj)) i (na.2 vT);rw[mE]at h1;refine⟨λ⟨a,b⟩=>?_,λa b=>?_⟩
 ·simp[a,b]at h1
 ·have h2:=h1.2;simp only[a,b,pU,nA,Bool.false_or,Bool.or_eq_true,oC,na,mE,lq]at h2;rcases h2 with ⟨m,hm,h3,h4⟩|h2
  ·exact .inl ⟨m,h3,hm,h4⟩
  ·refine .inr λoj tD=>?_;simp only[fL,tD,Array.any_eq_true']at h2;obtain⟨e,he,hb⟩:=h2;simp only[mE,beq_iff_eq]at hb;exact⟨e,he,hb⟩
theorem ZC {n:Nat}(h:Rt md ops n=true){qU:Array Bool}(inv:HeadInv md ops n qU):∀(d i j:Nat),j-i=d->i<j->j<n->I0 ops i=true->I0 ops j=true->
  qU.getD j false=true->qU.getD i false=true:=by
 intro d
 induction d using Nat.strongRecOn with
 | _ d ih=>
  intro i j hd vT hj hi zW hl;rcases (PW h vT hj).2 hi zW with ⟨m,h1,h2,h3⟩|h1
  ·have hm:=ih (j-m) (by omega) m j rfl h2 hj h3 zW hl;exact ih (m-i) (by omega) i m rfl h1 (by omega) hi h3 hm
  ·obtain⟨oj,tD⟩ :∃oj,ops[j]?=some oj:=by
    unfold I0 at zW;split at zW
    ·rename_i o ho;exact⟨o,ho⟩
    ·cases zW
   obtain⟨e,he,hb,rfl⟩:=h1 oj tD;exact inv.closed j oj tD hl e he hb
theorem Z3 {n:Nat}(h:Rt md ops n=true){qU:Array Bool}(inv:HeadInv md ops n qU){i j:Nat}(vT:i<j)(hj:j<n)(hi:I0 ops i=true)(zW:I0 ops j=true)
  (hr:j∈Region.ready md ops qU):qU.getD i false=true:=by
 obtain⟨_,oj,tD,rm⟩:=oR.1 hr;have key:∀(d i:Nat),j-i=d->i<j->I0 ops i=true->qU.getD i false=true:=by
  intro d
  induction d using Nat.strongRecOn with
  | _ d ih=>
   intro i hd vT hi;rcases (PW h vT hj).2 hi zW with ⟨m,h1,h2,h3⟩|h1
   ·exact ZC h inv _ i m rfl h1 (by omega) hi h3 (ih (j-m) (by omega) m rfl h2 h3)
   ·obtain⟨e,he,hb,rfl⟩:=h1 oj tD;exact rm e he hb
 exact key _ i rfl vT hi
theorem aA {n i:Nat}{oi:Oper}{L:Array Bool->MS->Prop}(yh:Rt md ops n=true)(hi:ops[i]?=some oi)
  (sC :∀qU,HeadInv md ops n qU->∀i,i<n->qU.getD i true=false->∀t,n<=t->t ∉ Region.ready md ops qU) (rY:i<n)
  (uq :∀qU s,L qU s->∀j∈Region.ready md ops qU,n<=j) :
  ∀(f:Nat) (qU:Array Bool) (m mi:MS),HeadInv md ops n qU->(∀j,j<i->qU.getD j true=true)->
   (∀j oj,ops[j]?=some oj->j≠i->qU.getD j true=false->(∀e∈oj.after,Region.binds md e=true->e.on≠i)->oi.apart ops oj=true)->
   i∈Region.ready md ops qU->MT P k R ops oi m mi->
   anyM P k R md ops n L f (qU.setIfInBounds i true) mi->anyM P k R md ops n L (f+1) qU m:=by
 have tQ:∀{K:MS->Prop} {m mi:MS},MT P k R ops oi m mi->K mi->VZ P k R ops i K m:=λ{K m mi} hy h=>by
  unfold VZ;simp only[hi];exact⟨mi,hy,h⟩
 intro f
 induction f with
 | zero=>
  intro qU m mi inv vy _ hr hy H;have sd:=(oR.1 hr).1;refine⟨λh=>(by rw[h]at hr;cases hr),λj hj=>?_⟩;have wN:j<n:=by
   rcases nb j n with h|h
   ·exact h
   ·exact absurd hj (sC _ inv i rY sd j h)
  refine⟨wN,?_⟩;by_cases sZ:j=i
  ·subst sZ;exact tQ hy H
  ·have:=uq _ _ H j (oP hj sZ);omega
 | succ f ih=>
  intro qU m mi inv vy tC hr hy H;have sd:=(oR.1 hr).1;refine⟨λh=>(by rw[h]at hr;cases hr),λj hj=>?_⟩;have wN:j<n:=by
   rcases nb j n with h|h
   ·exact h
   ·exact absurd hj (sC _ inv i rY sd j h)
  refine⟨wN,?_⟩;by_cases sZ:j=i
  ·subst sZ;exact tQ hy H
  ·have h1:=(H.2 j (oP hj sZ)).2;obtain⟨tm,oj,tD,rm⟩:=oR.1 hj;have vu:∀e∈oj.after,Region.binds md e=true->e.on≠i:=λe he hb heq=>by
    have h1:=rm e he hb;rw[heq,getD_both sd]at h1;cases h1
   have qu:i<j:=by
    rcases nG i j with h|h|h
    ·exact h
    ·exact absurd h.symm sZ
    ·have:=vy j h;rw[tm]at this;cases this
   have hfn:¬ (UA oi=true/\UA oj=true):=λ⟨h1,h2⟩=>by
    have:=Z3 yh inv qu wN (by simp[I0,hi,h1]) (by simp[I0,tD,h2]) hj;rw[getD_both sd]at this;cases this
   have wT:¬ (UJ oi=true/\UJ oj=true):=λ⟨h1,h2⟩=>
    (PW yh qu wN).1 ⟨by simp[QV,hi,h1],by simp[QV,tD,h2]⟩
   unfold VZ at h1;simp only[tD]at h1;obtain⟨mij,hmt,hK⟩:=h1;obtain⟨mj,g1,g2⟩:=fK (tC j oj tD sZ tm vu) hfn wT hy hmt;unfold VZ;simp only[tD];refine⟨mj,g1,ih (qU.setIfInBounds j true) mj mij (inv.set hj wN) (λq hq=>?_) ?_ (oP hr (nK sZ)) g2 ?_⟩
   ·rw[pD true (by omega)];exact vy q hq
   ·intro k ok hk zJ sd hno;refine tC k ok hk zJ ?_ hno;by_cases hjk:j=k
    ·subst hjk;exact tm
    ·rw[pD true hjk]at sd;exact sd
   ·rw[oU _ _ sZ];exact hK
def Ks (P:Program)(k:Nat)(R:List Row):List (Option Tmp)->List Oper->(MS->Prop)->MS->Prop
 | _,[],K,m=>K m
 | ds,o::r,K,m=>I4 ds o (m.st R) (∃m',kg P k R o m m'/\Ks P k R (ds++[o.dst]) r K m') (Ks P k R (ds++[o.dst]) r K (m.put o.dst .un))
theorem Xr {n g:Nat}{K:MS->Prop}(yh:Rt md ops n=true)(sC :∀qU,HeadInv md ops n qU->∀i,i<n->qU.getD i true=false->∀t,n<=t->t ∉ Region.ready md ops qU):
  ∀(l:List Oper) (ds:List (Option Tmp)) (qU:Array Bool) (m:MS),(∀(j:Nat),j<l.length->l[j]?=ops[ds.length+j]?)->(∀(j:Nat) d,ds[j]?=some d->(ops[j]?).map (·.dst)=some d)->ds.length+l.length=n->HeadInv md ops n qU->
  (∀j,j<ds.length->qU.getD j true=true)->
  Region.lexHead md ops g l.length ds.length qU=true->Ks P k R ds l K m->
  anyM P k R md ops n (λlisted' s'=>Region.seqB md ops g n listed'=true/\K s') l.length qU m
 | [],ds,qU,s,_,_,hk,_,_,hB,h=>by
  have:ds.length=n:=by simpa using hk
  subst this;exact⟨by simpa [Region.lexHead] using hB,h⟩
 | o::l,ds,qU,s,hl,uI,hk,inv,vy,hB,h=>by
  have h0:ops[ds.length]?=some o:=by simpa using (hl 0 (by simp)).symm
  simp only[mN,Region.lexHead,mE]at hB;obtain⟨⟨hr,hf⟩,hB'⟩:=hB;have hkn:ds.length<n:=by simp only[mN]at hk;omega
  have ru:ds.length∈Region.ready md ops qU:=by simpa using hr
  have uu :∀(j:Nat) d,(ds++[o.dst])[j]?=some d->(ops[j]?).map (·.dst)=some d:=λj d hj=>by
   rcases nG j ds.length with h1|h1|h1
   ·rw[lj h1]at hj;exact uI j d hj
   ·subst h1;rw[Jz,lX]at hj;rw[h0];simp[hj]
   ·rw[mV (by simp;omega)]at hj;cases hj
  have hlow' :∀j,j<(ds++[o.dst]).length->(qU.setIfInBounds ds.length true).getD j true=true:=λj hj=>by
   simp only[mD,mN,nD]at hj;by_cases hjd:ds.length=j
   ·subst hjd;rcases nb ds.length qU.size with h5|h5
    ·simp[h5]
    ·simp[od h5]
   ·rw[pD true hjd];exact vy j (by omega)
  have rv:∀s',Ks P k R (ds++[o.dst]) l K s'->anyM P k R md ops n (λlisted' s'=>Region.seqB md ops g n listed'=true/\K s') l.length (qU.setIfInBounds ds.length true) s':=λs' uf=>
   Xr yh sC l (ds++[o.dst]) _ s' (λj hj=>by
    have:=hl (j+1) (by simp;omega);simp only[mQ]at this;rw[this];congr 1;simp;omega) uu (by simp only[mN,mD,nD]at hk⊢;omega) (inv.set ru hkn) hlow' (by simpa using hB') uf
  have tR:∀m',MT P k R ops o s m'->Ks P k R (ds++[o.dst]) l K m'->anyM P k R md ops n (λlisted' s'=>Region.seqB md ops g n listed'=true/\K s') (l.length+1) qU s:=λm' hy hK=>
   aA yh h0 sC hkn (λlisted' s' hL=>seqB_ready hL.1) l.length qU s m' inv vy (pb h0 hf) ru hy (rv _ hK)
  simp only[Ks]at h;rcases WT uI h with ⟨hw,m',h1,h2⟩|⟨hw,h1⟩
  ·exact tR m' (.inl ⟨hw,h1⟩) h2
  ·exact tR _ (.inr ⟨hw,rfl⟩) h1
theorem Bh {id n:Nat}{e:Nat->AV}{x:Row}{Q:Exit->St->Prop}(R:List Row)(m:Nat)(hm:P.follows .mixedOrders=true)(hB:Region.lexTailB .any ops m=true)(hw:Rt .any ops m=true)(hd:(ops.toList.all λo=>DH n o.dst)=true)
  (h:Ks P k R [] (ops.toList.take m) (λs'=>AO P k ops Q ((ops.toList.take m).map (·.dst)) (ops.toList.drop m) (s'.st R)) ⟨n,e,x,[]⟩):AW P k (.region id ops true) Q ⟨n,e,x::R⟩:=by
 simp only[Region.lexTailB,mE,lq]at hB;obtain⟨⟨⟨⟨_,hn⟩,hs⟩,hc⟩,hlex⟩:=hB;intro F os a w hr;have hr0:Rel F os (MS.st R ⟨n,e,x,[]⟩) a w:=by simpa [MS.st] using hr
 obtain⟨wv,he1⟩:=hr0.drew (k:=k);refine pV hm ?_;have uJ:(ops.toList.take m).length=m:=by simp;omega
 have hdl:(ops.toList.drop m).length=ops.size-m:=by simp
 have H:=Xr (md:=.any) (ops:=ops) (n:=m) (g:=ops.size-m) (k:=k) (R:=R) (P:=P) (K:=λs'=>AO P k ops Q ((ops.toList.take m).map (·.dst)) (ops.toList.drop m) (s'.st R)) hw
  (λqU inv i hi sd t ht=>tail_waits hs hc hn inv _ i rfl hi sd t ht) (ops.toList.take m) [] _ _ (λj hj=>by
   rw[uJ]at hj;rw[mJ,ld hj];simp) (by simp) (by simpa using uJ) (TB _) (by simp) (by rw[uJ];exact hlex) h
 have:=Pg (k:=k) (g:=ops.size-m) (N:=n) (R:=R) (Q':=KO k Q F os w) (F0:=F) (os0:=os) (w0:=w) (λo ho=>lh.1 hd o ho) (λqU s' F' os' a' w' hn' hL ru he=>by
  have h1:=hL.2 (λj=>by
    rw[ly,uJ,mU];simp) (λj d hj=>by
    simp only[lW,mJ]at hj;split at hj
    ·simpa using hj
    ·cases hj) (by show∀o∈ops.toList,DH s'.n o.dst=true;rw[hn'];exact λo ho=>lh.1 hd o ho) F' os' a' w' ru (KO k Q F os w) λ_ _ _ hp=>KO.trans he hp
  have h2:=wpAny_of_seq (md:=.any) (Q':=KO k Q F os w) (ops.toList.drop m) m qU a' w' (λj=>by simp[mU]) (by rw[hdl];exact hL.1) h1;rwa [hdl]at h2) _ _ _ F os a w.drew rfl H wv he1
 rw[uJ,show m+(ops.size-m)=ops.size by omega]at this;exact this
end
section
variable {P : Program} {k : Nat} {R : List Row} {ds : List (Option Tmp)} {r : List Oper} {K : MS -> Prop} {n : Nat} {e : Nat -> AV} {x0 : Row} {z0 : List Row} {t : Tmp} {op : Op} {ty : TypeId} {ps : String} {ed : Array Edge} {gd : Option (Nat × Bool)} {v : AV}
theorem GO.elim {o:Oper}{A B:Prop}{s:St}(hg:GO ds gd s.env)(ho:o.guard=gd)(h:I4 ds o s A B):A:=by
 unfold I4 at h;rw[ho]at h;cases gd with
 | none=>exact h
 | some q=>
  obtain⟨jj,want⟩:=q;obtain⟨tg,hj,ht⟩:=hg;simp only[hj,ht,aE]at h;exact h.1 rfl
theorem Fa (hg:GO ds gd e)(h :∀x z,D7 P ds [⟨some t,op,ty,ps,ed,gd⟩] (λs'=>s'.env t=v) ⟨n,e,x::(R++z)⟩)(hk:Ks P k R (ds++[some t]) r K ⟨n,EE e t v,x0,z0⟩):
  Ks P k R ds (⟨some t,op,ty,ps,ed,gd⟩::r) K ⟨n,e,x0,z0⟩:=by
 refine GO.guard (e:=e) hg ⟨_,⟨.q,v,lU,lU,rfl,?_⟩,hk⟩;intro x z e' _ ho hd F os a w hr next Q hn
 have h1:=h x z;unfold D7 at h1;have h2:=GO.elim (s:=⟨n,e,x::(R++z)⟩) hg rfl h1;obtain⟨v',hv,h3⟩:=WO h2;have hvv:v'=v:=by simpa [D7,St.put,EE] using hv
 subst hvv;have h4:LC P ⟨some t,op,ty,ps,ed,gd⟩ (MS.st R ⟨n,e',x,z⟩) (·=v'):=Oa (s:=⟨n,e,x::(R++z)⟩) rfl (λy hy=>by
  have:=ho y hy;rw[UG,this];cases y<;>rfl) h3
 exact YF (k:=k) hr hd h4 (by rw[Ov]at hn;exact hn)
theorem E3 {K':St->Prop}{st:List Row}(qx:x0::(R++z0)=st)(h:K' ⟨n,e,st⟩):Ks P k R ds [] (λm=>K' (m.st R)) ⟨n,e,x0,z0⟩:=by
 subst qx;exact h
theorem Zt {T:TypeId}{zz:List AV}{m:Nat}(hz:Hx P T=some zz)(hm:R.length+1=m)(hk:Ks P k R (ds++[some t]) r K ⟨n,EE e t (.ptr m 0 0 0),x0,[⟨0,T,zz.length,[zz]⟩]⟩):
  Ks P k R ds (⟨some t,.alloc T,ty,ps,ed,none⟩::r) K ⟨n,e,x0,[]⟩:=by
 subst hm;refine⟨_,⟨.a ⟨0,T,zz.length,[zz]⟩,.ptr (R.length+1) 0 0 0,rfl,rfl,rfl,?_⟩,hk⟩;intro x z e' hz0 ho hd F os a w hr next Q hn
 have hz0:z=[]:=hz0;subst hz0;refine K0 (k:=k) (K:=(·=MS.st R ((MS.go ⟨n,e',x,[]⟩ (.a ⟨0,T,zz.length,[zz]⟩)).put (some t) (.ptr (R.length+1) 0 0 0)))) hr hd ?_ hn;refine Aq _ hz ?_;simp[MS.st,MS.go,MS.put,St.put,Kind.fx,Kind.fz]
theorem Tc {sel:List Nat}{A z:List Row}(h:sel.all (·<A.length)=true):Cb (A++z) sel=Cb A sel:=by
 unfold Cb
 induction sel with
 | nil=>rfl
 | cons i l ih=>
  simp only[ns,mE,lq]at h;rw[nX,nX,lj h.1,ih h.2]
theorem Up {sel:List Nat}{rs A z:List Row}(h:sel.all (·<A.length)=true):GB sel rs 0 (A++z)=GB sel rs 0 A++z:=by
 apply nO;intro i;rw[MK,ml];by_cases hi:i<A.length
 ·rw[lj hi,lj (by rw[J6];exact hi),MK,ml]
 ·rw[ln (by omega),ln (by rw[J6];omega),J6];have hx:idx sel i=none:=by
   cases hx:idx sel i with
   | none=>rfl
   | some p=>
    have:=lT (OT hx);have:=lh.1 h i this;simp at this;omega
  rw[hx];cases z[i-A.length]?<;>rfl
theorem fu {f:FuncId}{rf:Array Operand}{ts:Array TypeId}{args rH:List AV}{rowsP rows0 rows1 rows1':List Row}{v v':AV}{y0:Row}(sel:List Nat)(hg:GO ds gd e)(hb:Dp P f=true)(hc:Ab P f rH rows0 λr st=>r=v/\st=rows1)(ha:rf.toList.map (St.ev ⟨n,e,[]⟩)++[]=args)(sA:sel.Nodup)(qu:sel.all (·<R.length+1)=true)
  (hp:Cb (x0::R) sel=rowsP) (hs:SR sel rowsP rows0) (hf:args.map (KV sel)=rH) (hlen:rows1.length=sel.length) (h1 :∀N,UN sel N rows1 rows1') (hv :∀N,TY sel N v=v') (sT:GB sel rows1' 0 (x0::R)=y0::R)
  (hk:Ks P k R (ds++[some t]) r K ⟨n,EE e t v',y0,z0⟩):Ks P k R ds (⟨some t,.call ⟨.value (.func f),rf,ts⟩,ty,ps,ed,gd⟩::r) K ⟨n,e,x0,z0⟩:=by
 subst ha;subst hp;refine GO.guard (e:=e) hg ⟨_,⟨.l x0 y0,v',rfl,rfl,rfl,?_⟩,hk⟩;intro x z e' hx ho hd F os a w hr next Q hn
 have hx:x=x0:=hx;subst hx;refine K0 (k:=k) (K:=(·=MS.st R ((MS.go ⟨n,e',x,z⟩ (.l x y0)).put (some t) v'))) hr hd ?_ hn;show Dp P f=true/\callThen P k (MS.st R ⟨n,e',x,z⟩) f (rf.toList.map (MS.st R ⟨n,e',x,z⟩).ev++[]) (some t) _;have hev:rf.toList.map (MS.st R ⟨n,e',x,z⟩).ev=rf.toList.map (St.ev ⟨n,e,[]⟩):=Sy (f:=f) (ts:=ts) (s0:=MS.st R ⟨n,e',x,z⟩) (s1:=⟨n,e,[]⟩) λy hy=>by rw[UG];exact ho y hy
 rw[hev];refine⟨hb,Kk λhle=>?_⟩;have tX:(MS.st R ⟨n,e',x,z⟩).st=(x::R)++z:=rfl;have zX:sel.all (·<(x::R).length)=true:=by simpa using qu
 have yi:Cb (MS.st R ⟨n,e',x,z⟩).st sel=Cb (x::R) sel:=by rw[tX];exact Tc zX
 obtain⟨e1,e3⟩:=hs.spec (st0:=(MS.st R ⟨n,e',x,z⟩).st) hle (λrow qa=>by
  rw[<- yi]at qa;obtain⟨i,_,hi⟩:=mu.1 qa;exact lT hi)
 refine LO (rows2:=[]) sel (by simpa using hc) sA (λi hi=>by
   have:=lh.1 zX i hi;rw[tX,mD];simp only[lq]at this;omega) (by rw[yi];exact e1) e3 hf hlen (λrow qa=>by
  rw[mn]at qa;exact (h1 _).leaf row qa) λ_=>?_
 rw[(h1 _).spec,hv,tX,Up zX,sT];simp[MS.st,MS.go,MS.put,St.put,Kind.fx,Kind.fz]
end
end Go.Abs
namespace Go.Abs
open Go
def jl (e:Nat->AV):List (Nat×AV)->List AV
 | []=>[]
 | (t,_)::r=>e t::jl e r
def jZ:List (Nat×AV)->List AV
 | []=>[]
 | (_,v)::r=>v::jZ r
theorem ME.same {e:Nat->AV}:∀{L:List (Nat×AV)},jl e L=jZ L->ME e L
 | [],_=>trivial
 | (t,v)::r,h=>by
  simp only[jl,jZ,oI]at h;obtain⟨h1,h2⟩:=h;subst h1;exact⟨.rfl,ME.same h2⟩
section
variable {P : Program} {k : Nat} {R : List Row} {ds : List (Option Tmp)} {r : List Oper} {K : MS -> Prop} {n : Nat} {e : Nat -> AV} {x0 : Row} {z0 : List Row} {t : Tmp} {op : Op} {ty : TypeId} {ps : String} {ed : Array Edge} {gd : Option (Nat × Bool)}
theorem BN (v:AV)(hg:GO ds gd e)(hl:J5 op=false)(hq :∀x z,AQ P ⟨n,e,x::(R++z)⟩ op v)(hk:Ks P k R (ds++[some t]) r K ⟨n,EE e t v,x0,z0⟩):
  Ks P k R ds (⟨some t,op,ty,ps,ed,gd⟩::r) K ⟨n,e,x0,z0⟩:=
 Fa hg (λx z=>IN hg hl (hq x z) (Aw (by simp[EE]))) hk
theorem Gj {f:FuncId}{rf:Array Operand}{ts:Array TypeId}{args rH:List AV}{rows0 rows1:List Row}{v v':AV}{y0:Row}(sel:List Nat)(hg:GO ds gd e)(hb:Dp P f=true)(hc:Ab P f rH rows0 λr st=>r=v/\st=rows1)(ha:rf.toList.map (St.ev ⟨n,e,[]⟩)++[]=args)(sA:sel.Nodup)(qu:sel.all (·<R.length+1)=true)
  (hp:Cb (x0::R) sel=rows0) (hs:SR sel rows0 rows0) (hf:args.map (KV sel)=rH) (hlen:rows1.length=sel.length) (h1 :∀N,UN sel N rows1 rows1) (hv :∀N,TY sel N v=v') (sT:GB sel rows1 0 (x0::R)=y0::R)
  (hk:Ks P k R (ds++[some t]) r K ⟨n,EE e t v',y0,z0⟩):Ks P k R ds (⟨some t,.call ⟨.value (.func f),rf,ts⟩,ty,ps,ed,gd⟩::r) K ⟨n,e,x0,z0⟩:=
 fu sel hg hb hc ha sA qu hp hs hf hlen h1 hv sT hk
end
section
variable {P : Program} {k : Nat} {s : St} {ops : Array Oper} {Q : Exit -> St -> Prop} {ds : List (Option Tmp)} {r : List Oper} {n : Nat} {e : Nat -> AV} {st st' : List Row} {ty : TypeId} {ps : String} {ed : Array Edge} {d : Option Tmp} {v v' : AV} {gd : Option (Nat × Bool)}
variable {f : FuncId} {rf : Array Operand} {ts : Array TypeId} {args rH : List AV} {rows0 rows1 : List Row}
theorem CN (sel:List Nat)(hg:GO ds gd e)(hb:Dp P f=true)(hc:Ab P f rH rows0 λr st=>r=v/\st=rows1)(ha:rf.toList.map (St.ev ⟨n,e,st⟩)++[]=args)(sA:sel.Nodup)(qu:sel.all (·<st.length)=true)
  (hp:Cb st sel=rows0) (hs:SR sel rows0 rows0) (hf:args.map (KV sel)=rH) (hlen:rows1.length=sel.length) (h1:UN sel st.length rows1 rows1) (h2:UN sel st.length [] []) (hv:TY sel st.length v=v') (sT:GB sel rows1 0 st=st')
  (hk:AO P k ops Q (ds++[d]) r (St.put ⟨n,e,st'⟩ d v')):AO P k ops Q ds (⟨d,.call ⟨.value (.func f),rf,ts⟩,ty,ps,ed,gd⟩::r) ⟨n,e,st⟩:=
 GF (rows2:=[]) (rows2':=[]) sel hg hb (by simpa using hc) ha sA qu hp hs hf hlen h1 h2 hv (by simpa using sT) hk
end
def ku:Nat->Nat->List Bool
 | 0,_=>[]
 | n+1,m=>(m % 2==1)::ku n (m / 2)
def bm (n m:Nat):Array Bool:=⟨ku n m⟩
end Go.Abs
