import Derived.Test.YtihdgoiebmfapaaGreatAbsW
import Derived.Lib.AppendZerosOnto
import Derived.OrdersHeld
namespace Go.Abs
open Go
def PW:AV->Bool
 | .int ..|.bool _|.str _|.zc|.QX|.Qc|.dv ..=>true
 | _=>false
def Si (xs:List (List AV)):Prop:=∀x∈xs,∀c∈x,PW c=true
theorem YH {F S:Nat->Prop}{w:World}{os:List Own}{c:AV}{u:Value}(hc:PW c=true)(hd :∀e s ys,c≠.dv e s ys)(h:Ae F w os c u):EU S w c u:=by
 cases c<;>simp only[PW,jk]at hc<;>simp only[Ae]at h<;>simp only[EU]<;>first|exact h|exact absurd rfl (hd _ _ _)
theorem N6 {F S:Nat->Prop}{w:World}{os:List Own}{c:AV}{u:Value}(h:EU S w c u):Ae F w os c u/\c.kept=true/\PW c=true:=by
 cases c<;>simp only[EU]at h
 case dv=>
  refine⟨?_,rfl,rfl⟩;simp only[Ae];rcases h.2 with ⟨_,a,rfl⟩|⟨b,cap,cur,rfl,_⟩<;>exact⟨_,_,_,rfl⟩
 all_goals first|exact h.elim|exact⟨by simp only[Ae];exact h,rfl,rfl⟩
theorem XK {w:World}{cur:Array Value}{D:Nat->Nat->Prop}(hdis :∀j j' b,D j b->D j' b->j=j'):∀(x:List AV) (o j0:Nat),(∀(j:Nat) c,x[j]?=some c->∃u,cur[o+j]?=some u/\EU (D (j0+j)) w c u)->
  Kd (λb=>∃j,j0<=j/\D j b) w x cur o
 | [],_,_,_=>by simp[Kd]
 | c::r,o,j0,h=>by
  simp only[Kd];obtain⟨u,h1,h2⟩:=h 0 c rfl;refine⟨D j0,λb=>∃j,j0+1<=j/\D j b,λb hb=>⟨j0,jv _,hb⟩,λb ⟨j,hj,hb⟩=>⟨j,by omega,hb⟩,λb hb ⟨j,hj,hb'⟩=>by have:=hdis _ _ _ hb hb';omega,⟨u,h1,h2⟩,?_⟩;exact XK hdis r (o+1) (j0+1) λj c hc=>by
   obtain⟨u,h1,h2⟩:=h (j+1) c (by simpa using hc);exact⟨u,by rw[<- h1];congr 1;omega,by rw[show j0+1+j=j0+(j+1) by omega];exact h2⟩
theorem XD {w:World}{cur:Array Value}{size:Nat}{D:Nat->Nat->Nat->Prop}(hdis :∀i j i' j' b,D i j b->D i' j' b->i=i'/\j=j'):∀(xs:List (List AV)) (o i0:Nat),(∀x∈xs,x.length=size)->
  (∀(i:Nat) x,xs[i]?=some x->∀(j:Nat) c,x[j]?=some c->∃u,cur[o+i*size+j]?=some u/\EU (D (i0+i) j) w c u)->Kg (λb=>∃i j,i0<=i/\D i j b) w xs cur o
 | [],_,_,_,_=>by simp[Kg]
 | x::r,o,i0,hs,h=>by
  simp only[Kg];refine⟨λb=>∃j,0<=j/\D i0 j b,λb=>∃i j,i0+1<=i/\D i j b,λb ⟨j,_,hb⟩=>⟨i0,j,jv _,hb⟩,λb ⟨i,j,hi,hb⟩=>⟨i,j,by omega,hb⟩,λb ⟨j,_,hb⟩ ⟨i,j',hi,hb'⟩=>by have:=(hdis _ _ _ _ _ hb hb').1;omega,?_,?_⟩
  ·exact XK (D:=D i0) (λj j' b h1 h2=>(hdis _ _ _ _ _ h1 h2).2) x o 0 λj c hc=>by
    obtain⟨u,h1,h2⟩:=h 0 x rfl j c hc;exact⟨u,by rw[<- h1];congr 1;omega,by simpa using h2⟩
  ·rw[hs x (by simp)];exact XD hdis r (o+size) (i0+1) (λx hx=>hs x (by simp[hx])) λi y hy j c hc=>by
    obtain⟨u,h1,h2⟩:=h (i+1) y (by simpa using hy) j c hc;exact⟨u,by rw[<- h1];congr 1;rw[kP];omega,by rw[show i0+1+i=i0+(i+1) by omega];exact h2⟩
theorem Uo {w:World}{cur:Array Value}:∀{x:List AV} {S:Nat->Prop} {o:Nat},Kd S w x cur o->∃D:Nat->Nat->Prop,(∀j b,D j b->S b)/\(∀j j' b,D j b->D j' b->j=j')/\
  ∀(j:Nat) c,x[j]?=some c->∃u,cur[o+j]?=some u/\EU (D j) w c u
 | [],_,_,_=>⟨λ_ _=>False,λ_ _ h=>h.elim,λ_ _ _ h=>h.elim,λj c h=>by simp at h⟩
 | c::r,S,o,h=>by
  simp only[Kd]at h;obtain⟨S1,S2,h1,h2,h3,⟨u,h4,h5⟩,h6⟩:=h;obtain⟨D,d1,d2,d3⟩:=Uo h6;refine⟨λj=>match j with|0=>S1|j+1=>D j,λj b hb=>?_,λj j' b hb hb'=>?_,λj c' hc=>?_⟩
  ·cases j with
   | zero=>exact h1 b hb
   | succ j=>exact h2 b (d1 j b hb)
  ·cases j with
   | zero=>
    cases j' with
    | zero=>rfl
    | succ j'=>exact absurd (d1 j' b hb') (h3 b hb)
   | succ j=>
    cases j' with
    | zero=>exact absurd (d1 j b hb) (h3 b hb')
    | succ j'=>rw[d2 j j' b hb hb']
  ·cases j with
   | zero=>simp only[kK,jh]at hc;subst hc;exact⟨u,h4,h5⟩
   | succ j=>
    obtain⟨u',g1,g2⟩:=d3 j c' (by simpa using hc);exact⟨u',by rw[<- g1];congr 1;omega,g2⟩
theorem VK {w:World}{cur:Array Value}{size:Nat}:∀{xs:List (List AV)} {S:Nat->Prop} {o:Nat},(∀x∈xs,x.length=size)->Kg S w xs cur o->∃D:Nat->Nat->Nat->Prop,(∀i j b,D i j b->S b)/\
  (∀i j i' j' b,D i j b->D i' j' b->i=i'/\j=j')/\∀(i:Nat) x,xs[i]?=some x->∀(j:Nat) c,x[j]?=some c->∃u,cur[o+i*size+j]?=some u/\EU (D i j) w c u
 | [],_,_,_,_=>⟨λ_ _ _=>False,λ_ _ _ h=>h.elim,λ_ _ _ _ _ h=>h.elim,λi x h=>by simp at h⟩
 | x::r,S,o,hs,h=>by
  simp only[Kg]at h;obtain⟨S1,S2,h1,h2,h3,h4,h5⟩:=h;obtain⟨E,e1,e2,e3⟩:=Uo h4;obtain⟨D,d1,d2,d3⟩:=VK (λx hx=>hs x (by simp[hx])) h5;refine⟨λi=>match i with|0=>E|i+1=>D i,λi j b hb=>?_,λi j i' j' b hb hb'=>?_,λi y hy j c hc=>?_⟩
  ·cases i with
   | zero=>exact h1 b (e1 j b hb)
   | succ i=>exact h2 b (d1 i j b hb)
  ·cases i with
   | zero=>
    cases i' with
    | zero=>exact⟨rfl,e2 j j' b hb hb'⟩
    | succ i'=>exact absurd (d1 i' j' b hb') (h3 b (e1 j b hb))
   | succ i=>
    cases i' with
    | zero=>exact absurd (d1 i j b hb) (h3 b (e1 j' b hb'))
    | succ i'=>
     obtain⟨q1,q2⟩:=d2 i j i' j' b hb hb';exact⟨by rw[q1],q2⟩
  ·cases i with
   | zero=>
    simp only[kK,jh]at hy;subst hy;obtain⟨u,g1,g2⟩:=e3 j c hc;exact⟨u,by rw[<- g1];congr 1;omega,g2⟩
   | succ i=>
    obtain⟨u,g1,g2⟩:=d3 i y (by simpa using hy) j c hc;rw[hs x (by simp)]at g1;exact⟨u,by rw[<- g1];congr 1;rw[kP];omega,g2⟩
variable {P : Program} {F : Nat -> Prop} {os : List Own} {s : St} {a : Act} {w : World} {k : Nat}
theorem Tq {p:Own}(h:MW F w os p)(hd:Si p.row.xs){v:Value}(hv:(p.Fe=none/\∃a,v=.slice a p.row.xs.length 0)∨∃b,p.Fe=some b/\v=.slice (some ⟨b,0,none⟩) p.row.xs.length p.cap):
  EU p.owns w (.dv p.row.elem p.row.size p.row.xs) v:=by
 simp only[EU];refine⟨h.pos,?_⟩;rcases hv with ⟨hb,a,rfl⟩|⟨b,hb,rfl⟩
 ·have:=(h.none hb).1;exact .inl ⟨this,a,by rw[this];rfl⟩
 ·obtain⟨_,cur,hcur,hsz,hle,hmax,hcells⟩:=h.some b hb;obtain⟨D,d1,d2,d3⟩:=h.deep;refine .inr ⟨b,p.cap,cur,rfl,hle,hmax,.inl hb,hcur,hsz,λx hx=>(h.lens x hx).1,?_⟩;have:=XD (w:=w) (cur:=cur) (size:=p.row.size) d2 p.row.xs 0 0 (λx hx=>(h.lens x hx).1) (λi x hx j c hc=>by
   simp only[kt];by_cases hdv :∃e s ys,c=.dv e s ys
   ·obtain⟨e,s,ys,rfl⟩:=hdv;exact d3 b hb cur _ _ hcur i x j e s ys hx hc
   ·obtain⟨u,g1,g2⟩:=hcells i x hx j c hc;exact⟨u,g1,YH (hd x (je hx) c (je hc)) (λe s ys e'=>hdv ⟨e,s,ys,e'⟩) g2⟩)
  exact PC (λc ⟨i,j,_,hc⟩=>⟨.inr (d1 i j c hc),λe=>(h.mo c (d1 i j c hc)).2.2 (by rw[hb,e])⟩) (λ_ _=>rfl) _ _ _ this
theorem KN {id m g gm size sz n i j nn:Nat}{el el':TypeId}{xs ys:List (List AV)}{x:List AV}{e:Nat->AV}{st st':List Row}(hrow:st[id]?=some ⟨g,el,size,xs⟩)(hx:xs[i]?=some x)(hc:x[j]?=some (.own m gm n))
  (hm:st[m]?=some ⟨gm,el',sz,ys⟩) (hn:n=ys.length) (hne:id≠m) (hkm:k<=m) (hd:Si ys) (hst:(st.set id ⟨g,el,size,xs.set i (x.set j (.dv el' sz ys))⟩).set m ⟨gm+1,el',sz,[]⟩=st') :
  Wk k ⟨nn,e,st⟩ ⟨nn,e,st'⟩:=λF os a w hr=>by
 subst hst;subst hn;obtain⟨o,ho,hor⟩:=hr.row hrow;obtain⟨p,hp,hpr⟩:=hr.row hm;have hok:=hr.rows id o ho;have hpk:=hr.rows m p hp;have hst:os.map Own.row=st:=hr.st;have hxs:o.row.xs=xs:=by rw[hor]
 have hpx:p.row.xs=ys:=by rw[hpr]
 let o':Own:={ o with row:={ o.row with xs:=xs.set i (x.set j (.dv el' sz ys)) },more:=λb=>o.more b∨p.owns b }
 let p':Own:=⟨{ p.row with gen:=p.row.gen+1,xs:=[] },none,0,FW⟩
 have hil:i<xs.length:=(jg.1 hx).1;have hjl:j<x.length:=(jg.1 hc).1;have hidl:=(jg.1 ho).1;have hml:=(jg.1 hp).1;have hdis:∀b,o.owns b->¬ p.owns b:=λb h1 h2=>hne (hr.inj id m o p b ho hp h1 h2);have hget:∀(q:Nat) (oq:Own),((os.set id o').set m p')[q]?=some oq->(q≠id/\q≠m/\os[q]?=some oq)∨(q=id/\oq=o')∨(q=m/\oq=p'):=λq oq hq=>by
  by_cases e:q=m
  ·subst e;rw[ju (by simpa using hml),jh]at hq;exact .inr (.inr ⟨rfl,hq.symm⟩)
  ·rw[kG (lK e)]at hq;by_cases e2:q=id
   ·subst e2;rw[ju hidl,jh]at hq;exact .inr (.inl ⟨rfl,hq.symm⟩)
   ·rw[kG (lK e2)]at hq;exact .inl ⟨e2,e,hq⟩
 have hos:FH os ((os.set id o').set m p'):=λq oq hq=>by
  by_cases e:q=m
  ·subst e;rw[hp]at hq;cases hq;exact⟨p',ju (by simpa using hml),Nat.le_succ _,rfl,λe=>by simp[p']at e⟩
  ·rw[kG (lK e)];by_cases e2:q=id
   ·subst e2;rw[ho]at hq;cases hq;exact⟨o',ju hidl,jv _,rfl,λ_=>⟨rfl,rfl,by simp[o',hxs]⟩⟩
   ·rw[kG (lK e2)];exact⟨oq,hq,jv _,rfl,λ_=>⟨rfl,rfl,rfl⟩⟩
 have hmono:∀y v,Ae F w os y v->Ae F w ((os.set id o').set m p') y v:=λy v h=>DV (λ_ h=>h) (λ_ _=>rfl) os _ hos y v h;have howns:∀b,o'.owns b->o.owns b∨p.owns b:=λb hb=>by
  rcases hb with hb|hb|hb
  ·exact .inl (.inl hb)
  ·exact .inl (.inr hb)
  ·exact .inr hb
 have hpn:∀b,¬ p'.owns b:=λb hb=>by
  rcases hb with hb|hb
  ·simp[p']at hb
  ·exact hb
 obtain⟨bo,hbo⟩ :∃b,o.Fe=some b:=by
  cases hb:o.Fe with
  | none=>have:=(hok.none hb).1;rw[hxs]at this;rw[this]at hil;simp at hil
  | some b=>exact⟨b,rfl⟩
 obtain⟨hnF,cur,hcur,hsz,hle,hmax,hcells⟩:=hok.some bo hbo;obtain⟨uv,hu1,hu2⟩:=hcells i x (by rw[hxs];exact hx) j _ hc;have huv:(p.Fe=none/\∃a,uv=.slice a p.row.xs.length 0)∨∃b,p.Fe=some b/\uv=.slice (some ⟨b,0,none⟩) p.row.xs.length p.cap:=by
  simp only[Ae]at hu2;obtain⟨q,hq,_,_,hv⟩:=hu2;rw[hp]at hq;cases hq;have:=(hv (by rw[hpr])).2;rw[hpx]at this⊢;simpa only[lW,nI,nH] using this
 have hRD:EU p.owns w (.dv el' sz ys) uv:=by
  have:=Tq hpk (by rw[hpx];exact hd) huv;rw[hpr]at this;exact this
 refine⟨F,(os.set id o').set m p',⟨?_,λt=>hmono _ _ (hr.env t),hr.size,λq oq hq=>?_,λq q' oq oq' b hq hq' hb hb'=>?_,hr.FT,hr.defers⟩,⟨rfl,rfl,rfl,jv _,λ_ h=>h,λ_ _=>rfl,λb _ h1 h2=>⟨rfl,h1,λoq hoq hb=>?_⟩,λq oq _ hq=>hos q oq hq⟩⟩
 ·rw[ln,ln,hst];simp only[o',p',hor,hpr]
 ·rcases hget q oq hq with ⟨_,_,h⟩|⟨_,rfl⟩|⟨_,rfl⟩
  ·have h0:=hr.rows q oq h;refine⟨h0.pos,h0.lens,h0.none,λb hb=>?_,h0.mo,h0.deep⟩;obtain⟨e1,cur,e2,e3,e4,e5,e6⟩:=h0.some b hb;exact⟨e1,cur,e2,e3,e4,e5,λi' y hy j' c hc=>by obtain⟨u,f1,f2⟩:=e6 i' y hy j' c hc;exact⟨u,f1,hmono _ _ f2⟩⟩
  ·refine⟨hok.pos,λy hy=>?_,(λhn=>by simp only[o']at hn;rw[hbo]at hn;cases hn),λb hb=>?_,λb hb=>?_,?_⟩
   ·rcases kp hy with hy|rfl
    ·exact hok.lens y (by rw[hxs];exact hy)
    ·have h0:=hok.lens x (by rw[hxs];exact je hx);refine⟨by rw[nh];exact h0.1,λc hcm=>?_⟩;rcases kp hcm with h|rfl
     ·exact h0.2 c h
     ·rfl
   ·simp only[o']at hb;rw[hbo]at hb;cases hb;refine⟨hnF,cur,hcur,hsz,by simpa [o',hxs] using hle,hmax,λi' y hy j' c hcy=>?_⟩;simp only[o']at hy⊢;by_cases hi:i'=i
    ·subst hi;rw[ju hil,jh]at hy;subst hy;by_cases hj:j'=j
     ·subst hj;rw[ju hjl,jh]at hcy;subst hcy;exact⟨uv,hu1,(N6 hRD).1⟩
     ·rw[kG (lK hj)]at hcy;obtain⟨u,f1,f2⟩:=hcells i' x (by rw[hxs];exact hx) j' c hcy;exact⟨u,f1,hmono _ _ f2⟩
    ·rw[kG (lK hi)]at hy;obtain⟨u,f1,f2⟩:=hcells i' y (by rw[hxs];exact hy) j' c hcy;exact⟨u,f1,hmono _ _ f2⟩
   ·rcases hb with hb|hb
    ·exact hok.mo b hb
    ·exact⟨hpk.nF hb,hpk.lt hb,λe=>hdis b (.inl e) hb⟩
   ·obtain⟨D,d1,d2,d3⟩:=hok.deep;refine⟨λi' j' b=>if i'=i/\j'=j then p.owns b else D i' j' b,λi' j' b hb=>?_,λi1 j1 i2 j2 b h1 h2=>?_,λb hb cur' el2 l hcur' i' y j' e2 s2 zs hy hcy=>?_⟩
    ·simp only at hb;split at hb
     ·exact .inr hb
     ·exact .inl (d1 i' j' b hb)
    ·simp only at h1 h2;split at h1<;>split at h2
     ·rename_i q1 q2;exact⟨q1.1.trans q2.1.symm,q1.2.trans q2.2.symm⟩
     ·exact absurd h1 (hdis b (.inr (d1 _ _ _ h2)))
     ·exact absurd h2 (hdis b (.inr (d1 _ _ _ h1)))
     ·exact d2 _ _ _ _ _ h1 h2
    ·simp only[o']at hb hy⊢;rw[hbo]at hb;cases hb;rw[hcur]at hcur';cases hcur';by_cases hij:i'=i/\j'=j
     ·obtain⟨rfl,rfl⟩:=hij;rw[ju hil,jh]at hy;subst hy;rw[ju hjl,jh]at hcy;cases hcy;exact⟨uv,hu1,by simpa using hRD⟩
     ·have hold:∃y0,o.row.xs[i']?=some y0/\y0[j']?=some (.dv e2 s2 zs):=by
       rw[hxs];by_cases hi:i'=i
       ·subst hi;rw[ju hil,jh]at hy;subst hy;have hj:j'≠j:=λe=>hij ⟨rfl,e⟩;rw[kG (lK hj)]at hcy;exact⟨x,hx,hcy⟩
       ·rw[kG (lK hi)]at hy;exact⟨y,hy,hcy⟩
      obtain⟨y0,hy0,hc0⟩:=hold;obtain⟨u,f1,f2⟩:=d3 bo hbo cur _ _ hcur i' y0 j' e2 s2 zs hy0 hc0;exact⟨u,f1,by simpa only[hij,kH] using f2⟩
  ·exact⟨hpk.pos,by simp[p'],by simp[p'],by simp[p'],λb hb=>hb.elim,Et (by simp[p'])⟩
 ·rcases hget q oq hq with ⟨q1,q2,h⟩|⟨rfl,rfl⟩|⟨_,rfl⟩<;>rcases hget q' oq' hq' with ⟨q1',q2',h'⟩|⟨rfl,rfl⟩|⟨_,rfl⟩
  ·exact hr.inj q q' oq oq' b h h' hb hb'
  ·rcases howns b hb' with e|e
   ·exact hr.inj q _ oq o b h ho hb e
   ·exact absurd (hr.inj q m oq p b h hp hb e) q2
  ·exact absurd hb' (hpn b)
  ·rcases howns b hb with e|e
   ·exact hr.inj _ q' o oq' b ho h' e hb'
   ·exact absurd (hr.inj m q' p oq' b hp h' e hb').symm q2'
  ·rfl
  ·exact absurd hb' (hpn b)
  ·exact absurd hb (hpn b)
  ·exact absurd hb (hpn b)
  ·exact absurd hb (hpn b)
 ·obtain⟨q,hq⟩:=jz.1 hoq;rcases hget q oq hq with ⟨_,_,h⟩|⟨_,rfl⟩|⟨_,rfl⟩
  ·exact h2 oq (je h) hb
  ·rcases howns b hb with e|e
   ·exact h2 o (je ho) e
   ·exact h2 p (je hp) e
  ·exact hpn b hb
end Go.Abs
namespace Go.Abs
open Go
variable {P : Program} {F : Nat -> Prop} {os : List Own} {s : St} {a : Act} {w : World} {k : Nat}
theorem Xi {S:Nat->Prop}{el sz:Nat}{ys:List (List AV)}{u:Value}(hS :∀b,S b->¬ F b/\b<w.heap.size)(h:EU S w (.dv el sz ys) u):
  ∃p:Own,p.row=⟨0,el,sz,ys⟩/\(∀b,p.owns b->S b)/\(∀os,MW F w os p)/\((p.Fe=none/\∃a,u=.slice a ys.length 0)∨∃b,p.Fe=some b/\u=.slice (some ⟨b,0,none⟩) ys.length p.cap):=by
 simp only[EU]at h;obtain⟨hp,h⟩:=h;rcases h with ⟨rfl,a,rfl⟩|⟨b,cap,cur,rfl,h2,h3,h4,h5,h6,h7,h8⟩
 ·refine⟨⟨⟨0,el,sz,[]⟩,none,0,FW⟩,rfl,λb hb=>?_,λos=>⟨hp,by simp,by simp,by simp,λb hb=>hb.elim,Et (by simp)⟩,.inl ⟨rfl,a,rfl⟩⟩;rcases hb with hb|hb
  ·cases hb
  ·exact hb.elim
 ·obtain⟨D,d1,d2,d3⟩:=VK h7 h8;refine⟨⟨⟨0,el,sz,ys⟩,some b,cap,λc=>S c/\c≠b⟩,rfl,λc hc=>?_,λos=>⟨hp,λx hx=>⟨h7 x hx,λc hc=>?_⟩,by simp,λb' hb'=>?_,λc hc=>⟨(hS c hc.1).1,(hS c hc.1).2,λe=>hc.2 (by simpa using e.symm)⟩,⟨D,d1,d2,λb' hb' cur' el2 l hcur' i x j e s zs hx hc=>?_⟩⟩,.inr ⟨b,rfl,rfl⟩⟩
  ·rcases hc with hc|hc
   ·cases hc;exact h4
   ·exact hc.1
  ·obtain⟨i,hi⟩:=jz.1 hx;obtain⟨j,hj⟩:=jz.1 hc;obtain⟨u,_,g2⟩:=d3 i x hi j c hj;exact (N6 (F:=F) (os:=os) g2).2.1
  ·simp only[jh]at hb';subst hb';refine⟨(hS _ h4).1,cur,h5,h6,h2,h3,λi x hx j c hc=>?_⟩;obtain⟨u,g1,g2⟩:=d3 i x hx j c hc;exact⟨u,by simpa using g1,(N6 g2).1⟩
  ·simp only[jh]at hb';subst hb';rw[h5]at hcur';cases hcur';obtain⟨u,g1,g2⟩:=d3 i x hx j _ hc;exact⟨u,by simpa using g1,g2⟩
theorem OV {id m g size sz n i j nn:Nat}{el el':TypeId}{xs ys:List (List AV)}{x:List AV}{e:Nat->AV}{st st':List Row}(hrow:st[id]?=some ⟨g,el,size,xs⟩)(hx:xs[i]?=some x)(hc:x[j]?=some (.dv el' sz ys))
  (hm:st.length=m) (hn:n=ys.length) (hst:st.set id ⟨g,el,size,xs.set i (x.set j (.own m 0 n))⟩++[⟨0,el',sz,ys⟩]=st'):Wk k ⟨nn,e,st⟩ ⟨nn,e,st'⟩:=λF os a w hr=>by
 subst hst;subst hn;subst hm;obtain⟨o,ho,hor⟩:=hr.row hrow;have hok:=hr.rows id o ho;have hst:os.map Own.row=st:=hr.st;have hol:os.length=st.length:=by rw[<- hst];simp
 have hxs:o.row.xs=xs:=by rw[hor]
 have hil:i<xs.length:=(jg.1 hx).1;have hjl:j<x.length:=(jg.1 hc).1;have hidl:=(jg.1 ho).1;obtain⟨bo,hbo⟩ :∃b,o.Fe=some b:=by
  cases hb:o.Fe with
  | none=>have:=(hok.none hb).1;rw[hxs]at this;rw[this]at hil;simp at hil
  | some b=>exact⟨b,rfl⟩
 obtain⟨hnF,cur,hcur,hsz,hle,hmax,hcells⟩:=hok.some bo hbo;obtain⟨D,d1,d2,d3⟩:=hok.deep;obtain⟨uv,hu1,hu2⟩:=d3 bo hbo cur _ _ hcur i x j el' sz ys (by rw[hxs];exact hx) hc;obtain⟨p,hpr,hpo,hpk,hpv⟩:=Xi (F:=F) (λb hb=>⟨(hok.mo b (d1 _ _ _ hb)).1,(hok.mo b (d1 _ _ _ hb)).2.1⟩) hu2
 let o':Own:={ o with row:={ o.row with xs:=xs.set i (x.set j (.own st.length 0 ys.length)) },more:=λb=>o.more b/\¬ D i j b }
 have hget:∀(q:Nat) (oq:Own),(os.set id o'++[p])[q]?=some oq->(q≠id/\q<os.length/\os[q]?=some oq)∨(q=id/\oq=o')∨(q=os.length/\oq=p):=λq oq hq=>by
  rcases lH q os.length with h|h|h
  ·rw[jr (by simpa using h)]at hq;by_cases e2:q=id
   ·subst e2;rw[ju hidl,jh]at hq;exact .inr (.inl ⟨rfl,hq.symm⟩)
   ·rw[kG (lK e2)]at hq;exact .inl ⟨e2,h,hq⟩
  ·subst h;rw[jt (by simp)]at hq;simp at hq;exact .inr (.inr ⟨rfl,hq.symm⟩)
  ·rw[kq (by simp;omega)]at hq;cases hq
 have hpget:(os.set id o'++[p])[st.length]?=some p:=by
  rw[jt (by simp;omega)];simp[hol]
 have hos:FH os (os.set id o'++[p]):=λq oq hq=>by
  have hql:=(jg.1 hq).1;rw[jr (by simpa using hql)];by_cases e2:q=id
  ·subst e2;rw[ho]at hq;cases hq;exact⟨o',ju hidl,jv _,rfl,λ_=>⟨rfl,rfl,by simp[o',hxs]⟩⟩
  ·rw[kG (lK e2)];exact⟨oq,hq,jv _,rfl,λ_=>⟨rfl,rfl,rfl⟩⟩
 have hmono:∀y v,Ae F w os y v->Ae F w (os.set id o'++[p]) y v:=λy v h=>DV (λ_ h=>h) (λ_ _=>rfl) os _ hos y v h;have ho'o :∀b,o'.owns b->o.owns b:=λb hb=>by
  rcases hb with hb|hb
  ·exact .inl hb
  ·exact .inr hb.1
 have hpoo:∀b,p.owns b->o.owns b:=λb hb=>.inr (d1 _ _ _ (hpo b hb));have hdis:∀b,o'.owns b->¬ p.owns b:=λb h1 h2=>by
  have h3:=hpo b h2;rcases h1 with h1|h1
  ·exact (hok.mo b (d1 _ _ _ h3)).2.2 h1
  ·exact h1.2 h3
 have hnew:Ae F w (os.set id o'++[p]) (.own st.length 0 ys.length) uv:=by
  simp only[Ae];refine⟨p,hpget,kE _,?_,λ_=>⟨by rw[hpr];exact jv _,by rw[hpr];simpa only[lW,nI,nH] using hpv⟩⟩;rcases hpv with ⟨_,a,rfl⟩|⟨b,_,rfl⟩<;>exact⟨_,_,_,rfl⟩
 refine⟨F,os.set id o'++[p],⟨?_,λt=>hmono _ _ (hr.env t),hr.size,λq oq hq=>?_,λq q' oq oq' b hq hq' hb hb'=>?_,hr.FT,hr.defers⟩,⟨rfl,rfl,rfl,jv _,λ_ h=>h,λ_ _=>rfl,λb _ h1 h2=>⟨rfl,h1,λoq hoq hb=>?_⟩,λq oq _ hq=>hos q oq hq⟩⟩
 ·rw[lJ,ln,hst];simp only[o',hor,kI,lV,hpr]
 ·rcases hget q oq hq with ⟨_,_,h⟩|⟨_,rfl⟩|⟨_,rfl⟩
  ·have h0:=hr.rows q oq h;refine⟨h0.pos,h0.lens,h0.none,λb hb=>?_,h0.mo,h0.deep⟩;obtain⟨e1,cur,e2,e3,e4,e5,e6⟩:=h0.some b hb;exact⟨e1,cur,e2,e3,e4,e5,λi' y hy j' c hc=>by obtain⟨u,f1,f2⟩:=e6 i' y hy j' c hc;exact⟨u,f1,hmono _ _ f2⟩⟩
  ·refine⟨hok.pos,λy hy=>?_,(λhn=>by simp only[o']at hn;rw[hbo]at hn;cases hn),λb hb=>?_,λb hb=>hok.mo b hb.1,?_⟩
   ·rcases kp hy with hy|rfl
    ·exact hok.lens y (by rw[hxs];exact hy)
    ·have h0:=hok.lens x (by rw[hxs];exact je hx);refine⟨by rw[nh];exact h0.1,λc hcm=>?_⟩;rcases kp hcm with h|rfl
     ·exact h0.2 c h
     ·rfl
   ·simp only[o']at hb;rw[hbo]at hb;cases hb;refine⟨hnF,cur,hcur,hsz,by simpa [o',hxs] using hle,hmax,λi' y hy j' c hcy=>?_⟩;simp only[o']at hy⊢;by_cases hi:i'=i
    ·subst hi;rw[ju hil,jh]at hy;subst hy;by_cases hj:j'=j
     ·subst hj;rw[ju hjl,jh]at hcy;subst hcy;exact⟨uv,hu1,hnew⟩
     ·rw[kG (lK hj)]at hcy;obtain⟨u,f1,f2⟩:=hcells i' x (by rw[hxs];exact hx) j' c hcy;exact⟨u,f1,hmono _ _ f2⟩
    ·rw[kG (lK hi)]at hy;obtain⟨u,f1,f2⟩:=hcells i' y (by rw[hxs];exact hy) j' c hcy;exact⟨u,f1,hmono _ _ f2⟩
   ·refine⟨λi' j' b=>if i'=i/\j'=j then False else D i' j' b,λi' j' b hb=>?_,λi1 j1 i2 j2 b h1 h2=>?_,λb hb cur' el2 l hcur' i' y j' e2 s2 zs hy hcy=>?_⟩
    ·simp only at hb;split at hb
     ·exact hb.elim
     ·rename_i hij;exact⟨d1 i' j' b hb,λh=>hij (d2 _ _ _ _ _ hb h)⟩
    ·simp only at h1 h2;split at h1<;>split at h2<;>first|exact h1.elim|exact h2.elim|exact d2 _ _ _ _ _ h1 h2
    ·simp only[o']at hb hy⊢;rw[hbo]at hb;cases hb;rw[hcur]at hcur';cases hcur';have hold:(¬ (i'=i/\j'=j))/\∃y0,o.row.xs[i']?=some y0/\y0[j']?=some (.dv e2 s2 zs):=by
      rw[hxs];by_cases hi:i'=i
      ·subst hi;rw[ju hil,jh]at hy;subst hy;by_cases hj:j'=j
       ·subst hj;rw[ju hjl,jh]at hcy;cases hcy
       ·rw[kG (lK hj)]at hcy;exact⟨λh=>hj h.2,x,hx,hcy⟩
      ·rw[kG (lK hi)]at hy;exact⟨λh=>hi h.1,y,hy,hcy⟩
     obtain⟨hij,y0,hy0,hc0⟩:=hold;obtain⟨u,f1,f2⟩:=d3 bo hbo cur _ _ hcur i' y0 j' e2 s2 zs hy0 hc0;exact⟨u,f1,by simpa only[hij,kH] using f2⟩
  ·exact hpk _
 ·rcases hget q oq hq with ⟨q1,q2,h⟩|⟨rfl,rfl⟩|⟨rfl,rfl⟩<;>rcases hget q' oq' hq' with ⟨q1',q2',h'⟩|⟨rfl,rfl⟩|⟨rfl,rfl⟩
  ·exact hr.inj q q' oq oq' b h h' hb hb'
  ·exact hr.inj q _ oq o b h ho hb (ho'o b hb')
  ·exact absurd (hr.inj q id oq o b h ho hb (hpoo b hb')) q1
  ·exact hr.inj _ q' o oq' b ho h' (ho'o b hb) hb'
  ·rfl
  ·exact absurd hb' (hdis b hb)
  ·exact absurd (hr.inj id q' o oq' b ho h' (hpoo b hb) hb').symm q1'
  ·exact absurd hb (hdis b hb')
  ·rfl
 ·obtain⟨q,hq⟩:=jz.1 hoq;rcases hget q oq hq with ⟨_,_,h⟩|⟨_,rfl⟩|⟨_,rfl⟩
  ·exact h2 oq (je h) hb
  ·exact h2 o (je ho) (ho'o b hb)
  ·exact h2 o (je ho) (hpoo b hb)
variable {α β : Type} {l : List α} {enc : α -> List AV}
def hole (l:List α)(enc:α->List AV)(i:Int)(x:List AV):List (List AV):=(l.map enc).set i.toNat x
theorem Z1 {i:Int}{u:α}{x:List AV}(h:x=enc u):hole l enc i x=(Sh.put l i u).map enc:=by subst h;exact Y0
theorem FD {i:Int}{u:α}{x:List AV}(h:Sh.get l i=some u):(hole l enc i x)[i.toNat]?=some x:=by
 have:=(Sh.get_some h).2.2;have h0:=(Sh.get_some h).1;exact ju (by simp;omega)
theorem S5 {i:Int}{x y:List AV}:(hole l enc i x).set i.toNat y=hole l enc i y:=by unfold hole;rw[List.set_set]
theorem GU {id m g size sz nn j:Nat}{el el':TypeId}{i:Int}{c:α}{ys:List β}{encY:β->List AV}{x x':List AV}{e:Nat->AV}{st st':List Row}(hrow:st[id]?=some ⟨g,el,size,l.map enc⟩)(hi:Sh.get l i=some c)(hx:enc c=x)(hc:x[j]?=some (.dv el' sz (ys.map encY)))
  (hm:st.length=m) (hx':x.set j (.own m 0 ys.length)=x') (hst:st.set id ⟨g,el,size,hole l enc i x'⟩++[⟨0,el',sz,ys.map encY⟩]=st'):Wk k ⟨nn,e,st⟩ ⟨nn,e,st'⟩:=by
 subst hst;subst hx';subst hx;exact OV hrow (CV hi) hc hm (n:=ys.length) (by simp) rfl
theorem Wk.take {id m g gm size sz nn j n:Nat}{el el':TypeId}{i:Int}{c:α}{ys:List β}{encY:β->List AV}{x x':List AV}{e:Nat->AV}{st st':List Row}(hrow:st[id]?=some ⟨g,el,size,hole l enc i x⟩)(hi:Sh.get l i=some c)(hc:x[j]?=some (.own m gm n))
  (hm:st[m]?=some ⟨gm,el',sz,ys.map encY⟩) (hn:n=ys.length) (hne:id≠m) (hkm:k<=m) (hd :∀y,(encY y).all PW=true) (hx':x.set j (.dv el' sz (ys.map encY))=x') (hst:(st.set id ⟨g,el,size,hole l enc i x'⟩).set m ⟨gm+1,el',sz,[]⟩=st') :
  Wk k ⟨nn,e,st⟩ ⟨nn,e,st'⟩:=by
 subst hst;subst hx';refine KN hrow (FD hi) hc hm (by simpa using hn) hne hkm (λy hy c hc=>?_) (by rw[S5]);obtain⟨z,_,rfl⟩:=kC.1 hy;exact jq.1 (hd z) c hc
theorem Ra {id g size nn:Nat}{el:TypeId}{i:Int}{u:α}{x:List AV}{e:Nat->AV}{st st':List Row}(hrow:st[id]?=some ⟨g,el,size,hole l enc i x⟩)(hx:x=enc u)(hst:st.set id ⟨g,el,size,(Sh.put l i u).map enc⟩=st'):Wk k ⟨nn,e,st⟩ ⟨nn,e,st'⟩:=by
 rw[Z1 hx]at hrow;have:st.set id ⟨g,el,size,(Sh.put l i u).map enc⟩=st:=by
  obtain⟨h1,h2⟩:=jg.1 hrow;rw[<- h2];exact my h1
 rw[this]at hst;exact Fk hst
section
variable {ops : Array Oper} {Q : Exit -> St -> Prop} {ds : List (Option Tmp)} {r : List Oper} {n : Nat} {e : Nat -> AV} {st st' : List Row} {ty : TypeId} {ps : String} {ed : Array Edge} {t : Tmp} {v : AV} {gd : Option (Nat × Bool)} {T : TypeId} {x y : Operand} {ag : Bool} {sz id g size : Nat} {el : TypeId} {cs : List AV} {c : α} {i : Int}
end
end Go.Abs
namespace Go.Abs
open Go
variable {P : Program} {F : Nat -> Prop} {os : List Own} {s : St} {a : Act} {w : World} {k : Nat}
section
variable {α : Type} {l : List α} {enc : α -> List AV}
variable {ops : Array Oper} {Q : Exit -> St -> Prop} {ds : List (Option Tmp)} {r : List Oper} {n : Nat} {e : Nat -> AV} {st st' : List Row} {ty : TypeId} {ps : String} {ed : Array Edge} {t : Tmp} {T : TypeId} {x y : Operand} {m bytes size : Nat} {el : TypeId} {zz : List AV} {u : α} {j : Int} {kk kk' : IntKind}
end
end Go.Abs
namespace Go.Abs
open Go
variable {P : Program} {F : Nat -> Prop} {os : List Own} {s : St} {a : Act} {w : World} {k : Nat}
variable {α β : Type} {l : List α} {enc : α -> List AV}
theorem G2 {id g size nn:Nat}{el:TypeId}{i:Int}{c:α}{x:List AV}{e:Nat->AV}{st st':List Row}(hrow:st[id]?=some ⟨g,el,size,hole l enc i x⟩)(hi:Sh.get l i=some c)(hx:x=enc c)(hst:st.set id ⟨g,el,size,l.map enc⟩=st'):Wk k ⟨nn,e,st⟩ ⟨nn,e,st'⟩:=by
 have h2:hole l enc i x=l.map enc:=by
  subst hx;unfold hole;have:=CV (enc:=enc) hi;obtain⟨h1,h2⟩:=jg.1 this;rw[<- h2];exact my h1
 rw[h2]at hrow;have:st.set id ⟨g,el,size,l.map enc⟩=st:=by
  obtain⟨h1,h2⟩:=jg.1 hrow;rw[<- h2];exact my h1
 rw[this]at hst;exact Fk hst
end Go.Abs
namespace Go.Abs
open Go
theorem Yz {α:Type}{l l':List α}{c:α}{b:Nat}(h:Sh.app l [c] b=some l'):Sh.get l' (Sh.len l)=some c:=by
 unfold Sh.app at h;split at h
 ·simp only[jh]at h;subst h;unfold Sh.get Sh.len;rw[jm (me _)];simp
 ·cases h
section
variable {P : Program} {k : Nat} {α : Type} {l l' : List α} {enc : α -> List AV} {c : α}
variable {ops : Array Oper} {Q : Exit -> St -> Prop} {ds : List (Option Tmp)} {r : List Oper} {n : Nat} {e : Nat -> AV} {st st' : List Row} {ty : TypeId} {ps : String} {ed : Array Edge} {t : Tmp} {gd : Option (Nat × Bool)} {T : TypeId} {x y : Operand} {bytes size id g m q gq size' : Nat} {el el' : TypeId} {zz cs : List AV}
theorem bD (hg:GO ds gd e)(he:D4 P T=some ⟨el,size,bytes,zz⟩)(hx:St.ev ⟨n,e,st⟩ x=.own id g m)(hr:st[id]?=some ⟨g,el,size,l.map enc⟩)(hm:m=l.length)(hy:St.ev ⟨n,e,st⟩ y=.own q gq 1)(hq:st[q]?=some ⟨gq,el',size',[cs]⟩)
  (hlf:cs.all AV.leaf=true) (hcs:cs.length=size) (ha:Sh.app l [c] bytes=some l') (hst:st.set id ⟨g+1,el,size,hole l' enc (Sh.len l) cs⟩=st') (hk:AO P k ops Q (ds++[some t]) r ⟨n,ED e t (.own id (g+1) l'.length),st'⟩) :
  AO P k ops Q ds (⟨some t,.call ⟨.builtin .append,#[x,y],#[T,T]⟩,ty,ps,ed,gd⟩::r) ⟨n,e,st⟩:=by
 subst hst;subst hm;refine MB hg ?_;rw[Ux];refine⟨rfl,?_⟩;rw[hx,hy];unfold Sh.app at ha;split at ha
 ·rename_i h;simp only[jh]at ha;subst ha;refine Ap _ he (Ap _ hq ⟨rfl,λz hz c hc=>?_,rfl,λz hz=>?_,Ap _ hr ⟨rfl,(kB _).symm,rfl,rfl,by simpa using h.1,by simpa using h.2,?_⟩⟩)
  ·simp only[jy]at hz;subst hz;exact jq.1 hlf c hc
  ·simp only[List.take_one,List.head?_cons,Option.toList_some,jy]at hz;subst hz;exact hcs
  ·have e1:(l.map enc).take l.length=l.map enc:=by rw[<- kB (f:=enc) (as:=l),lM]
   have e3:List.map enc l++[cs]=hole (l++[c]) enc (Sh.len l) cs:=by simp[hole,Sh.len]
   simp only[e1,List.take_one,List.head?_cons,Option.toList_some,e3,List.length_singleton];rw[show l.length+1=(l++[c]).length by simp];exact hk
 ·cases ha
end
end Go.Abs
namespace Go.Abs
open Go
variable {P : Program} {F : Nat -> Prop} {os : List Own} {s : St} {a : Act} {w : World} {k : Nat}
def Oa (id g:Nat)(xs:List (List AV)):AV->AV
 | .own id' g' n=>if id'=id/\g'=g then (if n=xs.length then .sl (KJ xs) else .E2) else .own id' g' n
 | v=>v
def Zp (id g:Nat)(xs:List (List AV)):AV->AV
 | .agg cs=>.agg (cs.map (Oa id g xs))
 | .Dw cs=>.Dw (cs.map (Oa id g xs))
 | v=>Oa id g xs v
theorem Wk.dc {id:Nat}{row:Row}(hid:k<=id)(hrow:s.st[id]?=some row)(hp:Si row.xs):
  Wk k s ⟨s.n,λt=>Zp id row.gen row.xs (s.env t),s.st.set id { row with gen:=row.gen+1,xs:=[] }⟩:=λF os a w hr=>by
 obtain⟨o,ho,rfl⟩:=hr.row hrow;have hok:=hr.rows id o ho;refine⟨λb=>F b∨o.owns b,os.set id ⟨{ o.row with gen:=o.row.gen+1,xs:=[] },none,0,FW⟩,?_,?_⟩
 case refine_2=>
  refine⟨rfl,rfl,rfl,jv _,λ_ h=>.inl h,λ_ _=>rfl,λb _ h1 h2=>⟨rfl,λh=>h.elim h1 (λe=>h2 o (je ho) e),λo' ho'=>?_⟩,λi oi hi hoi=>⟨oi,?_,jv _,rfl,λ_=>⟨rfl,rfl,rfl⟩⟩⟩
  ·rcases kp ho' with h|rfl
   ·exact h2 o' h
   ·intro hh;rcases hh with hh|hh
    ·simp at hh
    ·exact hh
  ·rw[kG (by omega)];exact hoi
 have hF:∀b,F b->(λb=>F b∨o.owns b) b:=λ_ h=>.inl h;have hos:FH os (os.set id ⟨{ o.row with gen:=o.row.gen+1,xs:=[] },none,0,FW⟩):=FH.set ho (by simp) rfl (λe=>by simp at e);have hmono:∀x v,Ae F w os x v->Ae (λb=>F b∨o.owns b) w (os.set id ⟨{ o.row with gen:=o.row.gen+1,xs:=[] },none,0,FW⟩) x v:=λx v h=>
  DV hF (λ_ _=>rfl) os _ hos x v h
 have h1:∀x v,Ae F w os x v->Ae (λb=>F b∨o.owns b) w (os.set id ⟨{ o.row with gen:=o.row.gen+1,xs:=[] },none,0,FW⟩) (Oa id o.row.gen o.row.xs x) v:=λx v h=>by
  cases x with
  | own id' g' n=>
   simp only[Oa];split
   ·rename_i hif;obtain⟨rfl,rfl⟩:=hif;split
    ·rename_i hn0;subst hn0;simp only[Ae]at h;obtain⟨o',ho',_,_,h⟩:=h;rw[ho]at ho';cases ho';obtain⟨_,hv⟩:=h rfl;have hD:=Tq hok hp (v:=v) (by simpa only[lW,nI,nH] using hv);have:=(TF (F:=λb=>F b∨o.owns b) (λb hb=>.inr hb) _ _ hD).1;simp only[Oj,Ae]at this⊢;exact this
    ·simp[Ae]
   ·exact hmono _ _ h
  | _=>exact hmono _ _ h
 have hL:∀xs us,Br F w os xs us->Br (λb=>F b∨o.owns b) w (os.set id ⟨{ o.row with gen:=o.row.gen+1,xs:=[] },none,0,FW⟩) (xs.map (Oa id o.row.gen o.row.xs)) us:=λxs us h=>
  DZ (by simp[BY h]) λi x u hx hu=>by
   simp only[ji,jo]at hx;obtain⟨y,hy,rfl⟩:=hx;obtain⟨u',e1,e2⟩:=CN h i y hy;rw[hu]at e1;cases e1;exact h1 _ _ e2
 have hget:∀(i:Nat) (oi:Own),(os.set id ⟨{ o.row with gen:=o.row.gen+1,xs:=[] },none,0,FW⟩)[i]?=some oi->(i≠id/\os[i]?=some oi)∨(i=id/\oi=⟨{ o.row with gen:=o.row.gen+1,xs:=[] },none,0,FW⟩):=λi oi hi=>by
  by_cases e:i=id
  ·subst e;rw[ju (jg.1 ho).1,jh]at hi;exact .inr ⟨rfl,hi.symm⟩
  ·rw[kG (lK e)]at hi;exact .inl ⟨e,hi⟩
 refine⟨by rw[ln,hr.st],λt=>?_,hr.size,λi oi hi=>?_,λi j oi oj b hi hj hbi hbj=>?_,λb hb=>?_,hr.defers⟩
 ·have:=hr.env t;simp only;generalize s.env t=x at this⊢;cases x with
  | agg cs=>simp only[Zp,Ae]at this⊢;obtain⟨us,e,h⟩:=this;exact⟨us,e,hL _ _ h⟩
  | Dw cs=>simp only[Zp,Ae]at this⊢;obtain⟨us,e,h⟩:=this;exact⟨us,e,hL _ _ h⟩
  | _=>exact h1 _ _ this
 ·rcases hget i oi hi with ⟨hne,h⟩|⟨_,rfl⟩
  ·have hoki:=hr.rows i oi h;refine⟨hoki.pos,hoki.lens,hoki.none,λb hb=>?_,λb hb=>⟨λhF=>hF.elim (hoki.mo b hb).1 (λhob=>hne (hr.inj i id oi o b h ho (.inr hb) hob)),(hoki.mo b hb).2⟩,hoki.deep⟩;obtain⟨e1,cur,e2,e3,e4,e5,e6⟩:=hoki.some b hb;refine⟨λhF=>hF.elim e1 (λhob=>hne (hr.inj i id oi o b h ho (.inl hb) hob)),cur,e2,e3,e4,e5,λi' x hx j c hc=>?_⟩;obtain⟨u,f1,f2⟩:=e6 i' x hx j c hc;exact⟨u,f1,hmono _ _ f2⟩
  ·exact⟨hok.pos,by simp,by simp,by simp,λb hb=>hb.elim,Et (by simp)⟩
 ·rcases hget i oi hi with ⟨hne,h⟩|⟨h,rfl⟩<;>rcases hget j oj hj with ⟨hne',h'⟩|⟨h',rfl⟩
  ·exact hr.inj i j oi oj b h h' hbi hbj
  ·exact hbj.elim (λe=>by simp at e) λe=>e.elim
  ·exact hbi.elim (λe=>by simp at e) λe=>e.elim
  ·omega
 ·rcases hb with hb|hb|hb
  ·exact hr.FT b hb
  ·obtain⟨_,cur,hcur,_⟩:=hok.some b hb;exact (kR.1 hcur).1
  ·exact (hok.mo b hb).2.1
variable {α : Type} {l : List α} {enc enc' : α -> List AV} {n id g m size : Nat} {e : Nat -> AV} {st st' : List Row} {L : List (Nat × AV)} {el : TypeId} {xs : List (List AV)}
theorem U1 (h:m=l.length)(hu :∀x,Ho (enc x)=enc' x):Oa id g (l.map enc) (.own id g m)=.sl (l.map enc'):=by
 subst h;simp only[Oa,and_self,kO,kB];rw[Hv,lU];congr 1;exact kM λx _=>hu x
theorem le.Oa (h:m=l.length)(hu :∀x,Ho (enc x)=enc' x):le (Abs.Oa id g (l.map enc) (.own id g m)) (.sl (l.map enc')):=le.of (U1 h hu)
theorem le.Zp (h:m=l.length)(hu :∀x,Ho (enc x)=enc' x):le (Abs.Zp id g (l.map enc) (.own id g m)) (.sl (l.map enc')):=le.of (U1 h hu)
theorem I3 (h :∀x,(enc x).all PW=true):Si (l.map enc):=λx hx c hc=>by
 obtain⟨y,_,rfl⟩:=kC.1 hx;exact jq.1 (h y) c hc
theorem RJ (hrow:st[id]?=some ⟨g,el,size,xs⟩)(hid:k<=id)(hp:Si xs)(h:ME (λt=>Abs.Zp id g xs (e t)) L)(hst:st.set id ⟨g+1,el,size,[]⟩=st'):Wk k ⟨n,e,st⟩ ⟨n,Aa L,st'⟩:=by
 subst hst;exact (Wk.dc (s:=⟨n,e,st⟩) hid hrow hp).trans (Af h)
end Go.Abs
namespace Go.Abs
open Go
variable {P : Program} {F : Nat -> Prop} {os : List Own} {s : St} {a : Act} {w : World} {k : Nat}
def gu (x:AV):AV:=bif flat x then x else .E2
theorem dt {F':Nat->Prop}{w':World}(hF :∀b,F b->F' b)(hw :∀b,F b->w'.heap[b]?=w.heap[b]?)(os':List Own){x:AV}{v:Value}(h:Ae F w os x v):Ae F' w' os' (gu x) v:=by
  unfold gu;cases hf:flat x with
  | false=>simp[Ae]
  | true=>exact JP hf os' (DV hF hw [] [] (by simp) x v (JP hf [] h))
def fA (x:AV):AV:=bif flat x then x else match x with
  | .ptr (id+1) g i off=>.ptr (id+1) g i off
  | _=>.E2
theorem eT {F':Nat->Prop}{w':World}(hF :∀b,F b->F' b)(hw :∀b,F b->w'.heap[b]?=w.heap[b]?){o o':Own}{ros:List Own}{x:AV}{v:Value}(h:Ae F w (o::ros) x v):Ae F' w' (o'::ros) (fA x) v:=by
  unfold fA;cases hf:flat x with
  | true=>exact JP hf _ (DV hF hw [] [] (by simp) x v (JP hf [] h))
  | false=>
    cases x<;>simp only[cond_false]<;>try simp[Ae]
    rename_i id g i off;cases id with
    | zero=>simp[Ae]
    | succ id=>
      simp only[Ae,kT]at h⊢;exact h
theorem SK {P:Program}{ops:Array Oper}{md:Region.Mode}{Q Q':Exit->Act->World->Prop}(hp :∀c a w,Q (.panic c) a w->Q' (.panic c) a w)(hlo:LetsOut Q->LetsOut Q')(hn :∀a w,Q .normal a w->Q' .normal a w):
    ∀(fuel:Nat) {listed:Array Bool} {a:Act} {w:World},wpAny P md ops Q fuel listed a w->wpAny P md ops Q' fuel listed a w
  | 0,_,_,_,h=>⟨h.1,hn _ _ h.2⟩
  | fuel+1,listed,a,w,h=>by
    refine⟨λh0=>hn _ _ (h.1 h0),λi hi=>?_⟩;have:=h.2 i hi;unfold wpOp at this⊢;split
    · rename_i ho;simp only[ho]at this;exact SK hp hlo hn fuel this
    · rename_i o ho;simp only[ho]at this;split
      · rename_i hw;rw[jm hw]at this;exact this.imp (λh=>OA hp hlo (Oper.wp_mono (λa w h=>SK hp hlo hn fuel h) h)) λh=>⟨h.1,hlo h.2⟩
      · rename_i hw;rw[jn hw]at this;exact SK hp hlo hn fuel this
def ar (row row':Row)(Q:Exit->St->Prop):Exit->St->Prop:=λex s'=>(∃r,s'.st=row'::r)/\Q ex ⟨s'.n,λt=>gu (s'.env t),[row]⟩
theorem RA {xs:List (List AV)}(hp:EK xs){o:Own}(hok:MW F w os o)(hx:o.row.xs=xs):∀x∈xs,∀c∈x,c.leaf=true:=λx hm c hc=>by
  have h1:=hp x hm c hc;have h2:=(hok.lens x (by rw[hx];exact hm)).2 c hc;cases c<;>simp_all [simple,AV.leaf,AV.kept]
theorem cP {Q:Exit->St->Prop}{o:Own}{ros:List Own}{g:Nat}{el:TypeId}{size b0:Nat}{xs ys:List (List AV)}(hp:EK (xs++ys))(hrow:o.row=⟨g,el,size,xs⟩)(hb0:o.Fe=some b0)(hnF:¬ F b0){w1:World}(ht:HY w w1 (some b0))
    {e:Exit} {a':Act} {w':World} (h:J5 1 (ar ⟨g,el,size,xs⟩ ⟨g,el,size,xs++ys⟩ Q) F (⟨⟨g,el,size,xs++ys⟩,some b0,o.cap,o.more⟩::ros) w1 e a' w') (hold :∀b,F b->b<w.heap.size):J5 1 Q F (o::ros) w e a' w':=by
  obtain⟨s',F',os',⟨⟨rst',hst⟩,hQ⟩,hR,hE⟩:=h;have hos:∃o' ros',os'=o'::ros'/\o'.row=⟨g,el,size,xs++ys⟩:=by
    have:=hR.st;rw[hst]at this;cases os' with
    | nil=>cases this
    | cons o' ros'=>
      simp only[kI,mL]at this;exact⟨o',ros',rfl,this.1⟩
  obtain⟨o',ros',rfl,hrow'⟩:=hos;obtain⟨o2,e2,_,_,e3⟩:=hE.Ta 0 _ (by omega) rfl;simp only[kK,jh]at e2;subst e2;obtain⟨e4,e5,_⟩:=e3 (by rw[hrow']);dsimp only at e4 e5;have hok':=hR.rows 0 o' rfl;have hlf:=RA hp hok' (by rw[hrow']);have hF:∀b,F b->w1.heap[b]?=w.heap[b]?:=λb hb=>ht.FT b (hold b hb) (λe=>hnF (by cases e;exact hb));refine⟨_,F',[{ o' with row:=⟨g,el,size,xs⟩ }],hQ,⟨rfl,λt=>dt (λ_ h=>h) (λ_ _=>rfl) _ (hR.env t),hR.size,λi oi hi=>?_,λi j oi oj b hi hj hbi hbj=>?_,hR.FT,hR.defers⟩,?_⟩
  · match i,hi with
    | 0,hi=>
      simp only[kK,jh]at hi;subst hi;refine⟨by have:=hok'.pos;rw[hrow']at this;exact this,λx hx=>?_,λhn=>(by rw[e4]at hn;cases hn),λb hb=>?_,λb hb=>hok'.mo b hb,Et λx hx c hc=>hlf x (ko _ hx) c hc⟩
      · have:=hok'.lens x (by rw[hrow'];exact ko _ hx);rw[hrow']at this;exact this
      · obtain⟨h1,cur,h2,h3,h4,h5,h6⟩:=hok'.some b hb;rw[hrow']at h2 h3 h4 h6;refine⟨h1,cur,h2,h3,by simp only[kD]at h4⊢;omega,h5,λi x hx j c hc=>?_⟩;obtain⟨u,f1,f2⟩:=h6 i x (by simp only at hx⊢;rw[jr (jg.1 hx).1];exact hx) j c hc;exact⟨u,f1,Fc (hp x (ko _ (je hx)) c (je hc)) _ f2⟩
  · match i,j,hi,hj with
    | 0,0,_,_=>rfl
  · refine⟨hE.sys.trans ht.sys,hE.tape.trans ht.tape,hE.output.trans ht.output,mB ht.size hE.size,hE.Mr,λb hb=>(hE.II b hb).trans (hF b hb),λb hb h1 h2=>?_,λi oi hi hoi=>?_⟩
    · have hne:b≠b0:=λe=>h2 o (by simp) (.inl (by rw[e];exact hb0));have hnm:¬ o.more b:=λhm=>h2 o (by simp) (.inr hm);obtain⟨f1,f2,f3⟩:=hE.other b (ke hb ht.size) h1 (λq hq hob=>by
        rcases js.1 hq with rfl|hq
        · rcases hob with hob|hob
          · simp only[jh]at hob;exact hne hob.symm
          · exact hnm hob
        · exact h2 q (by simp[hq]) hob)
      refine⟨f1.trans (ht.FT b hb (λe=>hne (by cases e;rfl))),f2,λq hq hob=>?_⟩;simp only[jy]at hq;subst hq;exact f3 o' (by simp) hob
    · match i,hoi with
      | 0,hoi=>
        simp only[kK,jh]at hoi;subst hoi;exact⟨_,rfl,by rw[hrow];exact jv _,by rw[hrow],λ_=>⟨by rw[hb0];exact e4,e5,by rw[hrow]⟩⟩
      | _+1,_=>omega
theorem Xt {t ty:TypeId}{ei:ZY}{g:Nat}{xs:List (List AV)}{ys:List (List AV)}{y:AV}{ux ud:Value}(hr:Rel F os s a w){rst:List Row}(hst:s.st=⟨g,ei.e,ei.size,xs⟩::rst)(hrst :∀row∈rst,EK row.xs)(he:D4 P t=some ei)
    (hd:Ae F w os (.own 0 g xs.length) ud) (hx:Ae F w os y ux) (hel:EL s.st y ys) (hys :∀z∈ys,z.length=ei.size) (hp:EK (xs++ys)) (hne:ys≠[]) (hb:(xs.length+ys.length)*ei.bytes<=140737488355328) (hm:xs.length+ys.length<=9223372036854775807) :
    ∃o ros u w',os=o::ros/\o.row=⟨g,ei.e,ei.size,xs⟩/\(Builtin.append_ #[t,t] ty #[ud,ux]).run P w=.ok u w'/\
      ((∃b0,o.Fe=some b0/\¬ F b0/\HY w w' (some b0)/\Rel F (⟨⟨g,ei.e,ei.size,xs++ys⟩,some b0,o.cap,o.more⟩::ros) ⟨s.n,λt=>fA (s.env t),⟨g,ei.e,ei.size,xs++ys⟩::rst⟩ a w'/\
          u=.slice (some ⟨b0,0,none⟩) (xs.length+ys.length) o.cap)∨
       (∃cap,Rel F (os++[⟨⟨0,ei.e,ei.size,xs++ys⟩,some w.heap.size,cap,FW⟩]) { s with st:=s.st++[⟨0,ei.e,ei.size,xs++ys⟩] } a w'/\Ext F os w F (os++[⟨⟨0,ei.e,ei.size,xs++ys⟩,some w.heap.size,cap,FW⟩]) w' k/\
          u=.slice (some ⟨w.heap.size,0,none⟩) (xs.length+ys.length) cap)):=by
  obtain⟨inf,z,hu,hi,hz,hzs,hpos,hsz,hby,_,_⟩:=H8 he;obtain⟨ys',h,hys',hylf,⟨ad,c,rfl,hsrc⟩⟩:=Vz (size:=ei.size) (K:=λz=>z=ys) hr (hel _ ⟨hys,rfl⟩) hx;subst h;have hos:∃o ros,os=o::ros/\o.row=⟨g,ei.e,ei.size,xs⟩/\ros.map Own.row=rst:=by
    have:=hr.st;rw[hst]at this;cases os with
    | nil=>cases this
    | cons o ros=>
      simp only[kI,mL]at this;exact⟨o,ros,rfl,this.1,this.2⟩
  obtain⟨o,ros,rfl,hrow,hros⟩:=hos;have hylf:∀y∈ys',∀c∈y,c.leaf=true:=by
    rcases hylf with e|h
    · exact absurd e hne
    · exact h
  have hylen:0<ys'.length:=nE.2 hne;have hnews:∃b off,ad=some ⟨b,off,none⟩/\∃us:List Value,us.length=ys'.length*inf.size/\(∀(j:Nat) u,us[j]?=some u->w.cell? ((⟨b,off,none⟩:Addr).add j)=some u)/\(∀u∈us,u.oneCell'=true)/\Gf F w (o::ros) ei.size us ys':=by
    rcases hsrc with e|⟨b,off,rfl,hc⟩
    · exact absurd e hne
    · obtain⟨us,h1,h2,h3,h4⟩:=Pn hys' hc;exact⟨b,off,rfl,us,by rw[h1,hsz],h2,h3,h1,λi y hy j c hc=>by obtain⟨u,e1,_,e2⟩:=h4 i y hy j c hc;exact⟨u,e1,e2⟩⟩
  obtain⟨b,off,rfl,us,hul,hcell,hone,hrep⟩:=hnews;have hok:=hr.rows 0 o rfl;have hxlf:=RA (xs:=xs) (λx hx=>hp x (ko _ hx)) hok (by rw[hrow]);have hlens:∀x∈xs++ys',x.length=ei.size/\∀c∈x,c.leaf=true:=λx hx=>by
    rcases kJ.1 hx with h|h
    · have:=(hok.lens x (by rw[hrow];exact h)).1;rw[hrow]at this;exact⟨this,hxlf x h⟩
    · exact⟨hys' x h,hylf x h⟩
  have hgrow:∀(cap:Nat) (olds:List Value),Gf F w (o::ros) ei.size olds xs->xs.length+ys'.length<=cap->cap<=maxLen->
      Rel F ((o::ros)++[⟨⟨0,ei.e,ei.size,xs++ys'⟩,some w.heap.size,cap,FW⟩]) { s with st:=s.st++[⟨0,ei.e,ei.size,xs++ys'⟩] } a (w.drew.alloc (.cells (olds.toArray++us.toArray++Builtin.zeroCells z.cells (cap-(xs.length+ys'.length))) ei.e))/\
      Ext F (o::ros) w F ((o::ros)++[⟨⟨0,ei.e,ei.size,xs++ys'⟩,some w.heap.size,cap,FW⟩]) (w.drew.alloc (.cells (olds.toArray++us.toArray++Builtin.zeroCells z.cells (cap-(xs.length+ys'.length))) ei.e)) k:=λcap olds hold hcap hmax=>by
    obtain⟨e1,e2⟩:=OP (F:=F) (w:=w) (os:=o::ros) (z:=z) (size:=ei.size) (n:=xs.length) (m:=ys'.length) (cap:=cap) (by rw[hzs,hsz]) rfl rfl hold hrep hcap;have:=hr.OS (k:=k) (.inr rfl) (cur:=_) (e:=ei.e) (size:=ei.size) (cap:=cap) (xs:=xs++ys') (by omega) hlens e1 (by simpa using hcap) hmax (λi x hx j c hc=>e2 i x hx j c hc);exact⟨this.1,this.2.1⟩
  have hge:=grownCap_ge w (xs.length+ys'.length);have hlem:=mh w (xs.length+ys'.length);simp only[Ae]at hd;obtain⟨o',ho',_,_,hd⟩:=hd;simp only[kK,jh]at ho';subst ho';obtain⟨_,hd⟩:=hd (by rw[hrow]);rw[hrow]at hd;simp only[lW,nI,nH]at hd;rcases hd with ⟨hbn,a0,rfl⟩|⟨b0,Jd,rfl⟩
  · have hn0:=(hok.none hbn).1;rw[hrow]at hn0;dsimp only at hn0;subst hn0;have hrun:(Builtin.append_ #[t,t] ty #[.slice a0 0 0,.slice (some ⟨b,off,none⟩) ys'.length c]).run P w=.ok (.slice (some ⟨w.heap.size,0,none⟩) (0+ys'.length) (grownCap w (0+ys'.length) 0 ei.e))
        (w.drew.alloc (.cells (([]:List Value).toArray++us.toArray++Builtin.zeroCells z.cells (grownCap w (0+ys'.length) 0 ei.e-(0+ys'.length))) ei.e)):=by
      cases a0 with
      | none=>
        have:=run_append_nil (P:=P) w t ty ei.e inf z hu hi hz ⟨b,off,none⟩ ys'.length c us hul hcell (by omega) (by simp at hm;omega) (by rw[<- hby];simp at hb;omega);simpa using this
      | some a0=>
        have:=mc (P:=P) w t ty ei.e inf z hu hi hz a0 0 0 [] (by simp) (by simp) ⟨b,off,none⟩ ys'.length c us hul hcell (by omega) (by omega) (mr (by simp at hm;omega) (by rw[<- hby];simpa using hb));simpa using this
    have hgg:=hgrow (grownCap w (0+ys'.length) 0 ei.e) [] (by simp[Gf]) (by simpa using hge 0 ei.e) (by simpa using hlem 0 ei.e (by simp[maxLen]at hm⊢;omega));exact⟨o,ros,_,_,rfl,hrow,hrun,.inr ⟨_,hgg.1,hgg.2,rfl⟩⟩
  · obtain⟨hnF,cur,hcur,hcs,hlc,hmaxc,hcells⟩:=hok.some b0 Jd;rw[hrow]at hcur hcs hlc hcells;dsimp only at hcur hcs hlc hcells;by_cases hroom:xs.length+ys'.length<=o.cap
    · have hfit:xs.length*inf.size+us.length<=cur.size:=by rw[hul,hcs,hsz,<- kP];exact kS _ hroom
      have hrun:=run_append_room (P:=P) w t ty ei.e inf hu hi b0 xs.length o.cap cur hcur ⟨b,off,none⟩ ys'.length c us hul hcell hone hroom hfit;have hT:=HY.setRow w b0 (cur.toList.take (xs.length*inf.size)++us++cur.toList.drop (xs.length*inf.size+us.length)).toArray;have hF:∀g,F g->(w.setRow b0 (cur.toList.take (xs.length*inf.size)++us++cur.toList.drop (xs.length*inf.size+us.length)).toArray).heap[g]?=w.heap[g]?:=λg hg=>hT.FT g (hr.FT g hg) (λe=>hnF (by cases e;exact hg));refine⟨o,ros,_,_,rfl,hrow,hrun,.inl ⟨b0,Jd,hnF,hT,⟨by simp only[kI,hros],λt=>eT (λ_ h=>h) hF (hr.env t),hr.size,λi oi hi=>?_,λi j oi oj b hi hj hbi hbj=>?_,λg hg=>ke (hr.FT g hg) hT.size,hr.defers⟩,rfl⟩⟩
      · match i,hi with
        | 0,hi=>
          simp only[kK,jh]at hi;subst hi;have hcm:∀c u,simple c=true->Ae F w (o::ros) c u->∀os',Ae F (w.setRow b0 (cur.toList.take (xs.length*inf.size)++us++cur.toList.drop (xs.length*inf.size+us.length)).toArray) os' c u:=λc u hc h os'=>
            Fc hc os' (DV (λ_ h=>h) hF [] [] (by simp) c u (Fc hc [] h))
          refine⟨by have:=hok.pos;rw[hrow]at this;exact this,λx hx=>⟨(hlens x hx).1,λc hc=>D0 ((hlens x hx).2 c hc)⟩,λhn=>(by cases hn),λb' hb'=>?_,λg hg=>⟨(hok.mo g hg).1,by simpa using (hok.mo g hg).2.1,by rw[<- Jd];exact (hok.mo g hg).2.2⟩,Et λx hx c hc=>(hlens x hx).2 c hc⟩;simp only[jh]at hb';subst hb';refine⟨hnF,_,nS w b0 cur _ _ _ hcur,?_,by simpa using hroom,hmaxc,λi y hy j c hc=>?_⟩
          · simp only[mO,kD,lu,mI,ly]at hfit⊢;rw[<- hcs];omega
          · simp only at hy⊢;rw[J6 hfit];by_cases hin:i<xs.length
            · rw[jr hin]at hy;obtain⟨u,f1,f2⟩:=hcells i y hy j c hc;have hjl:j<ei.size:=by rw[<- (hlens y (ko _ (je hy))).1];exact (jg.1 hc).1
              have:(i+1)*ei.size<=xs.length*ei.size:=kS _ hin;rw[kP]at this;refine⟨u,?_,hcm c u (hp y (ko _ (je hy)) c (je hc)) f2 _⟩;rw[jm (by rw[<- hsz];omega)];exact f1
            · rw[jt (by omega)]at hy;obtain⟨u,f1,f2⟩:=hrep.2 _ y hy j c hc;refine⟨u,?_,hcm c u (hp y (mD _ (je hy)) c (je hc)) f2 _⟩;have hlt:=(jg.1 f1).1;have h3:xs.length*ei.size<=i*ei.size:=kS _ (by omega);rw[Nat.sub_mul]at f1 hlt;rw[jn (by rw[<- hsz];omega),jm (by rw[<- hsz];omega),<- f1];congr 1;rw[<- hsz];omega
        | i+1,hi=>
          simp only[kT]at hi;have hoi:=hr.rows (i+1) oi (by simpa using hi);have hpi:EK oi.row.xs:=hrst oi.row (by rw[<- hros];exact lD (je hi));have hlfi:=RA hpi hoi rfl;have hni:∀b,oi.owns b->b≠b0:=λb hb e=>by
            have:=hr.inj (i+1) 0 oi o b (by simpa using hi) rfl hb (.inl (by rw[e];exact Jd));omega
          refine⟨hoi.pos,hoi.lens,hoi.none,λb hb=>?_,λb hb=>⟨(hoi.mo b hb).1,ke (hoi.mo b hb).2.1 hT.size,(hoi.mo b hb).2.2⟩,Et hlfi⟩;obtain⟨f1,cur',f2,f3,f4,f5,f6⟩:=hoi.some b hb;refine⟨f1,cur',?_,f3,f4,f5,λi' x hx j c hc=>?_⟩
          · rw[hT.FT b (hoi.lt (.inl hb)) (λe=>hni b (.inl hb) (by cases e;rfl))];exact f2
          · obtain⟨u,g1,g2⟩:=f6 i' x hx j c hc;have hc':=hpi x (je hx) c (je hc);exact⟨u,g1,Fc hc' _ (DV (λ_ h=>h) hF [] [] (by simp) c u (Fc hc' [] g2))⟩
      · have key:∀(i:Nat) oi b,((⟨⟨g,ei.e,ei.size,xs++ys'⟩,some b0,o.cap,o.more⟩:Own)::ros)[i]?=some oi->oi.owns b->∃oi',(o::ros)[i]?=some oi'/\oi'.owns b:=λi oi b hi hb=>by
          cases i with
          | zero=>
            simp only[kK,jh]at hi;subst hi;exact⟨o,rfl,hb.imp (λhb=>by rw[Jd];exact hb) id⟩
          | succ i=>exact⟨oi,hi,hb⟩
        obtain⟨oi',q1,q2⟩:=key i oi b hi hbi;obtain⟨oj',q3,q4⟩:=key j oj b hj hbj;exact hr.inj i j oi' oj' b q1 q3 q2 q4
    · have hold:∀(i:Nat) y,xs[i]?=some y->Md F w (o::ros) b0 (0+i*ei.size) y:=λi y hy=>by
        have:=hr.Nw (id:=0) (o:=o) rfl Jd (i:=i) (x:=y) (by rw[hrow];exact hy);rw[hrow]at this;simpa using this
      obtain⟨olds,h1,h2,_,h4⟩:=Pn (λx hx=>(hlens x (ko _ hx)).1) hold;have hrun:=mc (P:=P) w t ty ei.e inf z hu hi hz ⟨b0,0,none⟩ xs.length o.cap olds (by rw[h1,hsz]) h2 ⟨b,off,none⟩ ys'.length c us hul hcell (by omega) (by omega) (mr (by omega) (by rw[<- hby];exact hb));have hgg:=hgrow (grownCap w (xs.length+ys'.length) o.cap ei.e) olds ⟨h1,λi y hy j c hc=>by obtain⟨u,f1,_,f2⟩:=h4 i y hy j c hc;exact⟨u,f1,f2⟩⟩ (hge o.cap ei.e) (hlem o.cap ei.e (by simp[maxLen];omega));exact⟨o,ros,_,_,rfl,hrow,hrun,.inr ⟨_,hgg.1,hgg.2,rfl⟩⟩
section
variable {P : Program} {ops : Array Oper} {Q : Exit -> St -> Prop} {n N f i : Nat} {listed listed' : Array Bool} {e : Nat -> AV} {ty : TypeId} {p : String} {ed : Array Edge} {t : Tmp} {α : Type} {l l2 l' : List α} {enc : α -> List AV} {x y : Operand} {g m size bytes : Nat} {el : TypeId} {zz : List AV} {T : TypeId} {rst : List Row} {k : Nat}
theorem BG (h:listed=listed'){s:St}(ha:AX P k ops Q N f listed s):AX P k ops Q N f listed' s:=h▸ha
theorem AX.two (row row':Row){s:St}(h :∀A A':Nat->Array Bool->St->Prop,(∀f l s,A f l s↔AX P k ops Q N f l s)->(∀f l s,A' f l s↔AX P k ops (ar row row' Q) N f l s)->A f listed s):AX P k ops Q N f listed s:=
  h (AX P k ops Q N) (AX P k ops (ar row row' Q) N) (λ_ _ _=>Iff.rfl) (λ_ _ _=>Iff.rfl)
theorem J9 {s:St}(h :∀A:Nat->Array Bool->St->Prop,(∀f l s,A f l s↔AX P k ops Q N f l s)->A f listed s):AX P k ops Q N f listed s:=
  h (AX P k ops Q N) (λ_ _ _=>Iff.rfl)
theorem J4 {ys:AV}(ho:ops[i]?=some ⟨some t,.call ⟨.builtin .append,#[x,y],#[T,T]⟩,ty,p,ed,none⟩)(hod:DC n (some t)=true)(he:D4 P T=some ⟨el,size,bytes,zz⟩)(hrst :∀row∈rst,EK row.xs)(hx:St.ev ⟨n,e,⟨g,el,size,l.map enc⟩::rst⟩ x=.own 0 g m)(hm:m=l.length)(hy:St.ev ⟨n,e,⟨g,el,size,l.map enc⟩::rst⟩ y=ys)(hel:EL (⟨g,el,size,l.map enc⟩::rst) ys (l2.map enc))
    (hl2:l2.isEmpty=false) (hs :∀a,(enc a).length=size) (hp :∀l:List α,EK (l.map enc)) (ha:Sh.app l l2 bytes=some l')
    (h1:AX P 1 ops (ar ⟨g,el,size,l.map enc⟩ ⟨g,el,size,l'.map enc⟩ Q) N f (listed.setIfInBounds i true) ⟨n,ED (λt=>fA (e t)) t (.own 0 g l'.length),⟨g,el,size,l'.map enc⟩::rst⟩)
    (h2:AX P 1 ops Q N f (listed.setIfInBounds i true) ⟨n,ED e t (.own (rst.length+1) 0 l'.length),⟨g,el,size,l.map enc⟩::(rst++[⟨0,el,size,l'.map enc⟩])⟩) :
    Ea P 1 ops Q N f listed ⟨n,e,⟨g,el,size,l.map enc⟩::rst⟩ i:=by
  subst hm;unfold Sh.app at ha;split at ha
  case isFalse=>cases ha
  rename_i hbd;simp only[jh]at ha;subst ha;intro F0 os0 w0 F os a w hr he0;have hxr:=hr.ev x;rw[hx]at hxr;have hyr:=hr.ev y;rw[hy]at hyr;have hpp:=hp (l++l2);rw[lJ]at hpp h1 h2;obtain⟨o,ros,u,w',rfl,hrow,hrun,hA⟩:=Xt (k:=1) (ty:=ty) (ei:=⟨el,size,bytes,zz⟩) (g:=g) (xs:=l.map enc) (ys:=l2.map enc) hr rfl hrst he (by simpa using hxr) hyr hel
    (λz hz=>by obtain⟨q,_,rfl⟩:=kC.1 hz;exact hs q) hpp (by intro e;rw[mX]at e;rw[e]at hl2;cases hl2) (by simpa using hbd.1) (by simpa using hbd.2)
  unfold wpOp;simp only[ho];rw[jm (by rfl)];refine .inl ?_;unfold Oper.wp;simp only[execOp,resolve,invoke,builtin,kX,ku,kV,nZ,kI,lV,hrun,Oper.upon];rcases hA with ⟨b0,Jd,hnF,hT,hR,rfl⟩|⟨cap,hR,hE,rfl⟩
  · have h3:=h1.2 F _ w' F _ _ w' (hR.put (d:=some t) hod (v:=.own 0 g (l++l2).length) (u:=.slice (some ⟨b0,0,none⟩) ((l.map enc).length+(l2.map enc).length) o.cap) (by
      simp only[Ae];exact⟨_,rfl,jv _,⟨_,_,_,rfl⟩,λ_=>⟨by simp,.inr ⟨b0,rfl,by simp⟩⟩⟩)) (Ext.refl _ _ _ _)
    refine SK (λc a'' w'' hp=>?_) (λhl=>?_) (λa'' w'' hp=>?_) _ h3
    · obtain⟨_,_,_,h4,_⟩:=hp;exact nomatch h4.1
    · obtain⟨_,_,h4,_⟩:=hl;exact nomatch h4
    obtain⟨s',F',os',⟨h4,h5⟩,h6,h7⟩:=hp;obtain⟨s2,F2,os2,h8,h9,h10⟩:=cP (Q:=λe s=>e=.normal/\Q e s) hpp hrow Jd hnF hT ⟨s',F',os',⟨h5.1,h4,h5.2⟩,h6,h7⟩ hr.FT;exact⟨s2,F2,os2,h8,h9,he0.trans h10⟩
  · refine h2.2 F0 os0 w0 F _ _ w' ?_ (he0.trans hE);have hlen:ros.length=rst.length:=by
      have:=hr.st;simp only[kI,mL]at this;rw[<- this.2,kB]
    refine hR.put (d:=some t) hod (v:=.own (rst.length+1) 0 (l++l2).length) ?_;simp only[Ae];exact⟨⟨⟨0,el,size,l.map enc++l2.map enc⟩,some w.heap.size,cap,FW⟩,by rw[<- hlen];simp,jv _,⟨_,_,_,rfl⟩,λ_=>⟨by simp,.inr ⟨_,rfl,by simp⟩⟩⟩
end
section
variable {P : Program} {ds : List (Option Tmp)} {r : List Oper} {KS : St -> Prop} {n : Nat} {e : Nat -> AV} {st : List Row} {ty : TypeId} {ps : String} {ed : Array Edge} {t : Tmp} {gd : Option (Nat × Bool)} {α : Type} {l l' : List α} {enc : α -> List AV} {x : Operand} {size bytes : Nat} {el T : TypeId} {zz : List AV}
theorem aN {lo hi:Option Operand}{i j:Int}(hg:GO ds gd e)(he:D4 P T=some ⟨el,size,bytes,zz⟩)(hx:St.ev ⟨n,e,st⟩ x=.sl (l.map enc))(h1:SV (lo.map (St.ev ⟨n,e,st⟩)) 0=some i)(h2:SV (hi.map (St.ev ⟨n,e,st⟩)) l.length=some j)(hs :∀a,(enc a).length=size)(hl:Sh.sl l i j=some l')
    (hk:D6 P (ds++[some t]) r KS ⟨n,ED e t (.sl (l'.map enc)),st⟩):D6 P ds (⟨some t,.slice T x lo hi none,ty,ps,ed,gd⟩::r) KS ⟨n,e,st⟩:=by
  refine cj hg rfl (λs0 e1 e2 hd k F os a w hr next Q hn=>?_) hk;refine Ko (k:=k) (K:=(·=s0.put (some t) (.sl (l'.map enc)))) hr hd ?_ hn;show UL P s0.st T (s0.ev x) (lo.map s0.ev) (hi.map s0.ev) (Option.map s0.ev none) (λv st=>({ s0 with st:=st }:St).put (some t) v=s0.put (some t) (.sl (l'.map enc)));have ex:s0.ev x=St.ev ⟨n,e,st⟩ x:=e2 x (by simp[Op.operands]);have elo:lo.map s0.ev=lo.map (St.ev ⟨n,e,st⟩):=by
    cases lo with
    | none=>rfl
    | some y=>simp only[kb];rw[e2 y (by simp[Op.operands])]
  have ehi:hi.map s0.ev=hi.map (St.ev ⟨n,e,st⟩):=by
    cases hi with
    | none=>rfl
    | some y=>simp only[kb];rw[e2 y (by simp[Op.operands])]
  rw[ex,elo,ehi,hx];unfold Sh.sl at hl;split at hl
  · rename_i h;simp only[jh]at hl;subst hl;refine Ap _ he (Ap _ h1 (Ap _ (by rw[kB];exact h2) ⟨h.1,h.2.1,by simpa using h.2.2,λz hz=>?_,?_⟩))
    · obtain⟨q,_,rfl⟩:=kC.1 hz;exact hs q
    · rw[List.map_drop,List.map_take]
  · cases hl
theorem VP {f:FuncId}{ars:Array Operand}{ts:Array TypeId}{args args':List AV}{rowsP rows0 rows1 rows1':List Row}{v v':AV}(sel:List Nat)(hg:GO ds gd e)(hb:Dl P f=true)(hc:Ab P f args' rows0 λr st=>r=v/\st=rows1)(ha:ars.toList.map (St.ev ⟨n,e,st⟩)++[]=args)(hnd:sel.Nodup)(hlt:sel.all (·<st.length)=true)
    (hp:Cb st sel=rowsP) (hs:SR sel rowsP rows0) (hf:args.map (KB sel)=args') (hlen:rows1.length=sel.length) (h1:UN sel st.length rows1 rows1') (hv:Se sel st.length v=v') (hst':Fz sel rows1' 0 st=st)
    (hk:D6 P (ds++[some t]) r KS ⟨n,ED e t v',st⟩):D6 P ds (⟨some t,.call ⟨.value (.func f),ars,ts⟩,ty,ps,ed,gd⟩::r) KS ⟨n,e,st⟩:=by
  subst ha;subst hv;subst hp;refine cj hg rfl (λs0 e1 e2 hd k F os a w hr next Q hn=>?_) hk;refine Ko (k:=k) (K:=(·=s0.put (some t) (Se sel st.length v))) hr hd ?_ hn;show Dl P f=true/\callThen P k s0 f (ars.toList.map s0.ev++[]) (some t) _;rw[RO e2];refine⟨hb,KF λhle=>?_⟩;subst e1;obtain⟨e1,e3⟩:=hs.spec (st0:=s0.st) hle (λrow hrow=>by
    obtain⟨i,_,hi⟩:=kz.1 hrow;exact je hi)
  refine Kv (rows2:=[]) sel (by simpa using hc) hnd (λi hi=>by simpa using jq.1 hlt i hi) e1 e3 hf hlen (λrow hrow=>by
    rw[ky]at hrow;exact h1.leaf row hrow) λ_=>?_
  simp only[h1.spec,lV,ky,hst']
end
end Go.Abs
namespace Go.Abs
open Go
section
variable {P : Program} {k : Nat} {ops : Array Oper} {Q : Exit -> St -> Prop} {ds : List (Option Tmp)} {r : List Oper} {n : Nat} {e : Nat -> AV} {st st' : List Row} {ty : TypeId} {p : String} {ed : Array Edge} {t : Tmp} {x y : Operand} {size bytes m : Nat} {el T Tn : TypeId} {zz : List AV} {α : Type} {enc : α -> List AV} {u : α} {l' : List α} {kk : IntKind} {j : Int} {v : AV} {o : Oper}
theorem Z5 (hn:o.guard=none)(h :∀F os a w,Rel F os ⟨n,e,st⟩ a w->∃z w' F' os',(execOp a.eval o).run P w=.ok (.value z) w'/\Rel F' os' ⟨n,e,st'⟩ a w'/\Ae F' w' os' v z/\Ext F os w F' os' w' k)
  (hk:AO P k ops Q (ds++[o.dst]) r (St.put ⟨n,e,st'⟩ o.dst v)):AO P k ops Q ds (o::r) ⟨n,e,st⟩:=by
 intro hl hds hdst F os a w hr Q' hQ;have ho:ops[ds.length]?=some o:=by have:=hl 0;simpa using this.symm
 have hod:DC n o.dst=true:=hdst o (by have:=je (l:=ops.toList) (i:=ds.length) (by simpa using ho);exact this);have hl' :∀(j:Nat),r[j]?=ops[(ds++[o.dst]).length+j]?:=λj=>by
  have:=hl (j+1);simp only[kT]at this;rw[this];congr 1;simp;omega
 have hds' :∀(j:Nat) d,(ds++[o.dst])[j]?=some d->(ops[j]?).map (·.dst)=some d:=λj d hj=>by
  rcases lH j ds.length with h1|h1|h1
  ·rw[jr h1]at hj;exact hds j d hj
  ·subst h1;rw[Jh,jh]at hj;rw[ho];simp[hj]
  ·rw[kq (by simp;omega)]at hj;cases hj
 obtain⟨z,w',F',os',h1,h2,h3,h4⟩:=h F os a w hr;unfold wpList;rw[jm (by unfold Region.wanted;rw[hn])];refine .inl ?_;unfold Oper.wp;rw[h1];simp only[Oper.upon];refine hk hl' hds' (by cases o.dst<;>exact hdst) F' os' _ w' (h2.put hod h3) Q' λ_ _ _ hp=>hQ _ _ _ (hp.trans h4)
theorem Yj (hs:DU P T=true)(hx:St.ev ⟨n,e,st⟩ x=.zc)(hk:AO P k ops Q (ds++[some t]) r ⟨n,ED e t (i64 0),st⟩):
  AO P k ops Q ds (⟨some t,.call ⟨.builtin .cap,#[x],#[T]⟩,ty,p,ed,none⟩::r) ⟨n,e,st⟩:=by
 refine Z5 rfl (st':=st) (v:=i64 0) (λF os a w hr=>?_) hk;have h1:=hr.ev x;rw[hx]at h1;simp only[Ae]at h1;obtain⟨ad,h1⟩:=h1;unfold DU at hs;split at hs
 case h_2=>cases hs
 rename_i el hu;refine⟨.int .i64 0,w,F,os,?_,hr,by simp[Ae],Ext.refl _ _ _ _⟩;simp only[execOp,resolve,invoke,builtin,kX,ku,kV,nZ,kI,lV,h1,Builtin.cap_];simp[kg hu,goInt]
theorem eo {hi:Option Operand}(he:D4 P T=some ⟨el,size,bytes,zz⟩)(hx:St.ev ⟨n,e,st⟩ x=.zc)(h2:SV (hi.map (St.ev ⟨n,e,st⟩)) 0=some 0)
  (hk:AO P k ops Q (ds++[some t]) r ⟨n,ED e t .zc,st⟩):AO P k ops Q ds (⟨some t,.slice T x none hi none,ty,p,ed,none⟩::r) ⟨n,e,st⟩:=by
 refine MB AI ?_;rw[Sv];simp only[ni];rw[hx];exact Ap _ he (Ap _ rfl (Ap _ h2 ⟨rfl,rfl,hk⟩))
theorem dQ {kn:IntKind}(he:D4 P T=some ⟨el,size,bytes,zz⟩)(hn:P.underlying Tn=some (.int kn))(hx:St.ev ⟨n,e,st⟩ x=.zc)(hy:St.ev ⟨n,e,st⟩ y=.int kk j)(h0:decide (0<j)=true)(hz:enc u=zz)(hj:Sh.mk u j bytes=some l')(hm:st.length=m)(hst:st++[⟨0,el,size,l'.map enc⟩]=st')
  (hk:AO P k ops Q (ds++[some t]) r ⟨n,ED e t (.own m 0 l'.length),st'⟩):AO P k ops Q ds (⟨some t,.call ⟨.builtin .append,#[x,y],#[T,Tn]⟩,ty,p,ed,none⟩::r) ⟨n,e,st⟩:=by
 subst hm;subst hst;subst hz;unfold Sh.mk at hj;split at hj
 case isFalse=>cases hj
 rename_i hbd;simp only[jh]at hj;subst hj;refine Z5 rfl (st':=st++[(⟨0,el,size,(List.replicate j.toNat u).map enc⟩:Row)]) (v:=.own st.length 0 (List.replicate j.toNat u).length) (λF os a w hr=>?_) hk;have h1:=hr.ev x;rw[hx]at h1;simp only[Ae]at h1;obtain⟨ad,h1⟩:=h1;have h2:=hr.ev y;rw[hy]at h2;simp only[Ae]at h2;obtain⟨inf,z,hu,hi,hz,hzs,hpos,hsz,hby,hzz,hlf⟩:=H8 he;dsimp only at hu hi hzs hpos hsz hby hzz hlf;have hj0:0<j:=lB h0;obtain⟨q,rfl⟩:=kZ (Int.le_of_lt hj0);rw[lY];have hq0:0<q:=by omega
 have hq48:q*inf.bytes<=281474976710656:=by
  have h9:((q*bytes:Nat):Int)<=281474976710656:=by rw[ng];exact hbd.2.1
  rw[<- hby];omega
 have hold:(Builtin.firstCells inf.size 0 (.slice ad 0 0)).run P w.drew=.ok ([]:List Value).toArray w.drew:=by
  cases ad with
  | none=>exact run_firstCells_none w.drew inf.size 0 0 0
  | some ad=>exact run_firstCells_some w.drew inf.size 0 ad 0 0 [] (by simp) (by simp)
 have hfit:Builtin.nextslicecap (0+q) 0*inf.bytes<=281474976710656:=by rw[kt,nextslicecap_zero hq0];exact hq48
 have hrun:=Lib.run_append_grow_zeros (P:=P) w T Tn ty el inf z kk kn hu hn hi hz ad 0 0 [] hold q hq0 (by omega) (by omega) (by omega) hq48 hfit;rw[kt]at hrun;have hge:=grownCap_ge w q 0 el;have hle:=mh w q 0 el (by unfold maxLen;omega);have hzc:∀i,i<z.cells.size->∃c',z.cells[i]?=some c':=λi hi=>⟨_,lA hi⟩;have hadd:=hr.OS (k:=k) (.inr rfl) (cur:=([]:List Value).toArray++Builtin.zeroCells z.cells q++Builtin.zeroCells z.cells (grownCap w q 0 el-q)) (e:=el) (size:=size) (cap:=grownCap w q 0 el) (xs:=(List.replicate q u).map enc)
  (by omega) (λx hx=>by
   rw[nL]at hx;rw[List.eq_of_mem_replicate hx,hzz];refine⟨by simp[hzs,hsz],λc hc=>hlf c (by rw[hzz];exact hc)⟩)
  (by
   simp only[Array.size_append,mO,lE,size_zeroCells,hzs,hsz,kt,<- kP];congr 1;omega)
  (by rw[kB,mu];omega) hle (λi x hx jj c hc=>by
   rw[nL]at hx;have hi:i<q:=by
    have:=(jg.1 hx).1;simpa using this
   have hx':x=enc u:=List.eq_of_mem_replicate (je hx);subst hx';rw[hzz]at hc;simp only[ji,jo,lq]at hc;obtain⟨c',hc1,rfl⟩:=hc;have hjl:jj<z.cells.size:=(kR.1 hc1).1;refine⟨c',?_,Lq F w os c'⟩;have hlt:i*size+jj<q*size:=by
    have:(i+1)*size<=q*size:=kS _ hi;rw[kP]at this;omega
   rw[Array.append_assoc,show (([]:List Value).toArray++(Builtin.zeroCells z.cells q++Builtin.zeroCells z.cells (grownCap w q 0 el-q)))=(Builtin.zeroCells z.cells q++Builtin.zeroCells z.cells (grownCap w q 0 el-q)) by simp];rw[lP (by rw[size_zeroCells,hzs,<- hsz];exact hlt)];unfold Builtin.zeroCells;rw[Array.getElem?_map,Array.getElem?_range];rw[jm (by rw[hzs,<- hsz];exact hlt)];simp only[kb,jh];have hmod:(i*size+jj) % z.cells.size=jj:=by
    rw[hzs,<- hsz,nf,Nat.mul_add_mod];exact mT (by omega)
   rw[hmod];simp[Array.getElem!_eq_getD,Array.getD,hjl,(kR.1 hc1).2])
 refine⟨.slice (some ⟨w.heap.size,0,none⟩) q (grownCap w q 0 el),_,F,_,?_,hadd.1,?_,hadd.2.1⟩
 ·simp only[execOp,resolve,invoke,builtin,kX,ku,kV,nZ,kI,lV,h1,h2];rw[hrun];simp
 ·simp only[Ae];have hlen:st.length=os.length:=hr.len;exact⟨_,by rw[hlen];exact Jh _ _,jv _,⟨_,_,_,rfl⟩,λ_=>⟨by simp,.inr ⟨_,rfl,by simp⟩⟩⟩
end
section
variable {P : Program} {ds : List (Option Tmp)} {r : List Oper} {KS : St -> Prop} {n : Nat} {e : Nat -> AV} {st : List Row} {ty : TypeId} {ps : String} {ed : Array Edge} {t : Tmp} {gd : Option (Nat × Bool)} {α : Type} {l : List α} {enc : α -> List AV} {u : α} {x y : Operand} {size bytes : Nat} {el T : TypeId} {zz : List AV} {kk kk' : IntKind} {j : Int}
theorem ib (hg:GO ds gd e)(he:D4 P T=some ⟨el,size,bytes,zz⟩)(hx:St.ev ⟨n,e,st⟩ x=.int kk j)(hy:St.ev ⟨n,e,st⟩ y=.int kk' j)(hz:enc u=zz)(hl:Sh.mk u j bytes=some l)(hpu:EK (l.map enc))
  (hk:D6 P (ds++[some t]) r KS ⟨n,ED e t (.sl (l.map enc)),st⟩):D6 P ds (⟨some t,.makeSlice T x y,ty,ps,ed,gd⟩::r) KS ⟨n,e,st⟩:=by
 subst hz;refine cj hg rfl (λs0 e1 e2 hd k F os a w hr next Q hn=>?_) hk;have ex:s0.ev x=.int kk j:=(e2 x (by simp[Op.operands])).trans hx;have ey:s0.ev y=.int kk' j:=(e2 y (by simp[Op.operands])).trans hy;have hxr:=hr.ev x;have hyr:=hr.ev y;rw[ex]at hxr;rw[ey]at hyr;unfold Sh.mk at hl;split at hl
 case isFalse=>cases hl
 rename_i h;simp only[jh]at hl;subst hl;have h9:Hl P 0 F [] ⟨s0.n,λ_=>.E2,[]⟩ a w (Instr.makeSlice T (a.eval x) (a.eval y)) (λz st=>z=.own 0 0 (List.replicate j.toNat u).length/\st=[⟨0,el,size,(List.replicate j.toNat u).map enc⟩]):=by
  refine XA (l:=.int kk j) (c:=.int kk' j) hr.bare (Ap _ he ⟨rfl,h.1,h.2.1,h.2.2,?_⟩) (Fc (x:=.int kk j) rfl [] hxr) (Fc (x:=.int kk' j) rfl [] hyr);simp
 obtain⟨u',w',F',g1,g2,g3,g4⟩:=Nh (k:=k) hr h9 (VG hpu) rfl;unfold Oper.wp;simp only[execOp,kX,g1,kV,ku,Oper.upon];exact hn _ _ (O1 (st':=s0.st) hd rfl g2 g3 g4)
end
theorem Hx {row:Row}{rst:List Row}(h:EK row.xs)(g :∀q∈rst,EK q.xs):∀q∈row::rst,EK q.xs:=λq hq=>by
 rcases js.1 hq with rfl|hq
 ·exact h
 ·exact g q hq
section
variable {P : Program} {k : Nat} {ops : Array Oper} {Q : Exit -> St -> Prop} {ds : List (Option Tmp)} {r : List Oper} {n : Nat} {e : Nat -> AV} {st st' : List Row} {ty : TypeId} {p : String} {ed : Array Edge} {t : Tmp} {x y : Operand} {size bytes m : Nat} {el T : TypeId} {zz : List AV} {kk kk' : IntKind} {c : Nat}
theorem cE (he:D4 P T=some ⟨el,size,bytes,zz⟩)(hx:St.ev ⟨n,e,st⟩ x=.int kk 0)(hy:St.ev ⟨n,e,st⟩ y=.int kk' (c:Int))(hc:decide (c*bytes<=281474976710656/\c<=9223372036854775807)=true)(hm:st.length=m)(hst:st++[⟨0,el,size,[]⟩]=st')
  (hk:AO P k ops Q (ds++[some t]) r ⟨n,ED e t (.own m 0 0),st'⟩):AO P k ops Q ds (⟨some t,.makeSlice T x y,ty,p,ed,none⟩::r) ⟨n,e,st⟩:=by
 subst hm;subst hst;have hbd:=lB hc;refine Z5 rfl (st':=st++[(⟨0,el,size,[]⟩:Row)]) (v:=.own st.length 0 0) (λF os a w hr=>?_) hk;have h1:=hr.ev x;rw[hx]at h1;simp only[Ae]at h1;have h2:=hr.ev y;rw[hy]at h2;simp only[Ae]at h2;obtain⟨inf,z,hu,hi,hz,hzs,hpos,hsz,hby,hzz,hlf⟩:=H8 he;dsimp only at hu hi hzs hpos hsz hby hzz hlf;have hrun:=run_make (P:=P) w T el inf z hu hi hz kk kk' 0 (c:Int) (by omega) (by omega) (by rw[<- hby,<- ng,nf];omega) (by omega);have hadd:=hr.OS (k:=k) (.inl rfl) (cur:=madeCells z.cells (c*inf.size)) (e:=el) (size:=size) (cap:=c) (xs:=[]) (by omega) (by simp) (by rw[size_madeCells,hsz]) (by simp) (by simp[maxLen];omega) (by simp);refine⟨.slice (some ⟨w.heap.size,0,none⟩) 0 c,_,F,_,?_,hadd.1,?_,hadd.2.1⟩
 ·simp only[execOp,kX,ku,kV,h1,h2];rw[hrun];simp
 ·simp only[Ae];have hlen:st.length=os.length:=hr.len;exact⟨_,by rw[hlen];exact Jh _ _,jv _,⟨_,_,_,rfl⟩,λ_=>⟨by simp,.inr ⟨_,rfl,by simp⟩⟩⟩
end
end Go.Abs
namespace Go.Abs
open Go
variable {P : Program} {n : Nat} {e : Nat -> AV} {st : List Row} {t : Tmp} {ty : TypeId} {ps : String} {ed : Array Edge} {x : Operand}
theorem J3 {id g i off off' el size j f:Nat}{tt:TypeId}{xs:List (List AV)}(hf:HZ P tt f=some j)(h:St.ev ⟨n,e,st⟩ x=.ptr id g i off)(hrow:st[id]?=some ⟨g,el,size,xs⟩)(hl:off+j<=size)(ho:off+j=off'):N9 P ⟨n,e,st⟩ ⟨some t,.fieldAddr tt x f,ty,ps,ed,none⟩ (.ptr id g i off'):=
 ⟨rfl,λF os a w hr=>by
  subst ho;have h1:=hr.ev x;rw[h]at h1;unfold HZ at hf;split at hf<;>try (cases hf;done)
  rename_i fs hu;split at hf<;>try (cases hf;done)
  rename_i g1 hg;split at hf<;>try (cases hf;done)
  rename_i i1 hi;split at hf
  ·cases hf
  rename_i hz;simp only[jh]at hf;have hrun:∀b off w',(Instr.fieldAt tt (.pointer (some ⟨b,off,none⟩)) f).run P w'=.ok (.pointer (some ⟨b,off+j,none⟩)) w':=λb off w'=>by
   simp[Instr.fieldAt,kg hu,hg,Instr.sureAddr,fieldPlace,sizeOf,typeInfo,hi,hz,DE,hf]
  obtain⟨ow,how,hrw⟩:=hr.row hrow;simp only[Ae]at h1;obtain⟨o',ho',hge,_,hv⟩:=h1;rw[how]at ho';cases ho';have hgg:ow.row.gen=g:=by rw[hrw]
  obtain⟨h2,h3,b,hb,e2⟩:=hv hgg;refine⟨.pointer (some ⟨b,i*ow.row.size+off+j,none⟩),λw'=>?_,?_⟩
  ·simp[execOp,e2,hrun]
  ·simp only[Ae];exact⟨ow,how,hge,⟨_,rfl⟩,λ_=>⟨h2,by rw[hrw];exact hl,b,hb,by rw[lS]⟩⟩⟩
end Go.Abs
namespace Go.Abs
open Go
def SF (F:Nat->Prop)(w:World):World->Prop:=λw'=>∀b,F b->w'.heap[b]?=w.heap[b]?
section
variable {P : Program} {k : Nat} {ops : Array Oper} {Q : Exit -> St -> Prop} {N f i : Nat} {listed listed' : Array Bool} {s s' : St} {o : Oper}
def AY (P:Program)(k:Nat)(ops:Array Oper)(Q:Exit->St->Prop)(N f:Nat)(listed:Array Bool)(s:St):Prop:=
 s.n=N/\∀F0 os0 w0 F os a w,Rel F os s a w->Ext F0 os0 w0 F os w k->wpAnyH P .any ops (NH k Q F0 os0 w0) (SF F0 w0) f listed a w
def Y1 (P:Program)(k:Nat)(ops:Array Oper)(Q:Exit->St->Prop)(N f:Nat)(listed:Array Bool)(s:St)(i:Nat):Prop:=
 ∀F0 os0 w0 F os a w,Rel F os s a w->Ext F0 os0 w0 F os w k->wpOp P ops (NH k Q F0 os0 w0) i (λa' w'=>SF F0 w0 w'/\wpAnyH P .any ops (NH k Q F0 os0 w0) (SF F0 w0) f (listed.setIfInBounds i true) a' w') a w
def cK (P:Program)(k:Nat)(ops:Array Oper)(Q:Exit->St->Prop)(N f:Nat)(listed:Array Bool)(s:St):List Nat->Prop
 | []=>True
 | i::r=>Y1 P k ops Q N f listed s i/\cK P k ops Q N f listed s r
theorem cK.get:∀{l:List Nat},cK P k ops Q N f listed s l->∀i∈l,Y1 P k ops Q N f listed s i
 | j::r,h,i,hi=>by
  rcases js.1 hi with rfl|hi
  ·exact h.1
  ·exact cK.get h.2 i hi
theorem AY.all (rs:List Nat)(hn:s.n=N)(hr:Region.ready .any ops listed=rs)(hne:rs≠[])(h:cK P k ops Q N f listed s rs):AY P k ops Q N (f+1) listed s:=
 ⟨hn,λF0 os0 w0 F os a w hrel he=>wpAnyH_all hr hne λi hi=>h.get i hi F0 os0 w0 F os a w hrel he⟩
theorem Qv (hn:s.n=N)(hr:Region.ready .any ops listed=[])(h:Q .normal s):AY P k ops Q N f listed s:=
 ⟨hn,λ_ _ _ F os a w hrel he=>wpAnyH_done hr ⟨s,F,os,⟨rfl,h⟩,hrel,he⟩ f⟩
theorem Rs (hw:Wk k s s')(h:AY P k ops Q N f listed s')(hn:s.n=N):AY P k ops Q N f listed s:=
 ⟨hn,λF0 os0 w0 F os a w hrel he=>by
  obtain⟨F1,os1,h1,e1⟩:=hw F os a w hrel;exact h.2 F0 os0 w0 F1 os1 a w h1 (he.trans e1)⟩
theorem Wr (h:listed=listed')(ha:AY P k ops Q N f listed s):AY P k ops Q N f listed' s:=h▸ha
theorem Sj (h :∀A:Nat->Array Bool->St->Prop,(∀f l s,A f l s↔AY P k ops Q N f l s)->A f listed s):AY P k ops Q N f listed s:=
 h (AY P k ops Q N) (λ_ _ _=>Iff.rfl)
theorem Y1.of (ho:ops[i]?=some o)(hg:Ni o i=true)(hd:(ops.toList.all λo=>DC s.n o.dst)=true)
  (h:AO P k (ops.extract 0 (i+1)) (λe s'=>e=.normal/\AY P k ops Q N f (listed.setIfInBounds i true) s') ((ops.toList.take i).map (·.dst)) [o] s):Y1 P k ops Q N f listed s i:=by
 intro F0 os0 w0 F os a w hrel he;have hi:i<ops.size:=(kR.1 ho).1;have hex:∀j,(ops.extract 0 (i+1))[j]?=if j<i+1 then ops[j]? else none:=λj=>by
  rw[Array.getElem?_extract];split<;>split<;>simp_all<;>omega
 have h1:=h (λj=>by
   have hlen:((ops.toList.take i).map (·.dst)).length=i:=by simp;omega
   rw[hlen,hex];cases j with
   | zero=>simp[ho]
   | succ j=>rw[jn (by omega)];simp) (λj d hj=>by
   simp only[ji,kL]at hj;split at hj
   ·rw[hex,jm (by omega)];simpa using hj
   ·cases hj) (λo' ho'=>by
   obtain⟨j,hj⟩:=jz.1 ho';rw[lq,hex]at hj;split at hj
   ·exact jq.1 hd o' (je (i:=j) (by simpa using hj))
   ·cases hj) F os a w hrel (λe a' w'=>e=.normal/\SF F0 w0 w'/\wpAnyH P .any ops (NH k Q F0 os0 w0) (SF F0 w0) f (listed.setIfInBounds i true) a' w') (by
   rintro e a' w' ⟨s',F',os',⟨rfl,hax⟩,hr',he'⟩;exact⟨rfl,(he.trans he').II,hax.2 F0 os0 w0 F' os' a' w' hr' (he.trans he')⟩)
 have hy:Region.wanted o (yielded (ops.extract 0 (i+1)) a.tmps)=Region.wanted o (yielded ops a.tmps):=by
  unfold Region.wanted;unfold Ni at hg;cases hgd:o.guard with
  | none=>rfl
  | some p=>
   obtain⟨j,want⟩:=p;rw[hgd]at hg;simp only[jw]at hg;simp only[yielded,hex,jm hg]
 unfold wpList at h1;unfold wpOp;simp only[ho];rw[hy]at h1;split at h1
 ·rename_i hw;rw[jm hw];rcases h1 with h1|⟨_,a1,w1,h1,_⟩
  ·refine .inl (Oper.wp_mono (λa' w' h'=>?_) (OA (λc a' w' h'=>?_) (λh'=>?_) h1))
   ·exact h'.2
   ·exact nomatch h'.1
   ·obtain⟨_,_,h2,_⟩:=h';exact nomatch h2
  ·exact nomatch h1
 ·rename_i hw;rw[jn hw];exact h1.2
theorem Tp (i:Nat){v:AV}(hn:s.n=N)(ho:ops[i]?=some o)(hs:Region.noSelect ops=true)(hf:Region.free .any ops listed i=true)(hr:(Region.ready .any ops listed).contains i=true)(hd:DC s.n o.dst=true)(hh:N9 P s o v)
  (h:AY P k ops Q N f (listed.setIfInBounds i true) (s.put o.dst v)):AY P k ops Q N (f+1) listed s:=
 ⟨hn,λF0 os0 w0 F os a w hrel he=>by
  obtain⟨hg,hh⟩:=hh;obtain⟨u,hu,hv⟩:=hh F os a w hrel;refine wpAnyH_take ho hs hf hr (λc a w ⟨_,_,_,hp,_⟩=>nomatch hp.1) (.inl ⟨by unfold Region.wanted;rw[hg],λw' _=>hu w'⟩) he.II ?_;exact h.2 F0 os0 w0 F os _ w (hrel.put hd hv) he⟩
def AZ (P:Program)(k:Nat)(ops:Array Oper)(Q:Exit->St->Prop)(N f:Nat)(listed:Array Bool)(s:St):Prop:=
 s.n=N/\∀F os a w,Rel F os s a w->wpAnyH P .any ops (NH k Q F os w) (SF F w) f listed a w
theorem Uk {f':Nat}(hf:f=f')(hl:listed=listed')(h:AZ P k ops Q N f' listed' s):AZ P k ops Q N f listed s:=hf▸hl▸h
theorem VH (h:AY P k ops Q N f listed s):AZ P k ops Q N f listed s:=
 ⟨h.1,λF os a w hr=>h.2 F os w F os a w hr (Ext.refl F os w k)⟩
theorem Pd {id:Nat}(hm:P.follows .mixedOrders=true)(h:AZ P k ops Q s.n ops.size (Array.replicate ops.size false) s):AW P k (.region id ops true) Q s:=by
 intro F os a w hr;obtain⟨hr1,he1⟩:=hr.drew (k:=k);refine mK (wp_region_held hm (h.2 F os a w.drew hr1)) ?_;rintro e a' w' ⟨s',F',os',⟨rfl,hq⟩,h1,h2⟩;exact⟨s',F',os',hq,h1,he1.trans h2⟩
def Pu (P:Program)(s:St)(o:Oper)(v:AV):Prop:=
 o.guard=none/\∀F os a w,Rel F os s a w->∃u,(∀w',SF F w w'->(execOp a.eval o).run P w'=.ok (.value u) w')/\Ae F w os v u
theorem E3 {v:AV}(h:N9 P s o v):Pu P s o v:=⟨h.1,λF os a w hr=>let ⟨u,h1,h2⟩:=h.2 F os a w hr;⟨u,λw' _=>h1 w',h2⟩⟩
theorem DT (i:Nat){v:AV}(hn:s.n=N)(ho:ops[i]?=some o)(hs:Region.noSelect ops=true)(hf:Region.free .any ops listed i=true)(hr:(Region.ready .any ops listed).contains i=true)(hd:DC s.n o.dst=true)(hh:Pu P s o v)
  (h:AZ P k ops Q N f (listed.setIfInBounds i true) (s.put o.dst v)):AZ P k ops Q N (f+1) listed s:=
 ⟨hn,λF os a w hrel=>by
  obtain⟨hg,hh⟩:=hh;obtain⟨u,hu,hv⟩:=hh F os a w hrel;refine wpAnyH_take ho hs hf hr (λc a w ⟨_,_,_,hp,_⟩=>nomatch hp.1) (.inl ⟨by unfold Region.wanted;rw[hg],hu⟩) (λ_ _=>rfl) ?_;exact h.2 F os _ w (hrel.put hd hv)⟩
end
section
variable {P : Program} {n : Nat} {e : Nat -> AV} {st : List Row} {t : Tmp} {ty : TypeId} {ps : String} {ed : Array Edge} {x : Operand}
theorem L6 {off off' j f:Nat}{tt:TypeId}{cs:List AV}(hf:HZ P tt f=some j)(h:St.ev ⟨n,e,st⟩ x=.Bh cs off)(ho:off+j=off'):N9 P ⟨n,e,st⟩ ⟨some t,.fieldAddr tt x f,ty,ps,ed,none⟩ (.Bh cs off'):=
 ⟨rfl,λF os a w hr=>by
  subst ho;have h1:=hr.ev x;rw[h]at h1;unfold HZ at hf;split at hf<;>try (cases hf;done)
  rename_i fs hu;split at hf<;>try (cases hf;done)
  rename_i g1 hg;split at hf<;>try (cases hf;done)
  rename_i i1 hi;split at hf
  ·cases hf
  rename_i hz;simp only[jh]at hf;have hrun:∀b off w',(Instr.fieldAt tt (.pointer (some ⟨b,off,none⟩)) f).run P w'=.ok (.pointer (some ⟨b,off+j,none⟩)) w':=λb off w'=>by
   simp[Instr.fieldAt,kg hu,hg,Instr.sureAddr,fieldPlace,sizeOf,typeInfo,hi,hz,DE,hf]
  simp only[Ae]at h1;obtain⟨b,o',e2,hb,hc⟩:=h1;refine⟨.pointer (some ⟨b,o'+off+j,none⟩),λw'=>?_,?_⟩
  ·simp[execOp,e2,hrun]
  ·simp only[Ae];exact⟨b,o',by rw[lS],hb,hc⟩⟩
theorem OI {off sz:Nat}{tt:TypeId}{cs:List AV}{c:AV}(hti:D7 P tt=some (false,sz))(h:St.ev ⟨n,e,st⟩ x=.Bh cs off)(hc:cs[off]?=some c):Pu P ⟨n,e,st⟩ ⟨some t,.load tt x,ty,ps,ed,none⟩ c:=
 ⟨rfl,λF os a w hr=>by
  have h1:=hr.ev x;rw[h]at h1;simp only[Ae]at h1;obtain⟨b,o',e2,hb,hcs⟩:=h1;obtain⟨d,i,hud,hi,e1,e3⟩:=I9 hti;obtain⟨u,hu1,hu2,hu3⟩:=Kw (os:=os) hcs off c hc;refine⟨u,λw' hw'=>?_,hu3⟩;have hag:=Ke (w:=w') hud;rw[<- e1]at hag;have hcell:w'.cell? ⟨b,o'+off,none⟩=some u:=by rw[<- hu1];exact mF (hw' b hb)
  simp[execOp,e2,Instr.loadAt,Instr.sureAddr,loadVar,hag,hcell]⟩
theorem Te {off sz:Nat}{tt:TypeId}{cs:List AV}{c:AV}(hti:D7 P tt=some (true,sz))(h:St.ev ⟨n,e,st⟩ x=.Bh cs off)(hl:off+sz<=cs.length)(hc:.agg ((cs.drop off).take sz)=c):Pu P ⟨n,e,st⟩ ⟨some t,.load tt x,ty,ps,ed,none⟩ c:=
 ⟨rfl,λF os a w hr=>by
  subst hc;have h1:=hr.ev x;rw[h]at h1;simp only[Ae]at h1;obtain⟨b,o',e2,hb,hcs⟩:=h1;obtain⟨d,i,hud,hi,e1,e3⟩:=I9 hti;have hx:=Kw (os:=os) hcs;have hch:∃f:Nat->Value,∀j,j<sz->w.cell? ((⟨b,o'+off,none⟩:Addr).add j)=some (f j)/\∀c,cs[off+j]?=some c->Ae F w os c (f j):=
   ⟨λj=>(w.cell? ((⟨b,o'+off,none⟩:Addr).add j)).getD undef,λj hj=>by
    have hlt:off+j<cs.length:=by omega
    obtain⟨u,hu1,_,hu2⟩:=hx (off+j) cs[off+j] (jl hlt);have hu1':w.cell? ((⟨b,o'+off,none⟩:Addr).add j)=some u:=by rw[DE,<- hu1,lS]
    simp only[hu1',lg];refine⟨jf,λc hc=>?_⟩;rw[jl hlt,jh]at hc;exact hc▸hu2⟩
  obtain⟨f,hf⟩:=hch;refine⟨.agg ((List.range sz).map f).toArray,λw' hw'=>?_,?_⟩
  ·have hag:=Ke (w:=w') hud;rw[<- e1]at hag;have hsz:(sizeOf tt).run P w'=.ok i.size w':=by simp[sizeOf,typeInfo,hi]
   have hlc:=run_loadCells (P:=P) w' ⟨b,o'+off,none⟩ sz f (λj hj=>by
    rw[<- (hf j hj).1,DE];exact mF (hw' b hb))
   simp only at e3;simp[execOp,e2,Instr.loadAt,Instr.sureAddr,loadVar,hag,hsz,<- e3,hlc]
  ·simp only[Ae];refine⟨_,rfl,DZ (by simp;omega) λj c u hc hu=>?_⟩;simp only[kL,kW]at hc;split at hc
   ·rename_i hj;simp only[ji,lN hj,kb,jh]at hu;subst hu;exact (hf j hj).2 c hc
   ·cases hc⟩
end
section
variable {P : Program} {k : Nat} {α : Type} {l : List α} {enc : α -> List AV}
variable {ops : Array Oper} {Q : Exit -> St -> Prop} {ds : List (Option Tmp)} {r : List Oper} {n : Nat} {e : Nat -> AV} {st st' : List Row} {ty : TypeId} {ps : String} {ed : Array Edge} {v : AV} {gd : Option (Nat × Bool)} {T : TypeId} {x y : Operand} {ag : Bool} {sz id g size off : Nat} {el : TypeId} {cs cs' : List AV} {c : α} {i : Int}
end
end Go.Abs
namespace Go.Abs
open Go
end Go.Abs
namespace Go.Abs
open Go
def SZ (size:Nat):Nat->List (Nat×AV)->List (List AV)->Prop
 | _,[],[]=>True
 | k,(i,v)::r,c::cs=>i=k/\KP v=some c/\c.length=size/\SZ size (k+1) r cs
 | _,_,_=>False
theorem SZ.len {size:Nat}:∀{k:Nat} {pv:List (Nat×AV)} {css:List (List AV)},SZ size k pv css->pv.length=css.length/\∀c∈css,c.length=size
 | _,[],[],_=>⟨rfl,by simp⟩
 | k,(i,v)::r,c::cs,h=>by
  obtain⟨h1,h2⟩:=SZ.len h.2.2.2;refine⟨by simp[h1],λx hx=>?_⟩;rcases js.1 hx with rfl|hx
  ·exact h.2.2.1
  ·exact h2 x hx
theorem TY {size:Nat}:∀(pv:List (Nat×AV)) (css:List (List AV)) (k:Nat) (pre rest:List AV),pre.length=k*size->rest.length=pv.length*size->SZ size k pv css->MV (λi=>some (i*size,size)) (pre++rest) pv=some (pre++css.flatten)
 | [],[],k,pre,rest,_,h2,_=>by
  have:rest=[]:=ka (by simpa using h2);subst this;rfl
 | (i,v)::r,c::cs,k,pre,rest,h1,h2,h=>by
  obtain⟨rfl,hv,hc,hr⟩:=h;rw[kQ,kP,Nat.one_mul]at h2;have hlt:size<=rest.length:=by omega
  unfold MV;simp only[hv];rw[jm ⟨hc,by rw[kD];omega⟩];have hs:G5 (pre++rest) (i*size) c=(pre++c)++rest.drop size:=by
   unfold G5;rw[<- h1,List.take_left,hc,List.drop_append,lz (by omega),lR,show pre.length+size-pre.length=size by omega]
  rw[hs,TY r cs (i+1) (pre++c) (rest.drop size) (by rw[kD,kP];omega) (by rw[mI];omega) hr];simp
theorem TV {size:Nat}:∀(css:List (List AV)),(∀c∈css,c.length=size)->chunk size css.length css.flatten=css
 | [],_=>rfl
 | c::cs,h=>by
  have hc:=h c (by simp);show (c++cs.flatten).take size::chunk size cs.length ((c++cs.flatten).drop size)=_;rw[<- hc,List.take_left,List.drop_left,hc,TV cs λx hx=>h x (by simp[hx])]
theorem AT {k n:Nat}{e:Nat->AV}{st st':List Row}{L:List (Nat×AV)}(sel:List Nat)(hk:sel.take k=List.range k)(hnd:sel.Nodup)(hlt:sel.all (·<st.length)=true)(hp:Cb st sel=st')(hs:SR sel st' st')(h:ME (λt=>KB sel (e t)) L):
  Wk k ⟨n,e,st⟩ ⟨n,Aa L,st'⟩:=LM sel hk hnd hlt hp hs h
section
variable {P : Program} {k : Nat} {α : Type} {l : List α} {enc : α -> List AV} {ops : Array Oper} {Q : Exit -> St -> Prop} {ds : List (Option Tmp)} {r : List Oper} {n : Nat} {e : Nat -> AV} {st st' : List Row} {ty : TypeId} {ps : String} {ed : Array Edge} {t : Tmp} {gd : Option (Nat × Bool)} {T : TypeId} {bytes size m : Nat} {el : TypeId} {zz : List AV}
theorem fp {len:Nat}{parts:Array (Nat×Operand)}{pv:List (Nat×AV)}(hg:GO ds gd e)(he:D4 P T=some ⟨el,size,bytes,zz⟩)(hle:len*size<=16777216)(hp:(parts.toList.map λp=>(p.1,St.ev ⟨n,e,st⟩ p.2))=pv)
  (hz:zz.length=size) (hf:SZ size 0 pv (l.map enc)) (hln:len=l.length) (hm:st.length=m) (hst:st++[⟨0,el,size,l.map enc⟩]=st') (hk:AO P k ops Q (ds++[some t]) r ⟨n,ED e t (.own m 0 l.length),st'⟩) :
  AO P k ops Q ds (⟨some t,.buildSlice T len parts,ty,ps,ed,gd⟩::r) ⟨n,e,st⟩:=by
 obtain⟨h1,h2⟩:=hf.len;have hl:(l.map enc).length=len:=by rw[kB,hln]
 have ha:=TY pv (l.map enc) 0 [] (List.replicate len zz).flatten (by simp) (by rw[h1,hl];simp[hz]) hf;rw[lR,lR]at ha;refine BF (cs:=(l.map enc).flatten) hg he hle hp ha ?_ hln hm hst hk;rw[<- hl];exact TV _ h2
end
end Go.Abs
namespace Go.Abs
open Go
section
variable {P : Program} {k : Nat} {ops : Array Oper} {Q : Exit -> St -> Prop} {ds : List (Option Tmp)} {r : List Oper} {n : Nat} {e : Nat -> AV} {st st' : List Row} {ty : TypeId} {ps : String} {ed : Array Edge} {gd : Option (Nat × Bool)} {T : TypeId} {x y : Operand} {size id g sz : Nat} {el : TypeId} {α : Type} {l : List α} {enc : α -> List AV} {c : α} {i : Int} {v : AV} {cs x0 : List AV} {ag : Bool}
end
end Go.Abs
namespace Go.Abs
open Go
structure MS where
 n:Nat
 e:Nat->AV
 x:Row
 z:List Row
def MS.st (R:List Row)(m:MS):St:=⟨m.n,m.e,m.x::(R++m.z)⟩
def MS.put (m:MS)(d:Option Tmp)(v:AV):MS:=match d with
 | some d=>{ m with e:=ED m.e d v }
 | none=>m
theorem OD (R:List Row)(m:MS)(d:Option Tmp)(v:AV):(m.put d v).st R=(m.st R).put d v:=by cases d<;>rfl
theorem Mx (m:MS)(d:Option Tmp)(v:AV):(m.put d v).x=m.x:=by cases d<;>rfl
theorem Mt (m:MS)(d:Option Tmp)(v:AV):(m.put d v).z=m.z:=by cases d<;>rfl
theorem Mq (m:MS)(d:Option Tmp)(v:AV):(m.put d v).n=m.n:=by cases d<;>rfl
def MS.ev (m:MS)(x:Operand):AV:=St.ev ⟨m.n,m.e,[]⟩ x
theorem Tr (R:List Row)(m:MS)(x:Operand):(m.st R).ev x=m.ev x:=by cases x<;>rfl
inductive Kind where
 | q
 | l (x y:Row)
 | a (row:Row)
def Kind.D:Kind->Row->List Row->Prop
 | .q,_,_=>True
 | .l x0 _,x,_=>x=x0
 | .a _,_,z=>z=[]
def Kind.fx:Kind->Row->Row
 | .l _ y,_=>y
 | _,x=>x
def Kind.fz:Kind->List Row->List Row
 | .a row,_=>[row]
 | _,z=>z
def To (o:Oper):Bool:=match o.op with
 | .call ⟨.value _,_,_⟩=>true
 | _=>false
def Tm (o:Oper):Bool:=match o.op with
 | .alloc _=>true
 | _=>false
def Kind.fits:Kind->Oper->Prop
 | .q,_=>True
 | .l ..,o=>To o=true
 | .a _,o=>Tm o=true
def MS.go (m:MS)(kd:Kind):MS:=⟨m.n,m.e,kd.fx m.x,kd.fz m.z⟩
section
variable {P : Program} {k : Nat} {ops : Array Oper} {md : Region.Mode} {R : List Row}
def jR (P:Program)(k:Nat)(o:Oper)(s s':St):Prop:=
 ∀(F:Nat->Prop) (os:List Own) (a:Act) (w:World),Rel F os s a w->∀(next:Act->World->Prop) (Q:Exit->Act->World->Prop),
  (∀a' w',Step k s.n F os w (·=s') a' w'->next a' w')->o.wp P a w next Q
def ak (P:Program)(k:Nat)(R:List Row)(o:Oper)(n:Nat)(ev:Operand->AV)(kd:Kind)(v:AV):Prop:=
 ∀x z e,kd.D x z->(∀y∈o.op.operands,MS.ev ⟨n,e,x,z⟩ y=ev y)->DC n o.dst=true->jR P k o (MS.st R ⟨n,e,x,z⟩) (MS.st R ((MS.go ⟨n,e,x,z⟩ kd).put o.dst v))
def iT (P:Program)(k:Nat)(R:List Row)(o:Oper)(m m':MS):Prop:=
 ∃kd v,Kind.fits kd o/\kd.D m.x m.z/\m'=(m.go kd).put o.dst v/\ak P k R o m.n m.ev kd v
def MT (P:Program)(k:Nat)(R:List Row)(ops:Array Oper)(o:Oper)(m m':MS):Prop:=
 (Fa ops o (m.st R)=some true/\iT P k R o m m')∨(Fa ops o (m.st R)=some false/\m'=m.put o.dst .un)
def V0 (P:Program)(k:Nat)(R:List Row)(ops:Array Oper)(i:Nat)(K:MS->Prop)(m:MS):Prop:=
 match ops[i]? with
 | none=>K m
 | some o=>∃m',MT P k R ops o m m'/\K m'
theorem Vs {m:MS}{d:Option Tmp}{v:AV}{x:Operand}(h :∀t,d=some t->x≠.tmp t):(m.put d v).ev x=m.ev x:=by
 cases d with
 | none=>rfl
 | some d=>
  cases x with
  | tmp t=>
   have hne:t≠d:=λe=>h d rfl (e▸rfl);simp[MS.ev,MS.put,St.ev,ED,hne]
  | _=>rfl
theorem Lk (m:MS){x y:Option Tmp}(v u:AV)(h :∀d,x=some d->y≠some d):(m.put x v).put y u=(m.put y u).put x v:=by
 cases x with
 | none=>rfl
 | some d=>
  cases y with
  | none=>rfl
  | some e=>
   have hne:d≠e:=λhe=>h d rfl (he▸rfl);simp only[MS.put,MS.mk.injEq,true_and,and_true];funext t;simp only[ED];by_cases h1:t=d
   ·subst h1;simp[hne]
   ·by_cases h2:t=e
    ·subst h2;simp[h1]
    ·simp[h1,h2]
theorem UY (m:MS)(kd:Kind)(d:Option Tmp)(v:AV):(m.put d v).go kd=(m.go kd).put d v:=by cases d<;>rfl
theorem VN {o:Oper}{m:MS}:Fa ops o (m.st R)=Fa ops o ⟨m.n,m.e,[]⟩:=rfl
theorem HN {oi:Oper}{m:MS}{d:Option Tmp}{u:AV}{kd:Kind}(hd :∀t,d=some t->t ∉ oi.looksAt ops):Fa ops oi (((m.go kd).put d u).st R)=Fa ops oi (m.st R):=by
 rw[VN,VN];unfold Fa;cases hg:oi.guard with
 | none=>rfl
 | some p=>
  obtain⟨j,want⟩:=p;dsimp only;cases ht:(ops[j]?).bind (·.dst) with
  | none=>rfl
  | some t=>
   dsimp only;have:((m.go kd).put d u).e t=m.e t:=Vs (m:=m.go kd) (x:=.tmp t) λt' ht' e=>hd t' ht' (by
    cases e;exact mD _ (by simp[hg,ht]))
   rw[this]
theorem Kt {oi:Oper}{m:MS}{d:Option Tmp}{u:AV}(hd :∀t,d=some t->t ∉ oi.looksAt ops):∀x∈oi.op.operands,(m.put d u).ev x=m.ev x:=λx hx=>
 Vs λt ht hxt=>hd t ht (by
  subst hxt;exact ko _ (kz.2 ⟨.tmp t,by simpa using hx,rfl⟩))
theorem ak.congr {o:Oper}{n:Nat}{ev ev':Operand->AV}{kd:Kind}{v:AV}(h:ak P k R o n ev kd v)(he :∀y∈o.op.operands,ev' y=ev y):ak P k R o n ev' kd v:=
 λx z e hD ho hd=>h x z e hD (λy hy=>(ho y hy).trans (he y hy)) hd
theorem Z0 {ki kj:Kind}{oi oj:Oper}(hi:ki.fits oi)(hj:kj.fits oj)(hf:¬ (To oi=true/\To oj=true))(ha:¬ (Tm oi=true/\Tm oj=true)){x:Row}{z:List Row}(h1:ki.D x z)(h2:kj.D (ki.fx x) (ki.fz z)):
  kj.D x z/\ki.D (kj.fx x) (kj.fz z)/\ki.fx (kj.fx x)=kj.fx (ki.fx x)/\ki.fz (kj.fz z)=kj.fz (ki.fz z):=by
 cases ki with
 | q=>exact⟨h2,jf,rfl,rfl⟩
 | l x0 y=>
  cases kj with
  | q=>exact⟨jf,h1,rfl,rfl⟩
  | l x1 y1=>exact absurd ⟨hi,hj⟩ hf
  | a row=>exact⟨h2,h1,rfl,rfl⟩
 | a row=>
  cases kj with
  | q=>exact⟨jf,h1,rfl,rfl⟩
  | l x1 y1=>exact⟨h2,h1,rfl,rfl⟩
  | a row1=>exact absurd ⟨hi,hj⟩ ha
theorem dC {oi oj:Oper}{m mi mij:MS}(hap:oi.apart ops oj=true)(hf:¬ (To oi=true/\To oj=true))(ha:¬ (Tm oi=true/\Tm oj=true))(hi:MT P k R ops oi m mi)(hj:MT P k R ops oj mi mij):
  ∃mj,MT P k R ops oj m mj/\MT P k R ops oi mj mij:=by
 obtain⟨h1,h2,h3⟩:=Oper.apart_spec hap;have hq:∀(m:MS),m.go .q=m:=λm=>rfl;rcases hi with ⟨wi,ki,vi,fi,di,rfl,gi⟩|⟨wi,rfl⟩<;>rcases hj with ⟨wj,kj,vj,fj,dj,rfl,gj⟩|⟨wj,rfl⟩
 ·rw[HN h1]at wj;rw[Mx,Mt]at dj;obtain⟨e1,e2,e3,e4⟩:=Z0 fi fj hf ha di dj;refine⟨(m.go kj).put oj.dst vj,.inl ⟨wj,kj,vj,fj,e1,rfl,?_⟩,.inl ⟨by rw[HN h3];exact wi,ki,vi,fi,by rw[Mx,Mt];exact e2,?_,?_⟩⟩
  ·rw[Mq]at gj;exact gj.congr λy hy=>(Kt (m:=m.go ki) (u:=vi) h1 y hy).symm
  ·rw[UY,UY,<- Lk _ vi vj h2];congr 2;simp only[MS.go,e3,e4]
  ·rw[Mq];exact gi.congr λy hy=>Kt (m:=m.go kj) h3 y hy
 ·rw[HN h1]at wj;refine⟨m.put oj.dst .un,.inr ⟨wj,rfl⟩,.inl ⟨by have:=HN (R:=R) (m:=m) (kd:=.q) (u:=.un) h3;rw[hq]at this;rw[this];exact wi,ki,vi,fi,by rw[Mx,Mt];exact di,?_,?_⟩⟩
  ·rw[UY,<- Lk _ vi .un h2]
  ·rw[Mq];exact gi.congr λy hy=>Kt h3 y hy
 ·have h5:=HN (R:=R) (m:=m) (kd:=.q) (u:=.un) h1;rw[hq]at h5;rw[h5]at wj;rw[Mx,Mt]at dj;refine⟨(m.go kj).put oj.dst vj,.inl ⟨wj,kj,vj,fj,dj,rfl,?_⟩,.inr ⟨by rw[HN h3];exact wi,?_⟩⟩
  ·rw[Mq]at gj;exact gj.congr λy hy=>(Kt h1 y hy).symm
  ·rw[UY,<- Lk _ .un vj h2]
 ·have h5:=HN (R:=R) (m:=m) (kd:=.q) (u:=.un) h1;have h6:=HN (R:=R) (m:=m) (kd:=.q) (u:=.un) h3;rw[hq]at h5 h6;rw[h5]at wj;exact⟨m.put oj.dst .un,.inr ⟨wj,rfl⟩,.inr ⟨by rw[h6];exact wi,by rw[<- Lk _ .un .un h2]⟩⟩
def anyM (P:Program)(k:Nat)(R:List Row)(md:Region.Mode)(ops:Array Oper)(n:Nat)(L:Array Bool->MS->Prop):Nat->Array Bool->MS->Prop
 | 0,listed,s=>L listed s
 | f+1,listed,s=>Region.ready md ops listed≠[]/\∀i∈Region.ready md ops listed,i<n/\V0 P k R ops i (anyM P k R md ops n L f (listed.setIfInBounds i true)) s
theorem WW {F:Nat->Prop}{os:List Own}{a:Act}{w:World}{i:Nat}{K:MS->Prop}{m:MS}(hdst :∀o∈ops.toList,DC m.n o.dst=true)(hr:Rel F os (m.st R) a w)(h:V0 P k R ops i K m){next:Act->World->Prop}{Q:Exit->Act->World->Prop}
  (hn :∀a' w',Step k m.n F os w (λs=>∃m',s=m'.st R/\K m') a' w'->next a' w'):wpOp P ops Q i next a w:=by
 unfold V0 at h;unfold wpOp;split
 ·rename_i ho;simp only[ho]at h;exact hn a w ⟨m.st R,F,os,rfl,⟨m,rfl,h⟩,hr,Ext.refl _ _ _ _⟩
 ·rename_i o ho;simp only[ho]at h;obtain⟨m',hy,hK⟩:=h;have hod:=hdst o (by have:=je (l:=ops.toList) (i:=i) (by simpa using ho);exact this);rcases hy with ⟨hw,kd,v,_,hD,rfl,hg⟩|⟨hw,rfl⟩
  ·rw[jm (NB hr hdst hw)];refine .inl (hg m.x m.z m.e hD (λ_ _=>rfl) hod F os a w hr next Q ?_);rintro a' w' ⟨s',F',os',h1,rfl,h3,h4⟩;exact hn a' w' ⟨_,F',os',h1,⟨_,rfl,hK⟩,h3,h4⟩
  ·rw[jn (by rw[NB hr hdst hw];simp)];exact hn _ w ⟨_,F,os,by rw[OD];cases o.dst<;>rfl,⟨_,rfl,hK⟩,by rw[OD];exact hr.un hod,Ext.refl _ _ _ _⟩
theorem O6 {n g N:Nat}{L:Array Bool->MS->Prop}{Q':Exit->Act->World->Prop}{F0:Nat->Prop}{os0:List Own}{w0:World}(hdst :∀o∈ops.toList,DC N o.dst=true)
  (hL :∀listed (m:MS) F os a w,m.n=N->L listed m->Rel F os (m.st R) a w->Ext F0 os0 w0 F os w k->wpAny P md ops Q' g listed a w) :
  ∀(f:Nat) (listed:Array Bool) (m:MS) F os a w,m.n=N->anyM P k R md ops n L f listed m->Rel F os (m.st R) a w->Ext F0 os0 w0 F os w k->wpAny P md ops Q' (f+g) listed a w
 | 0,listed,s,F,os,a,w,hn,h,hr,he=>by rw[kt];exact hL _ _ _ _ _ _ hn h hr he
 | f+1,listed,s,F,os,a,w,hn,h,hr,he=>by
  rw[show f+1+g=(f+g)+1 by omega];refine⟨λh0=>absurd h0 h.1,λi hi=>?_⟩;refine WW (k:=k) (by rw[hn];exact hdst) hr (h.2 i hi).2 ?_;rintro a' w' ⟨s',F',os',h1,⟨m',rfl,h2⟩,h3,h4⟩;exact O6 hdst hL f _ m' F' os' a' w' (by rw[<- hn];exact h1) h2 h3 (he.trans h4)
def Ir (ops:Array Oper)(i:Nat):Bool:=match ops[i]? with|some o=>To o|none=>false
def Po (ops:Array Oper)(i:Nat):Bool:=match ops[i]? with|some o=>Tm o|none=>false
def db (md:Region.Mode)(ops:Array Oper)(j i:Nat):Bool:=match ops[j]? with|some o=>o.after.any λe=>Region.binds md e&&e.on==i|none=>false
def Q5 (md:Region.Mode)(ops:Array Oper)(n:Nat):Bool:=
 (List.range n).all λj=>(List.range j).all λi=>(!(Po ops i&&Po ops j))&&(!(Ir ops i&&Ir ops j) || ((List.range j).any λm=>decide (i<m)&&Ir ops m) || db md ops j i)
theorem PU {n:Nat}(h:Q5 md ops n=true){i j:Nat}(hij:i<j)(hj:j<n):¬ (Po ops i=true/\Po ops j=true)/\
  (Ir ops i=true->Ir ops j=true->(∃m,i<m/\m<j/\Ir ops m=true)∨∀oj,ops[j]?=some oj->∃e∈oj.after,Region.binds md e=true/\e.on=i):=by
 unfold Q5 at h;have h1:=jq.1 (jq.1 h j (lp.2 hj)) i (lp.2 hij);rw[kF]at h1;refine⟨λ⟨a,b⟩=>?_,λa b=>?_⟩
 ·simp[a,b]at h1
 ·have h2:=h1.2;simp only[a,b,nT,lL,Bool.false_or,Bool.or_eq_true,mG,lp,kF,jw]at h2;rcases h2 with ⟨m,hm,h3,h4⟩|h2
  ·exact .inl ⟨m,h3,hm,h4⟩
  ·refine .inr λoj hoj=>?_;simp only[db,hoj,Array.any_eq_true']at h2;obtain⟨e,he,hb⟩:=h2;simp only[kF,beq_iff_eq]at hb;exact⟨e,he,hb⟩
theorem Xp {n:Nat}(h:Q5 md ops n=true){listed:Array Bool}(inv:HeadInv md ops n listed):∀(d i j:Nat),j-i=d->i<j->j<n->Ir ops i=true->Ir ops j=true->
  listed.getD j false=true->listed.getD i false=true:=by
 intro d
 induction d using Nat.strongRecOn with
 | _ d ih=>
  intro i j hd hij hj hi hfj hl;rcases (PU h hij hj).2 hi hfj with ⟨m,h1,h2,h3⟩|h1
  ·have hm:=ih (j-m) (by omega) m j rfl h2 hj h3 hfj hl;exact ih (m-i) (by omega) i m rfl h1 (by omega) hi h3 hm
  ·obtain⟨oj,hoj⟩ :∃oj,ops[j]?=some oj:=by
    unfold Ir at hfj;split at hfj
    ·rename_i o ho;exact⟨o,ho⟩
    ·cases hfj
   obtain⟨e,he,hb,rfl⟩:=h1 oj hoj;exact inv.closed j oj hoj hl e he hb
theorem Yb {n:Nat}(h:Q5 md ops n=true){listed:Array Bool}(inv:HeadInv md ops n listed){i j:Nat}(hij:i<j)(hj:j<n)(hi:Ir ops i=true)(hfj:Ir ops j=true)
  (hr:j∈Region.ready md ops listed):listed.getD i false=true:=by
 obtain⟨_,oj,hoj,hall⟩:=mV.1 hr;have key:∀(d i:Nat),j-i=d->i<j->Ir ops i=true->listed.getD i false=true:=by
  intro d
  induction d using Nat.strongRecOn with
  | _ d ih=>
   intro i hd hij hi;rcases (PU h hij hj).2 hi hfj with ⟨m,h1,h2,h3⟩|h1
   ·exact Xp h inv _ i m rfl h1 (by omega) hi h3 (ih (j-m) (by omega) m rfl h2 h3)
   ·obtain⟨e,he,hb,rfl⟩:=h1 oj hoj;exact hall e he hb
 exact key _ i rfl hij hi
theorem ZK {n i:Nat}{oi:Oper}{L:Array Bool->MS->Prop}(hwt:Q5 md ops n=true)(hi:ops[i]?=some oi)
  (htail :∀listed,HeadInv md ops n listed->∀i,i<n->listed.getD i true=false->∀t,n<=t->t ∉ Region.ready md ops listed) (hin:i<n)
  (hdone :∀listed s,L listed s->∀j∈Region.ready md ops listed,n<=j) :
  ∀(f:Nat) (listed:Array Bool) (m mi:MS),HeadInv md ops n listed->(∀j,j<i->listed.getD j true=true)->
   (∀j oj,ops[j]?=some oj->j≠i->listed.getD j true=false->(∀e∈oj.after,Region.binds md e=true->e.on≠i)->oi.apart ops oj=true)->
   i∈Region.ready md ops listed->MT P k R ops oi m mi->
   anyM P k R md ops n L f (listed.setIfInBounds i true) mi->anyM P k R md ops n L (f+1) listed m:=by
 have hstep:∀{K:MS->Prop} {m mi:MS},MT P k R ops oi m mi->K mi->V0 P k R ops i K m:=λ{K m mi} hy h=>by
  unfold V0;simp only[hi];exact⟨mi,hy,h⟩
 intro f
 induction f with
 | zero=>
  intro listed m mi inv hlow _ hr hy H;have hun:=(mV.1 hr).1;refine⟨λh=>(by rw[h]at hr;cases hr),λj hj=>?_⟩;have hjn:j<n:=by
   rcases la j n with h|h
   ·exact h
   ·exact absurd hj (htail _ inv i hin hun j h)
  refine⟨hjn,?_⟩;by_cases hji:j=i
  ·subst hji;exact hstep hy H
  ·have:=hdone _ _ H j (mS hj hji);omega
 | succ f ih=>
  intro listed m mi inv hlow hfree hr hy H;have hun:=(mV.1 hr).1;refine⟨λh=>(by rw[h]at hr;cases hr),λj hj=>?_⟩;have hjn:j<n:=by
   rcases la j n with h|h
   ·exact h
   ·exact absurd hj (htail _ inv i hin hun j h)
  refine⟨hjn,?_⟩;by_cases hji:j=i
  ·subst hji;exact hstep hy H
  ·have h1:=(H.2 j (mS hj hji)).2;obtain⟨hjun,oj,hoj,hall⟩:=mV.1 hj;have hnot:∀e∈oj.after,Region.binds md e=true->e.on≠i:=λe he hb heq=>by
    have h1:=hall e he hb;rw[heq,getD_both hun]at h1;cases h1
   have hlt:i<j:=by
    rcases lH i j with h|h|h
    ·exact h
    ·exact absurd h.symm hji
    ·have:=hlow j h;rw[hjun]at this;cases this
   have hfn:¬ (To oi=true/\To oj=true):=λ⟨h1,h2⟩=>by
    have:=Yb hwt inv hlt hjn (by simp[Ir,hi,h1]) (by simp[Ir,hoj,h2]) hj;rw[getD_both hun]at this;cases this
   have hal:¬ (Tm oi=true/\Tm oj=true):=λ⟨h1,h2⟩=>
    (PU hwt hlt hjn).1 ⟨by simp[Po,hi,h1],by simp[Po,hoj,h2]⟩
   unfold V0 at h1;simp only[hoj]at h1;obtain⟨mij,hmt,hK⟩:=h1;obtain⟨mj,g1,g2⟩:=dC (hfree j oj hoj hji hjun hnot) hfn hal hy hmt;unfold V0;simp only[hoj];refine⟨mj,g1,ih (listed.setIfInBounds j true) mj mij (inv.set hj hjn) (λq hq=>?_) ?_ (mS hr (lK hji)) g2 ?_⟩
   ·rw[nD true (by omega)];exact hlow q hq
   ·intro k ok hk hki hun hno;refine hfree k ok hk hki ?_ hno;by_cases hjk:j=k
    ·subst hjk;exact hjun
    ·rw[nD true hjk]at hun;exact hun
   ·rw[mY _ _ hji];exact hK
def Kc (P:Program)(k:Nat)(R:List Row):List (Option Tmp)->List Oper->(MS->Prop)->MS->Prop
 | _,[],K,m=>K m
 | ds,o::r,K,m=>Ix ds o (m.st R) (∃m',iT P k R o m m'/\Kc P k R (ds++[o.dst]) r K m') (Kc P k R (ds++[o.dst]) r K (m.put o.dst .un))
theorem XJ {n g:Nat}{K:MS->Prop}(hwt:Q5 md ops n=true)(htail :∀listed,HeadInv md ops n listed->∀i,i<n->listed.getD i true=false->∀t,n<=t->t ∉ Region.ready md ops listed):
  ∀(l:List Oper) (ds:List (Option Tmp)) (listed:Array Bool) (m:MS),(∀(j:Nat),j<l.length->l[j]?=ops[ds.length+j]?)->(∀(j:Nat) d,ds[j]?=some d->(ops[j]?).map (·.dst)=some d)->ds.length+l.length=n->HeadInv md ops n listed->
  (∀j,j<ds.length->listed.getD j true=true)->
  Region.lexHead md ops g l.length ds.length listed=true->Kc P k R ds l K m->
  anyM P k R md ops n (λlisted' s'=>Region.seqB md ops g n listed'=true/\K s') l.length listed m
 | [],ds,listed,s,_,_,hk,_,_,hB,h=>by
  have:ds.length=n:=by simpa using hk
  subst this;exact⟨by simpa [Region.lexHead] using hB,h⟩
 | o::l,ds,listed,s,hl,hds,hk,inv,hlow,hB,h=>by
  have h0:ops[ds.length]?=some o:=by simpa using (hl 0 (by simp)).symm
  simp only[kQ,Region.lexHead,kF]at hB;obtain⟨⟨hr,hf⟩,hB'⟩:=hB;have hkn:ds.length<n:=by simp only[kQ]at hk;omega
  have hr':ds.length∈Region.ready md ops listed:=by simpa using hr
  have hds' :∀(j:Nat) d,(ds++[o.dst])[j]?=some d->(ops[j]?).map (·.dst)=some d:=λj d hj=>by
   rcases lH j ds.length with h1|h1|h1
   ·rw[jr h1]at hj;exact hds j d hj
   ·subst h1;rw[Jh,jh]at hj;rw[h0];simp[hj]
   ·rw[kq (by simp;omega)]at hj;cases hj
  have hlow' :∀j,j<(ds++[o.dst]).length->(listed.setIfInBounds ds.length true).getD j true=true:=λj hj=>by
   simp only[kD,kQ,lE]at hj;by_cases hjd:ds.length=j
   ·subst hjd;rcases la ds.length listed.size with h5|h5
    ·simp[h5]
    ·simp[mm h5]
   ·rw[nD true hjd];exact hlow j (by omega)
  have hrec:∀s',Kc P k R (ds++[o.dst]) l K s'->anyM P k R md ops n (λlisted' s'=>Region.seqB md ops g n listed'=true/\K s') l.length (listed.setIfInBounds ds.length true) s':=λs' hs'=>
   XJ hwt htail l (ds++[o.dst]) _ s' (λj hj=>by
    have:=hl (j+1) (by simp;omega);simp only[kT]at this;rw[this];congr 1;simp;omega) hds' (by simp only[kQ,kD,lE]at hk⊢;omega) (inv.set hr' hkn) hlow' (by simpa using hB') hs'
  have hfirst:∀m',MT P k R ops o s m'->Kc P k R (ds++[o.dst]) l K m'->anyM P k R md ops n (λlisted' s'=>Region.seqB md ops g n listed'=true/\K s') (l.length+1) listed s:=λm' hy hK=>
   ZK hwt h0 htail hkn (λlisted' s' hL=>seqB_ready hL.1) l.length listed s m' inv hlow (nb h0 hf) hr' hy (hrec _ hK)
  simp only[Kc]at h;rcases Un hds h with ⟨hw,m',h1,h2⟩|⟨hw,h1⟩
  ·exact hfirst m' (.inl ⟨hw,h1⟩) h2
  ·exact hfirst _ (.inr ⟨hw,rfl⟩) h1
theorem Bd {id n:Nat}{e:Nat->AV}{x:Row}{Q:Exit->St->Prop}(R:List Row)(m:Nat)(hm:P.follows .mixedOrders=true)(hB:Region.lexTailB .any ops m=true)(hw:Q5 .any ops m=true)(hd:(ops.toList.all λo=>DC n o.dst)=true)
  (h:Kc P k R [] (ops.toList.take m) (λs'=>AO P k ops Q ((ops.toList.take m).map (·.dst)) (ops.toList.drop m) (s'.st R)) ⟨n,e,x,[]⟩):AW P k (.region id ops true) Q ⟨n,e,x::R⟩:=by
 simp only[Region.lexTailB,kF,jw]at hB;obtain⟨⟨⟨⟨_,hn⟩,hs⟩,hc⟩,hlex⟩:=hB;intro F os a w hr;have hr0:Rel F os (MS.st R ⟨n,e,x,[]⟩) a w:=by simpa [MS.st] using hr
 obtain⟨hr1,he1⟩:=hr0.drew (k:=k);refine nU hm ?_;have htl:(ops.toList.take m).length=m:=by simp;omega
 have hdl:(ops.toList.drop m).length=ops.size-m:=by simp
 have H:=XJ (md:=.any) (ops:=ops) (n:=m) (g:=ops.size-m) (k:=k) (R:=R) (P:=P) (K:=λs'=>AO P k ops Q ((ops.toList.take m).map (·.dst)) (ops.toList.drop m) (s'.st R)) hw
  (λlisted inv i hi hun t ht=>tail_waits hs hc hn inv _ i rfl hi hun t ht) (ops.toList.take m) [] _ _ (λj hj=>by
   rw[htl]at hj;rw[kL,jm hj];simp) (by simp) (by simpa using htl) (Sq _) (by simp) (by rw[htl];exact hlex) h
 have:=O6 (k:=k) (g:=ops.size-m) (N:=n) (R:=R) (Q':=J5 k Q F os w) (F0:=F) (os0:=os) (w0:=w) (λo ho=>jq.1 hd o ho) (λlisted s' F' os' a' w' hn' hL hr' he=>by
  have h1:=hL.2 (λj=>by
    rw[kB,htl,kW];simp) (λj d hj=>by
    simp only[ji,kL]at hj;split at hj
    ·simpa using hj
    ·cases hj) (by show∀o∈ops.toList,DC s'.n o.dst=true;rw[hn'];exact λo ho=>jq.1 hd o ho) F' os' a' w' hr' (J5 k Q F os w) λ_ _ _ hp=>J5.trans he hp
  have h2:=wpAny_of_seq (md:=.any) (Q':=J5 k Q F os w) (ops.toList.drop m) m listed a' w' (λj=>by simp[kW]) (by rw[hdl];exact hL.1) h1;rwa [hdl]at h2) _ _ _ F os a w.drew rfl H hr1 he1
 rw[htl,show m+(ops.size-m)=ops.size by omega]at this;exact this
end
section
variable {P : Program} {k : Nat} {R : List Row} {ds : List (Option Tmp)} {r : List Oper} {K : MS -> Prop} {n : Nat} {e : Nat -> AV} {x0 : Row} {z0 : List Row} {t : Tmp} {op : Op} {ty : TypeId} {ps : String} {ed : Array Edge} {gd : Option (Nat × Bool)} {v : AV}
theorem GO.elim {o:Oper}{A B:Prop}{s:St}(hg:GO ds gd s.env)(ho:o.guard=gd)(h:Ix ds o s A B):A:=by
 unfold Ix at h;rw[ho]at h;cases gd with
 | none=>exact h
 | some q=>
  obtain⟨jj,want⟩:=q;obtain⟨tg,hj,ht⟩:=hg;simp only[hj,ht,ZG]at h;exact h.1 rfl
theorem FQ (hg:GO ds gd e)(h :∀x z,D6 P ds [⟨some t,op,ty,ps,ed,gd⟩] (λs'=>s'.env t=v) ⟨n,e,x::(R++z)⟩)(hk:Kc P k R (ds++[some t]) r K ⟨n,ED e t v,x0,z0⟩):
  Kc P k R ds (⟨some t,op,ty,ps,ed,gd⟩::r) K ⟨n,e,x0,z0⟩:=by
 refine GO.guard (e:=e) hg ⟨_,⟨.q,v,jf,jf,rfl,?_⟩,hk⟩;intro x z e' _ ho hd F os a w hr next Q hn
 have h1:=h x z;unfold D6 at h1;have h2:=GO.elim (s:=⟨n,e,x::(R++z)⟩) hg rfl h1;obtain⟨v',hv,h3⟩:=Vr h2;have hvv:v'=v:=by simpa [D6,St.put,ED] using hv
 subst hvv;have h4:Kj P ⟨some t,op,ty,ps,ed,gd⟩ (MS.st R ⟨n,e',x,z⟩) (·=v'):=OC (s:=⟨n,e,x::(R++z)⟩) rfl (λy hy=>by
  have:=ho y hy;rw[Tr,this];cases y<;>rfl) h3
 exact Wq (k:=k) hr hd h4 (by rw[OD]at hn;exact hn)
theorem E0 {K':St->Prop}{st:List Row}(hst:x0::(R++z0)=st)(h:K' ⟨n,e,st⟩):Kc P k R ds [] (λm=>K' (m.st R)) ⟨n,e,x0,z0⟩:=by
 subst hst;exact h
theorem Yk {T:TypeId}{zz:List AV}{m:Nat}(hz:IC P T=some zz)(hm:R.length+1=m)(hk:Kc P k R (ds++[some t]) r K ⟨n,ED e t (.ptr m 0 0 0),x0,[⟨0,T,zz.length,[zz]⟩]⟩):
  Kc P k R ds (⟨some t,.alloc T,ty,ps,ed,none⟩::r) K ⟨n,e,x0,[]⟩:=by
 subst hm;refine⟨_,⟨.a ⟨0,T,zz.length,[zz]⟩,.ptr (R.length+1) 0 0 0,rfl,rfl,rfl,?_⟩,hk⟩;intro x z e' hz0 ho hd F os a w hr next Q hn
 have hz0:z=[]:=hz0;subst hz0;refine Ko (k:=k) (K:=(·=MS.st R ((MS.go ⟨n,e',x,[]⟩ (.a ⟨0,T,zz.length,[zz]⟩)).put (some t) (.ptr (R.length+1) 0 0 0)))) hr hd ?_ hn;refine Ap _ hz ?_;simp[MS.st,MS.go,MS.put,St.put,Kind.fx,Kind.fz]
theorem Sd {sel:List Nat}{A z:List Row}(h:sel.all (·<A.length)=true):Cb (A++z) sel=Cb A sel:=by
 unfold Cb
 induction sel with
 | nil=>rfl
 | cons i l ih=>
  simp only[lx,kF,jw]at h;rw[lX,lX,jr h.1,ih h.2]
theorem UJ {sel:List Nat}{rs A z:List Row}(h:sel.all (·<A.length)=true):Fz sel rs 0 (A++z)=Fz sel rs 0 A++z:=by
 apply lk;intro i;rw[Lt,kt];by_cases hi:i<A.length
 ·rw[jr hi,jr (by rw[Jo];exact hi),Lt,kt]
 ·rw[jt (by omega),jt (by rw[Jo];omega),Jo];have hx:idx sel i=none:=by
   cases hx:idx sel i with
   | none=>rfl
   | some p=>
    have:=je (Nc hx);have:=jq.1 h i this;simp at this;omega
  rw[hx];cases z[i-A.length]?<;>rfl
theorem dV {f:FuncId}{ars:Array Operand}{ts:Array TypeId}{args args':List AV}{rowsP rows0 rows1 rows1':List Row}{v v':AV}{y0:Row}(sel:List Nat)(hg:GO ds gd e)(hb:Dl P f=true)(hc:Ab P f args' rows0 λr st=>r=v/\st=rows1)(ha:ars.toList.map (St.ev ⟨n,e,[]⟩)++[]=args)(hnd:sel.Nodup)(hlt:sel.all (·<R.length+1)=true)
  (hp:Cb (x0::R) sel=rowsP) (hs:SR sel rowsP rows0) (hf:args.map (KB sel)=args') (hlen:rows1.length=sel.length) (h1 :∀N,UN sel N rows1 rows1') (hv :∀N,Se sel N v=v') (hst':Fz sel rows1' 0 (x0::R)=y0::R)
  (hk:Kc P k R (ds++[some t]) r K ⟨n,ED e t v',y0,z0⟩):Kc P k R ds (⟨some t,.call ⟨.value (.func f),ars,ts⟩,ty,ps,ed,gd⟩::r) K ⟨n,e,x0,z0⟩:=by
 subst ha;subst hp;refine GO.guard (e:=e) hg ⟨_,⟨.l x0 y0,v',rfl,rfl,rfl,?_⟩,hk⟩;intro x z e' hx ho hd F os a w hr next Q hn
 have hx:x=x0:=hx;subst hx;refine Ko (k:=k) (K:=(·=MS.st R ((MS.go ⟨n,e',x,z⟩ (.l x y0)).put (some t) v'))) hr hd ?_ hn;show Dl P f=true/\callThen P k (MS.st R ⟨n,e',x,z⟩) f (ars.toList.map (MS.st R ⟨n,e',x,z⟩).ev++[]) (some t) _;have hev:ars.toList.map (MS.st R ⟨n,e',x,z⟩).ev=ars.toList.map (St.ev ⟨n,e,[]⟩):=RO (f:=f) (ts:=ts) (s0:=MS.st R ⟨n,e',x,z⟩) (s1:=⟨n,e,[]⟩) λy hy=>by rw[Tr];exact ho y hy
 rw[hev];refine⟨hb,KF λhle=>?_⟩;have hsplit:(MS.st R ⟨n,e',x,z⟩).st=(x::R)++z:=rfl;have hlt':sel.all (·<(x::R).length)=true:=by simpa using hlt
 have hpick:Cb (MS.st R ⟨n,e',x,z⟩).st sel=Cb (x::R) sel:=by rw[hsplit];exact Sd hlt'
 obtain⟨e1,e3⟩:=hs.spec (st0:=(MS.st R ⟨n,e',x,z⟩).st) hle (λrow hrow=>by
  rw[<- hpick]at hrow;obtain⟨i,_,hi⟩:=kz.1 hrow;exact je hi)
 refine Kv (rows2:=[]) sel (by simpa using hc) hnd (λi hi=>by
   have:=jq.1 hlt' i hi;rw[hsplit,kD];simp only[jw]at this;omega) (by rw[hpick];exact e1) e3 hf hlen (λrow hrow=>by
  rw[ky]at hrow;exact (h1 _).leaf row hrow) λ_=>?_
 rw[(h1 _).spec,hv,hsplit,UJ hlt',hst'];simp[MS.st,MS.go,MS.put,St.put,Kind.fx,Kind.fz]
end
end Go.Abs
namespace Go.Abs
open Go
def iD (e:Nat->AV):List (Nat×AV)->List AV
 | []=>[]
 | (t,_)::r=>e t::iD e r
def iI:List (Nat×AV)->List AV
 | []=>[]
 | (_,v)::r=>v::iI r
theorem ME.same {e:Nat->AV}:∀{L:List (Nat×AV)},iD e L=iI L->ME e L
 | [],_=>trivial
 | (t,v)::r,h=>by
  simp only[iD,iI,mL]at h;obtain⟨h1,h2⟩:=h;subst h1;exact⟨.rfl,ME.same h2⟩
section
variable {P : Program} {k : Nat} {R : List Row} {ds : List (Option Tmp)} {r : List Oper} {K : MS -> Prop} {n : Nat} {e : Nat -> AV} {x0 : Row} {z0 : List Row} {t : Tmp} {op : Op} {ty : TypeId} {ps : String} {ed : Array Edge} {gd : Option (Nat × Bool)}
theorem BM (v:AV)(hg:GO ds gd e)(hl:Jq op=false)(hq :∀x z,AQ P ⟨n,e,x::(R++z)⟩ op v)(hk:Kc P k R (ds++[some t]) r K ⟨n,ED e t v,x0,z0⟩):
  Kc P k R ds (⟨some t,op,ty,ps,ed,gd⟩::r) K ⟨n,e,x0,z0⟩:=
 FQ hg (λx z=>H6 hg hl (hq x z) (Aw (by simp[ED]))) hk
theorem Gd {f:FuncId}{ars:Array Operand}{ts:Array TypeId}{args args':List AV}{rows0 rows1:List Row}{v v':AV}{y0:Row}(sel:List Nat)(hg:GO ds gd e)(hb:Dl P f=true)(hc:Ab P f args' rows0 λr st=>r=v/\st=rows1)(ha:ars.toList.map (St.ev ⟨n,e,[]⟩)++[]=args)(hnd:sel.Nodup)(hlt:sel.all (·<R.length+1)=true)
  (hp:Cb (x0::R) sel=rows0) (hs:SR sel rows0 rows0) (hf:args.map (KB sel)=args') (hlen:rows1.length=sel.length) (h1 :∀N,UN sel N rows1 rows1) (hv :∀N,Se sel N v=v') (hst':Fz sel rows1 0 (x0::R)=y0::R)
  (hk:Kc P k R (ds++[some t]) r K ⟨n,ED e t v',y0,z0⟩):Kc P k R ds (⟨some t,.call ⟨.value (.func f),ars,ts⟩,ty,ps,ed,gd⟩::r) K ⟨n,e,x0,z0⟩:=
 dV sel hg hb hc ha hnd hlt hp hs hf hlen h1 hv hst' hk
end
section
variable {P : Program} {k : Nat} {s : St} {ops : Array Oper} {Q : Exit -> St -> Prop} {ds : List (Option Tmp)} {r : List Oper} {n : Nat} {e : Nat -> AV} {st st' : List Row} {ty : TypeId} {ps : String} {ed : Array Edge} {d : Option Tmp} {v v' : AV} {gd : Option (Nat × Bool)}
variable {f : FuncId} {ars : Array Operand} {ts : Array TypeId} {args args' : List AV} {rows0 rows1 : List Row}
theorem CM (sel:List Nat)(hg:GO ds gd e)(hb:Dl P f=true)(hc:Ab P f args' rows0 λr st=>r=v/\st=rows1)(ha:ars.toList.map (St.ev ⟨n,e,st⟩)++[]=args)(hnd:sel.Nodup)(hlt:sel.all (·<st.length)=true)
  (hp:Cb st sel=rows0) (hs:SR sel rows0 rows0) (hf:args.map (KB sel)=args') (hlen:rows1.length=sel.length) (h1:UN sel st.length rows1 rows1) (h2:UN sel st.length [] []) (hv:Se sel st.length v=v') (hst':Fz sel rows1 0 st=st')
  (hk:AO P k ops Q (ds++[d]) r (St.put ⟨n,e,st'⟩ d v')):AO P k ops Q ds (⟨d,.call ⟨.value (.func f),ars,ts⟩,ty,ps,ed,gd⟩::r) ⟨n,e,st⟩:=
 F8 (rows2:=[]) (rows2':=[]) sel hg hb (by simpa using hc) ha hnd hlt hp hs hf hlen h1 h2 hv (by simpa using hst') hk
end
def iQ:Nat->Nat->List Bool
 | 0,_=>[]
 | n+1,m=>(m % 2==1)::iQ n (m / 2)
def bm (n m:Nat):Array Bool:=⟨iQ n m⟩
end Go.Abs
