import Derived.Test.YtccficmcdkcpnaaGreatAbsW
import Derived.Lib.AppendZerosOnto
import Derived.OrdersHeld
set_option linter.all false
namespace Go.Abs
open Go
def PJ:AV->Bool
 | .int ..|.bool _|.str _|.zc|.O5|.Po|.dv ..=>true
 | _=>false
def S6 (xs:List (List AV)):Prop:=∀x∈xs,∀c∈x,PJ c=true
theorem YX {F S:Nat->Prop}{w:World}{os:List Own}{c:AV}{u:Value}(hc:PJ c=true)(hd :∀e s ys,c≠.dv e s ys)(h:AU F w os c u):DY S w c u:=by
 cases c<;>simp only[PJ,mW]at hc<;>simp only[AU]at h<;>simp only[DY]<;>first|exact h|exact absurd rfl (hd _ _ _)
theorem OT {F S:Nat->Prop}{w:World}{os:List Own}{c:AV}{u:Value}(h:DY S w c u):AU F w os c u/\c.kept=true/\PJ c=true:=by
 cases c<;>simp only[DY]at h
 case dv=>
  refine⟨?_,rfl,rfl⟩;simp only[AU];rcases h.2 with ⟨_,a,rfl⟩|⟨b,cap,cur,rfl,_⟩<;>exact⟨_,_,_,rfl⟩
 all_goals first|exact h.elim|exact⟨by simp only[AU];exact h,rfl,rfl⟩
theorem XF {w:World}{cur:Array Value}{D:Nat->Nat->Prop}(si :∀j j' b,D j b->D j' b->j=j'):∀(x:List AV) (o j0:Nat),(∀(j:Nat) c,x[j]?=some c->∃u,cur[o+j]?=some u/\DY (D (j0+j)) w c u)->
  Kb (λb=>∃j,j0<=j/\D j b) w x cur o
 | [],_,_,_=>by simp[Kb]
 | c::r,o,j0,h=>by
  simp only[Kb];obtain⟨u,h1,h2⟩:=h 0 c rfl;refine⟨D j0,λb=>∃j,j0+1<=j/\D j b,λb hb=>⟨j0,ml _,hb⟩,λb ⟨j,hj,hb⟩=>⟨j,by omega,hb⟩,λb hb ⟨j,hj,sH⟩=>by have:=si _ _ _ hb sH;omega,⟨u,h1,h2⟩,?_⟩;exact XF si r (o+1) (j0+1) λj c hc=>by
   obtain⟨u,h1,h2⟩:=h (j+1) c (by simpa using hc);exact⟨u,by rw[<- h1];congr 1;omega,by rw[show j0+1+j=j0+(j+1) by omega];exact h2⟩
theorem XQ {w:World}{cur:Array Value}{size:Nat}{D:Nat->Nat->Nat->Prop}(si :∀i j i' j' b,D i j b->D i' j' b->i=i'/\j=j'):∀(xs:List (List AV)) (o i0:Nat),(∀x∈xs,x.length=size)->
  (∀(i:Nat) x,xs[i]?=some x->∀(j:Nat) c,x[j]?=some c->∃u,cur[o+i*size+j]?=some u/\DY (D (i0+i) j) w c u)->Kh (λb=>∃i j,i0<=i/\D i j b) w xs cur o
 | [],_,_,_,_=>by simp[Kh]
 | x::r,o,i0,hs,h=>by
  simp only[Kh];refine⟨λb=>∃j,0<=j/\D i0 j b,λb=>∃i j,i0+1<=i/\D i j b,λb ⟨j,_,hb⟩=>⟨i0,j,ml _,hb⟩,λb ⟨i,j,hi,hb⟩=>⟨i,j,by omega,hb⟩,λb ⟨j,_,hb⟩ ⟨i,j',hi,sH⟩=>by have:=(si _ _ _ _ _ hb sH).1;omega,?_,?_⟩
  ·exact XF (D:=D i0) (λj j' b h1 h2=>(si _ _ _ _ _ h1 h2).2) x o 0 λj c hc=>by
    obtain⟨u,h1,h2⟩:=h 0 x rfl j c hc;exact⟨u,by rw[<- h1];congr 1;omega,by simpa using h2⟩
  ·rw[hs x (by simp)];exact XQ si r (o+size) (i0+1) (λx hx=>hs x (by simp[hx])) λi y hy j c hc=>by
    obtain⟨u,h1,h2⟩:=h (i+1) y (by simpa using hy) j c hc;exact⟨u,by rw[<- h1];congr 1;rw[nZ];omega,by rw[show i0+1+i=i0+(i+1) by omega];exact h2⟩
theorem VK {w:World}{cur:Array Value}:∀{x:List AV} {S:Nat->Prop} {o:Nat},Kb S w x cur o->∃D:Nat->Nat->Prop,(∀j b,D j b->S b)/\(∀j j' b,D j b->D j' b->j=j')/\
  ∀(j:Nat) c,x[j]?=some c->∃u,cur[o+j]?=some u/\DY (D j) w c u
 | [],_,_,_=>⟨λ_ _=>False,λ_ _ h=>h.elim,λ_ _ _ h=>h.elim,λj c h=>by simp at h⟩
 | c::r,S,o,h=>by
  simp only[Kb]at h;obtain⟨S1,S2,h1,h2,h3,⟨u,h4,h5⟩,h6⟩:=h;obtain⟨D,d1,d2,d3⟩:=VK h6;refine⟨λj=>match j with|0=>S1|j+1=>D j,λj b hb=>?_,λj j' b hb sH=>?_,λj c' hc=>?_⟩
  ·cases j with
   | zero=>exact h1 b hb
   | succ j=>exact h2 b (d1 j b hb)
  ·cases j with
   | zero=>
    cases j' with
    | zero=>rfl
    | succ j'=>exact absurd (d1 j' b sH) (h3 b hb)
   | succ j=>
    cases j' with
    | zero=>exact absurd (d1 j b hb) (h3 b sH)
    | succ j'=>rw[d2 j j' b hb sH]
  ·cases j with
   | zero=>simp only[mw,mU]at hc;subst hc;exact⟨u,h4,h5⟩
   | succ j=>
    obtain⟨u',g1,g2⟩:=d3 j c' (by simpa using hc);exact⟨u',by rw[<- g1];congr 1;omega,g2⟩
theorem Uz {w:World}{cur:Array Value}{size:Nat}:∀{xs:List (List AV)} {S:Nat->Prop} {o:Nat},(∀x∈xs,x.length=size)->Kh S w xs cur o->∃D:Nat->Nat->Nat->Prop,(∀i j b,D i j b->S b)/\
  (∀i j i' j' b,D i j b->D i' j' b->i=i'/\j=j')/\∀(i:Nat) x,xs[i]?=some x->∀(j:Nat) c,x[j]?=some c->∃u,cur[o+i*size+j]?=some u/\DY (D i j) w c u
 | [],_,_,_,_=>⟨λ_ _ _=>False,λ_ _ _ h=>h.elim,λ_ _ _ _ _ h=>h.elim,λi x h=>by simp at h⟩
 | x::r,S,o,hs,h=>by
  simp only[Kh]at h;obtain⟨S1,S2,h1,h2,h3,h4,h5⟩:=h;obtain⟨E,e1,e2,e3⟩:=VK h4;obtain⟨D,d1,d2,d3⟩:=Uz (λx hx=>hs x (by simp[hx])) h5;refine⟨λi=>match i with|0=>E|i+1=>D i,λi j b hb=>?_,λi j i' j' b hb sH=>?_,λi y hy j c hc=>?_⟩
  ·cases i with
   | zero=>exact h1 b (e1 j b hb)
   | succ i=>exact h2 b (d1 i j b hb)
  ·cases i with
   | zero=>
    cases i' with
    | zero=>exact⟨rfl,e2 j j' b hb sH⟩
    | succ i'=>exact absurd (d1 i' j' b sH) (h3 b (e1 j b hb))
   | succ i=>
    cases i' with
    | zero=>exact absurd (d1 i j b hb) (h3 b (e1 j' b sH))
    | succ i'=>
     obtain⟨q1,q2⟩:=d2 i j i' j' b hb sH;exact⟨by rw[q1],q2⟩
  ·cases i with
   | zero=>
    simp only[mw,mU]at hy;subst hy;obtain⟨u,g1,g2⟩:=e3 j c hc;exact⟨u,by rw[<- g1];congr 1;omega,g2⟩
   | succ i=>
    obtain⟨u,g1,g2⟩:=d3 i y (by simpa using hy) j c hc;rw[hs x (by simp)]at g1;exact⟨u,by rw[<- g1];congr 1;rw[nZ];omega,g2⟩
variable {P : Program} {F : Nat -> Prop} {os : List Own} {s : St} {a : Act} {w : World} {k : Nat}
theorem Tp {p:Own}(h:L8 F w os p)(hd:S6 p.row.xs){v:Value}(hv:(p.E1=none/\∃a,v=.slice a p.row.xs.length 0)∨∃b,p.E1=some b/\v=.slice (some ⟨b,0,none⟩) p.row.xs.length p.cap):
  DY p.owns w (.dv p.row.elem p.row.size p.row.xs) v:=by
 simp only[DY];refine⟨h.pos,?_⟩;rcases hv with ⟨hb,a,rfl⟩|⟨b,hb,rfl⟩
 ·have:=(h.none hb).1;exact .inl ⟨this,a,by rw[this];rfl⟩
 ·obtain⟨_,cur,re,ru,hle,tR,rf⟩:=h.some b hb;obtain⟨D,d1,d2,d3⟩:=h.deep;refine .inr ⟨b,p.cap,cur,rfl,hle,tR,.inl hb,re,ru,λx hx=>(h.lens x hx).1,?_⟩;have:=XQ (w:=w) (cur:=cur) (size:=p.row.size) d2 p.row.xs 0 0 (λx hx=>(h.lens x hx).1) (λi x hx j c hc=>by
   simp only[ns];by_cases hdv :∃e s ys,c=.dv e s ys
   ·obtain⟨e,s,ys,rfl⟩:=hdv;exact d3 b hb cur _ _ re i x j e s ys hx hc
   ·obtain⟨u,g1,g2⟩:=rf i x hx j c hc;exact⟨u,g1,YX (hd x (mS hx) c (mS hc)) (λe s ys e'=>hdv ⟨e,s,ys,e'⟩) g2⟩)
  exact O4 (λc ⟨i,j,_,hc⟩=>⟨.inr (d1 i j c hc),λe=>(h.mo c (d1 i j c hc)).2.2 (by rw[hb,e])⟩) (λ_ _=>rfl) _ _ _ this
theorem ON {id m g gm size sz n i j nn:Nat}{el vM:TypeId}{xs ys:List (List AV)}{x:List AV}{e:Nat->AV}{st st':List Row}(rK:st[id]?=some ⟨g,el,size,xs⟩)(hx:xs[i]?=some x)(hc:x[j]?=some (.own m gm n))
  (hm:st[m]?=some ⟨gm,vM,sz,ys⟩) (hn:n=ys.length) (sB:id≠m) (vy:k<=m) (hd:S6 ys) (ra:(st.set id ⟨g,el,size,xs.set i (x.set j (.dv vM sz ys))⟩).set m ⟨gm+1,vM,sz,[]⟩=st') :
  Wk k ⟨nn,e,st⟩ ⟨nn,e,st'⟩:=λF os a w hr=>by
 subst ra;subst hn;obtain⟨o,ho,hor⟩:=hr.row rK;obtain⟨p,hp,xR⟩:=hr.row hm;have rR:=hr.rows id o ho;have hpk:=hr.rows m p hp;have ra:os.map Own.row=st:=hr.st;have tw:o.row.xs=xs:=by rw[hor]
 have hpx:p.row.xs=ys:=by rw[xR]
 let o':Own:={ o with row:={ o.row with xs:=xs.set i (x.set j (.dv vM sz ys)) },more:=λb=>o.more b∨p.owns b }
 let p':Own:=⟨{ p.row with gen:=p.row.gen+1,xs:=[] },none,0,FI⟩
 have tj:i<xs.length:=(mT.1 hx).1;have uf:j<x.length:=(mT.1 hc).1;have wx:=(mT.1 ho).1;have zM:=(mT.1 hp).1;have si:∀b,o.owns b->¬ p.owns b:=λb h1 h2=>sB (hr.inj id m o p b ho hp h1 h2);have rb:∀(q:Nat) (oq:Own),((os.set id o').set m p')[q]?=some oq->(q≠id/\q≠m/\os[q]?=some oq)∨(q=id/\oq=o')∨(q=m/\oq=p'):=λq oq hq=>by
  by_cases e:q=m
  ·subst e;rw[mc (by simpa using zM),mU]at hq;exact .inr (.inr ⟨rfl,hq.symm⟩)
  ·rw[mq (oT e)]at hq;by_cases e2:q=id
   ·subst e2;rw[mc wx,mU]at hq;exact .inr (.inl ⟨rfl,hq.symm⟩)
   ·rw[mq (oT e2)]at hq;exact .inl ⟨e2,e,hq⟩
 have sP:DX os ((os.set id o').set m p'):=λq oq hq=>by
  by_cases e:q=m
  ·subst e;rw[hp]at hq;cases hq;exact⟨p',mc (by simpa using zM),Nat.le_succ _,rfl,λe=>by simp[p']at e⟩
  ·rw[mq (oT e)];by_cases e2:q=id
   ·subst e2;rw[ho]at hq;cases hq;exact⟨o',mc wx,ml _,rfl,λ_=>⟨rfl,rfl,by simp[o',tw]⟩⟩
   ·rw[mq (oT e2)];exact⟨oq,hq,ml _,rfl,λ_=>⟨rfl,rfl,rfl⟩⟩
 have rZ:∀y v,AU F w os y v->AU F w ((os.set id o').set m p') y v:=λy v h=>Cy (λ_ h=>h) (λ_ _=>rfl) os _ sP y v h;have wy:∀b,o'.owns b->o.owns b∨p.owns b:=λb hb=>by
  rcases hb with hb|hb|hb
  ·exact .inl (.inl hb)
  ·exact .inl (.inr hb)
  ·exact .inr hb
 have hpn:∀b,¬ p'.owns b:=λb hb=>by
  rcases hb with hb|hb
  ·simp[p']at hb
  ·exact hb
 obtain⟨bo,vv⟩ :∃b,o.E1=some b:=by
  cases hb:o.E1 with
  | none=>have:=(rR.none hb).1;rw[tw]at this;rw[this]at tj;simp at tj
  | some b=>exact⟨b,rfl⟩
 obtain⟨yi,cur,re,ru,hle,tR,rf⟩:=rR.some bo vv;obtain⟨uv,hu1,uJ⟩:=rf i x (by rw[tw];exact hx) j _ hc;have huv:(p.E1=none/\∃a,uv=.slice a p.row.xs.length 0)∨∃b,p.E1=some b/\uv=.slice (some ⟨b,0,none⟩) p.row.xs.length p.cap:=by
  simp only[AU]at uJ;obtain⟨q,hq,_,_,hv⟩:=uJ;rw[hp]at hq;cases hq;have:=(hv (by rw[xR])).2;rw[hpx]at this⊢;simpa only[oo,pY,pq] using this
 have hRD:DY p.owns w (.dv vM sz ys) uv:=by
  have:=Tp hpk (by rw[hpx];exact hd) huv;rw[xR]at this;exact this
 refine⟨F,(os.set id o').set m p',⟨?_,λt=>rZ _ _ (hr.env t),hr.size,λq oq hq=>?_,λq q' oq wK b hq uU hb sH=>?_,hr.FU,hr.defers⟩,⟨rfl,rfl,rfl,ml _,λ_ h=>h,λ_ _=>rfl,λb _ h1 h2=>⟨rfl,h1,λoq hoq hb=>?_⟩,λq oq _ hq=>sP q oq hq⟩⟩
 ·rw[oR,oR,ra];simp only[o',p',hor,xR]
 ·rcases rb q oq hq with ⟨_,_,h⟩|⟨_,rfl⟩|⟨_,rfl⟩
  ·have h0:=hr.rows q oq h;refine⟨h0.pos,h0.lens,h0.none,λb hb=>?_,h0.mo,h0.deep⟩;obtain⟨e1,cur,e2,e3,e4,e5,e6⟩:=h0.some b hb;exact⟨e1,cur,e2,e3,e4,e5,λi' y hy j' c hc=>by obtain⟨u,f1,f2⟩:=e6 i' y hy j' c hc;exact⟨u,f1,rZ _ _ f2⟩⟩
  ·refine⟨rR.pos,λy hy=>?_,(λhn=>by simp only[o']at hn;rw[vv]at hn;cases hn),λb hb=>?_,λb hb=>?_,?_⟩
   ·rcases nd hy with hy|rfl
    ·exact rR.lens y (by rw[tw];exact hy)
    ·have h0:=rR.lens x (by rw[tw];exact mS hx);refine⟨by rw[pd];exact h0.1,λc vJ=>?_⟩;rcases nd vJ with h|rfl
     ·exact h0.2 c h
     ·rfl
   ·simp only[o']at hb;rw[vv]at hb;cases hb;refine⟨yi,cur,re,ru,by simpa [o',tw] using hle,tR,λi' y hy j' c tT=>?_⟩;simp only[o']at hy⊢;by_cases hi:i'=i
    ·subst hi;rw[mc tj,mU]at hy;subst hy;by_cases hj:j'=j
     ·subst hj;rw[mc uf,mU]at tT;subst tT;exact⟨uv,hu1,(OT hRD).1⟩
     ·rw[mq (oT hj)]at tT;obtain⟨u,f1,f2⟩:=rf i' x (by rw[tw];exact hx) j' c tT;exact⟨u,f1,rZ _ _ f2⟩
    ·rw[mq (oT hi)]at hy;obtain⟨u,f1,f2⟩:=rf i' y (by rw[tw];exact hy) j' c tT;exact⟨u,f1,rZ _ _ f2⟩
   ·rcases hb with hb|hb
    ·exact rR.mo b hb
    ·exact⟨hpk.nF hb,hpk.lt hb,λe=>si b (.inl e) hb⟩
   ·obtain⟨D,d1,d2,d3⟩:=rR.deep;refine⟨λi' j' b=>if i'=i/\j'=j then p.owns b else D i' j' b,λi' j' b hb=>?_,λi1 j1 i2 j2 b h1 h2=>?_,λb hb sh el2 l sD i' y j' e2 s2 zs hy tT=>?_⟩
    ·simp only at hb;split at hb
     ·exact .inr hb
     ·exact .inl (d1 i' j' b hb)
    ·simp only at h1 h2;split at h1<;>split at h2
     ·rename_i q1 q2;exact⟨q1.1.trans q2.1.symm,q1.2.trans q2.2.symm⟩
     ·exact absurd h1 (si b (.inr (d1 _ _ _ h2)))
     ·exact absurd h2 (si b (.inr (d1 _ _ _ h1)))
     ·exact d2 _ _ _ _ _ h1 h2
    ·simp only[o']at hb hy⊢;rw[vv]at hb;cases hb;rw[re]at sD;cases sD;by_cases xf:i'=i/\j'=j
     ·obtain⟨rfl,rfl⟩:=xf;rw[mc tj,mU]at hy;subst hy;rw[mc uf,mU]at tT;cases tT;exact⟨uv,hu1,by simpa using hRD⟩
     ·have hold:∃y0,o.row.xs[i']?=some y0/\y0[j']?=some (.dv e2 s2 zs):=by
       rw[tw];by_cases hi:i'=i
       ·subst hi;rw[mc tj,mU]at hy;subst hy;have hj:j'≠j:=λe=>xf ⟨rfl,e⟩;rw[mq (oT hj)]at tT;exact⟨x,hx,tT⟩
       ·rw[mq (oT hi)]at hy;exact⟨y,hy,tT⟩
      obtain⟨y0,yC,uF⟩:=hold;obtain⟨u,f1,f2⟩:=d3 bo vv cur _ _ re i' y0 j' e2 s2 zs yC uF;exact⟨u,f1,by simpa only[xf,my] using f2⟩
  ·exact⟨hpk.pos,by simp[p'],by simp[p'],by simp[p'],λb hb=>hb.elim,Fq (by simp[p'])⟩
 ·rcases rb q oq hq with ⟨q1,q2,h⟩|⟨rfl,rfl⟩|⟨_,rfl⟩<;>rcases rb q' wK uU with ⟨q1',q2',h'⟩|⟨rfl,rfl⟩|⟨_,rfl⟩
  ·exact hr.inj q q' oq wK b h h' hb sH
  ·rcases wy b sH with e|e
   ·exact hr.inj q _ oq o b h ho hb e
   ·exact absurd (hr.inj q m oq p b h hp hb e) q2
  ·exact absurd sH (hpn b)
  ·rcases wy b hb with e|e
   ·exact hr.inj _ q' o wK b ho h' e sH
   ·exact absurd (hr.inj m q' p wK b hp h' e sH).symm q2'
  ·rfl
  ·exact absurd sH (hpn b)
  ·exact absurd hb (hpn b)
  ·exact absurd hb (hpn b)
  ·exact absurd hb (hpn b)
 ·obtain⟨q,hq⟩:=nC.1 hoq;rcases rb q oq hq with ⟨_,_,h⟩|⟨_,rfl⟩|⟨_,rfl⟩
  ·exact h2 oq (mS h) hb
  ·rcases wy b hb with e|e
   ·exact h2 o (mS ho) e
   ·exact h2 p (mS hp) e
  ·exact hpn b hb
end Go.Abs
namespace Go.Abs
open Go
variable {P : Program} {F : Nat -> Prop} {os : List Own} {s : St} {a : Act} {w : World} {k : Nat}
theorem X8 {S:Nat->Prop}{el sz:Nat}{ys:List (List AV)}{u:Value}(hS :∀b,S b->¬ F b/\b<w.heap.size)(h:DY S w (.dv el sz ys) u):
  ∃p:Own,p.row=⟨0,el,sz,ys⟩/\(∀b,p.owns b->S b)/\(∀os,L8 F w os p)/\((p.E1=none/\∃a,u=.slice a ys.length 0)∨∃b,p.E1=some b/\u=.slice (some ⟨b,0,none⟩) ys.length p.cap):=by
 simp only[DY]at h;obtain⟨hp,h⟩:=h;rcases h with ⟨rfl,a,rfl⟩|⟨b,cap,cur,rfl,h2,h3,h4,h5,h6,h7,h8⟩
 ·refine⟨⟨⟨0,el,sz,[]⟩,none,0,FI⟩,rfl,λb hb=>?_,λos=>⟨hp,by simp,by simp,by simp,λb hb=>hb.elim,Fq (by simp)⟩,.inl ⟨rfl,a,rfl⟩⟩;rcases hb with hb|hb
  ·cases hb
  ·exact hb.elim
 ·obtain⟨D,d1,d2,d3⟩:=Uz h7 h8;refine⟨⟨⟨0,el,sz,ys⟩,some b,cap,λc=>S c/\c≠b⟩,rfl,λc hc=>?_,λos=>⟨hp,λx hx=>⟨h7 x hx,λc hc=>?_⟩,by simp,λb' sH=>?_,λc hc=>⟨(hS c hc.1).1,(hS c hc.1).2,λe=>hc.2 (by simpa using e.symm)⟩,⟨D,d1,d2,λb' sH sh el2 l sD i x j e s zs hx hc=>?_⟩⟩,.inr ⟨b,rfl,rfl⟩⟩
  ·rcases hc with hc|hc
   ·cases hc;exact h4
   ·exact hc.1
  ·obtain⟨i,hi⟩:=nC.1 hx;obtain⟨j,hj⟩:=nC.1 hc;obtain⟨u,_,g2⟩:=d3 i x hi j c hj;exact (OT (F:=F) (os:=os) g2).2.1
  ·simp only[mU]at sH;subst sH;refine⟨(hS _ h4).1,cur,h5,h6,h2,h3,λi x hx j c hc=>?_⟩;obtain⟨u,g1,g2⟩:=d3 i x hx j c hc;exact⟨u,by simpa using g1,(OT g2).1⟩
  ·simp only[mU]at sH;subst sH;rw[h5]at sD;cases sD;obtain⟨u,g1,g2⟩:=d3 i x hx j _ hc;exact⟨u,by simpa using g1,g2⟩
theorem Wk.iI {id m g size sz n i j nn:Nat}{el vM:TypeId}{xs ys:List (List AV)}{x:List AV}{e:Nat->AV}{st st':List Row}(rK:st[id]?=some ⟨g,el,size,xs⟩)(hx:xs[i]?=some x)(hc:x[j]?=some (.dv vM sz ys))
  (hm:st.length=m) (hn:n=ys.length) (ra:st.set id ⟨g,el,size,xs.set i (x.set j (.own m 0 n))⟩++[⟨0,vM,sz,ys⟩]=st'):Wk k ⟨nn,e,st⟩ ⟨nn,e,st'⟩:=λF os a w hr=>by
 subst ra;subst hn;subst hm;obtain⟨o,ho,hor⟩:=hr.row rK;have rR:=hr.rows id o ho;have ra:os.map Own.row=st:=hr.st;have hol:os.length=st.length:=by rw[<- ra];simp
 have tw:o.row.xs=xs:=by rw[hor]
 have tj:i<xs.length:=(mT.1 hx).1;have uf:j<x.length:=(mT.1 hc).1;have wx:=(mT.1 ho).1;obtain⟨bo,vv⟩ :∃b,o.E1=some b:=by
  cases hb:o.E1 with
  | none=>have:=(rR.none hb).1;rw[tw]at this;rw[this]at tj;simp at tj
  | some b=>exact⟨b,rfl⟩
 obtain⟨yi,cur,re,ru,hle,tR,rf⟩:=rR.some bo vv;obtain⟨D,d1,d2,d3⟩:=rR.deep;obtain⟨uv,hu1,uJ⟩:=d3 bo vv cur _ _ re i x j vM sz ys (by rw[tw];exact hx) hc;obtain⟨p,xR,hpo,hpk,yN⟩:=X8 (F:=F) (λb hb=>⟨(rR.mo b (d1 _ _ _ hb)).1,(rR.mo b (d1 _ _ _ hb)).2.1⟩) uJ
 let o':Own:={ o with row:={ o.row with xs:=xs.set i (x.set j (.own st.length 0 ys.length)) },more:=λb=>o.more b/\¬ D i j b }
 have rb:∀(q:Nat) (oq:Own),(os.set id o'++[p])[q]?=some oq->(q≠id/\q<os.length/\os[q]?=some oq)∨(q=id/\oq=o')∨(q=os.length/\oq=p):=λq oq hq=>by
  rcases oI q os.length with h|h|h
  ·rw[mg (by simpa using h)]at hq;by_cases e2:q=id
   ·subst e2;rw[mc wx,mU]at hq;exact .inr (.inl ⟨rfl,hq.symm⟩)
   ·rw[mq (oT e2)]at hq;exact .inl ⟨e2,h,hq⟩
  ·subst h;rw[mn (by simp)]at hq;simp at hq;exact .inr (.inr ⟨rfl,hq.symm⟩)
  ·rw[nG (by simp;omega)]at hq;cases hq
 have hpget:(os.set id o'++[p])[st.length]?=some p:=by
  rw[mn (by simp;omega)];simp[hol]
 have sP:DX os (os.set id o'++[p]):=λq oq hq=>by
  have hql:=(mT.1 hq).1;rw[mg (by simpa using hql)];by_cases e2:q=id
  ·subst e2;rw[ho]at hq;cases hq;exact⟨o',mc wx,ml _,rfl,λ_=>⟨rfl,rfl,by simp[o',tw]⟩⟩
  ·rw[mq (oT e2)];exact⟨oq,hq,ml _,rfl,λ_=>⟨rfl,rfl,rfl⟩⟩
 have rZ:∀y v,AU F w os y v->AU F w (os.set id o'++[p]) y v:=λy v h=>Cy (λ_ h=>h) (λ_ _=>rfl) os _ sP y v h;have zN :∀b,o'.owns b->o.owns b:=λb hb=>by
  rcases hb with hb|hb
  ·exact .inl hb
  ·exact .inr hb.1
 have zO:∀b,p.owns b->o.owns b:=λb hb=>.inr (d1 _ _ _ (hpo b hb));have si:∀b,o'.owns b->¬ p.owns b:=λb h1 h2=>by
  have h3:=hpo b h2;rcases h1 with h1|h1
  ·exact (rR.mo b (d1 _ _ _ h3)).2.2 h1
  ·exact h1.2 h3
 have ym:AU F w (os.set id o'++[p]) (.own st.length 0 ys.length) uv:=by
  simp only[AU];refine⟨p,hpget,mi _,?_,λ_=>⟨by rw[xR];exact ml _,by rw[xR];simpa only[oo,pY,pq] using yN⟩⟩;rcases yN with ⟨_,a,rfl⟩|⟨b,_,rfl⟩<;>exact⟨_,_,_,rfl⟩
 refine⟨F,os.set id o'++[p],⟨?_,λt=>rZ _ _ (hr.env t),hr.size,λq oq hq=>?_,λq q' oq wK b hq uU hb sH=>?_,hr.FU,hr.defers⟩,⟨rfl,rfl,rfl,ml _,λ_ h=>h,λ_ _=>rfl,λb _ h1 h2=>⟨rfl,h1,λoq hoq hb=>?_⟩,λq oq _ hq=>sP q oq hq⟩⟩
 ·rw[oF,oR,ra];simp only[o',hor,mz,od,xR]
 ·rcases rb q oq hq with ⟨_,_,h⟩|⟨_,rfl⟩|⟨_,rfl⟩
  ·have h0:=hr.rows q oq h;refine⟨h0.pos,h0.lens,h0.none,λb hb=>?_,h0.mo,h0.deep⟩;obtain⟨e1,cur,e2,e3,e4,e5,e6⟩:=h0.some b hb;exact⟨e1,cur,e2,e3,e4,e5,λi' y hy j' c hc=>by obtain⟨u,f1,f2⟩:=e6 i' y hy j' c hc;exact⟨u,f1,rZ _ _ f2⟩⟩
  ·refine⟨rR.pos,λy hy=>?_,(λhn=>by simp only[o']at hn;rw[vv]at hn;cases hn),λb hb=>?_,λb hb=>rR.mo b hb.1,?_⟩
   ·rcases nd hy with hy|rfl
    ·exact rR.lens y (by rw[tw];exact hy)
    ·have h0:=rR.lens x (by rw[tw];exact mS hx);refine⟨by rw[pd];exact h0.1,λc vJ=>?_⟩;rcases nd vJ with h|rfl
     ·exact h0.2 c h
     ·rfl
   ·simp only[o']at hb;rw[vv]at hb;cases hb;refine⟨yi,cur,re,ru,by simpa [o',tw] using hle,tR,λi' y hy j' c tT=>?_⟩;simp only[o']at hy⊢;by_cases hi:i'=i
    ·subst hi;rw[mc tj,mU]at hy;subst hy;by_cases hj:j'=j
     ·subst hj;rw[mc uf,mU]at tT;subst tT;exact⟨uv,hu1,ym⟩
     ·rw[mq (oT hj)]at tT;obtain⟨u,f1,f2⟩:=rf i' x (by rw[tw];exact hx) j' c tT;exact⟨u,f1,rZ _ _ f2⟩
    ·rw[mq (oT hi)]at hy;obtain⟨u,f1,f2⟩:=rf i' y (by rw[tw];exact hy) j' c tT;exact⟨u,f1,rZ _ _ f2⟩
   ·refine⟨λi' j' b=>if i'=i/\j'=j then False else D i' j' b,λi' j' b hb=>?_,λi1 j1 i2 j2 b h1 h2=>?_,λb hb sh el2 l sD i' y j' e2 s2 zs hy tT=>?_⟩
    ·simp only at hb;split at hb
     ·exact hb.elim
     ·rename_i xf;exact⟨d1 i' j' b hb,λh=>xf (d2 _ _ _ _ _ hb h)⟩
    ·simp only at h1 h2;split at h1<;>split at h2<;>first|exact h1.elim|exact h2.elim|exact d2 _ _ _ _ _ h1 h2
    ·simp only[o']at hb hy⊢;rw[vv]at hb;cases hb;rw[re]at sD;cases sD;have hold:(¬ (i'=i/\j'=j))/\∃y0,o.row.xs[i']?=some y0/\y0[j']?=some (.dv e2 s2 zs):=by
      rw[tw];by_cases hi:i'=i
      ·subst hi;rw[mc tj,mU]at hy;subst hy;by_cases hj:j'=j
       ·subst hj;rw[mc uf,mU]at tT;cases tT
       ·rw[mq (oT hj)]at tT;exact⟨λh=>hj h.2,x,hx,tT⟩
      ·rw[mq (oT hi)]at hy;exact⟨λh=>hi h.1,y,hy,tT⟩
     obtain⟨xf,y0,yC,uF⟩:=hold;obtain⟨u,f1,f2⟩:=d3 bo vv cur _ _ re i' y0 j' e2 s2 zs yC uF;exact⟨u,f1,by simpa only[xf,my] using f2⟩
  ·exact hpk _
 ·rcases rb q oq hq with ⟨q1,q2,h⟩|⟨rfl,rfl⟩|⟨rfl,rfl⟩<;>rcases rb q' wK uU with ⟨q1',q2',h'⟩|⟨rfl,rfl⟩|⟨rfl,rfl⟩
  ·exact hr.inj q q' oq wK b h h' hb sH
  ·exact hr.inj q _ oq o b h ho hb (zN b sH)
  ·exact absurd (hr.inj q id oq o b h ho hb (zO b sH)) q1
  ·exact hr.inj _ q' o wK b ho h' (zN b hb) sH
  ·rfl
  ·exact absurd sH (si b hb)
  ·exact absurd (hr.inj id q' o wK b ho h' (zO b hb) sH).symm q1'
  ·exact absurd hb (si b sH)
  ·rfl
 ·obtain⟨q,hq⟩:=nC.1 hoq;rcases rb q oq hq with ⟨_,_,h⟩|⟨_,rfl⟩|⟨_,rfl⟩
  ·exact h2 oq (mS h) hb
  ·exact h2 o (mS ho) (zN b hb)
  ·exact h2 o (mS ho) (zO b hb)
variable {α β : Type} {l : List α} {enc : α -> List AV}
def hole (l:List α)(enc:α->List AV)(i:Int)(x:List AV):List (List AV):=(l.map enc).set i.toNat x
theorem VL {i:Int}{u:α}{x:List AV}(h:x=enc u):hole l enc i x=(Sh.put l i u).map enc:=by subst h;exact Zs
theorem FV {i:Int}{u:α}{x:List AV}(h:Sh.get l i=some u):(hole l enc i x)[i.toNat]?=some x:=by
 have:=(Sh.get_some h).2.2;have h0:=(Sh.get_some h).1;exact mc (by simp;omega)
theorem QL {i:Int}{x y:List AV}:(hole l enc i x).set i.toNat y=hole l enc i y:=by unfold hole;rw[qa]
theorem Fi {id m g size sz nn j:Nat}{el vM:TypeId}{i:Int}{c:α}{ys:List β}{encY:β->List AV}{x x':List AV}{e:Nat->AV}{st st':List Row}(rK:st[id]?=some ⟨g,el,size,l.map enc⟩)(hi:Sh.get l i=some c)(hx:enc c=x)(hc:x[j]?=some (.dv vM sz (ys.map encY)))
  (hm:st.length=m) (uG:x.set j (.own m 0 ys.length)=x') (ra:st.set id ⟨g,el,size,hole l enc i x'⟩++[⟨0,vM,sz,ys.map encY⟩]=st'):Wk k ⟨nn,e,st⟩ ⟨nn,e,st'⟩:=by
 subst ra;subst uG;subst hx;exact Wk.iI rK (GC hi) hc hm (n:=ys.length) (by simp) rfl
theorem Wk.take {id m g gm size sz nn j n:Nat}{el vM:TypeId}{i:Int}{c:α}{ys:List β}{encY:β->List AV}{x x':List AV}{e:Nat->AV}{st st':List Row}(rK:st[id]?=some ⟨g,el,size,hole l enc i x⟩)(hi:Sh.get l i=some c)(hc:x[j]?=some (.own m gm n))
  (hm:st[m]?=some ⟨gm,vM,sz,ys.map encY⟩) (hn:n=ys.length) (sB:id≠m) (vy:k<=m) (hd :∀y,(encY y).all PJ=true) (uG:x.set j (.dv vM sz (ys.map encY))=x') (ra:(st.set id ⟨g,el,size,hole l enc i x'⟩).set m ⟨gm+1,vM,sz,[]⟩=st') :
  Wk k ⟨nn,e,st⟩ ⟨nn,e,st'⟩:=by
 subst ra;subst uG;refine ON rK (FV hi) hc hm (by simpa using hn) sB vy (λy hy c hc=>?_) (by rw[QL]);obtain⟨z,_,rfl⟩:=mu.1 hy;exact ma.1 (hd z) c hc
theorem Cu {id g size nn:Nat}{el:TypeId}{i:Int}{u:α}{x:List AV}{e:Nat->AV}{st st':List Row}(rK:st[id]?=some ⟨g,el,size,hole l enc i x⟩)(hx:x=enc u)(ra:st.set id ⟨g,el,size,(Sh.put l i u).map enc⟩=st'):Wk k ⟨nn,e,st⟩ ⟨nn,e,st'⟩:=by
 rw[VL hx]at rK;have:st.set id ⟨g,el,size,(Sh.put l i u).map enc⟩=st:=by
  obtain⟨h1,h2⟩:=mT.1 rK;rw[<- h2];exact pH h1
 rw[this]at ra;exact CB ra
section
variable {ops : Array Oper} {Q : Exit -> St -> Prop} {ds : List (Option Tmp)} {r : List Oper} {n : Nat} {e : Nat -> AV} {st st' : List Row} {ty : TypeId} {ps : String} {ed : Array Edge} {t : Tmp} {v : AV} {gd : Option (Nat × Bool)} {T : TypeId} {x y : Operand} {ag : Bool} {sz id g size : Nat} {el : TypeId} {cs : List AV} {c : α} {i : Int}
theorem OF (hg:GO ds gd e)(ht:CF P T=some (ag,sz))(hx:St.ev ⟨n,e,st⟩ x=.ptr id g i.toNat 0)(hr:st[id]?=some ⟨g,el,size,l.map enc⟩)(hi:Sh.get l i=some c)(hv:St.ev ⟨n,e,st⟩ y=v)(hc:Jq v=some cs)(hn:cs.length=sz)(hle:cs.length<=size)
  (hlen:(enc c).length=cs.length) (ra:st.set id ⟨g,el,size,hole l enc i cs⟩=st') (hk:AO P k ops Q (ds++[none]) r ⟨n,e,st'⟩):AO P k ops Q ds (⟨none,.store T x y,ty,ps,ed,gd⟩::r) ⟨n,e,st⟩:=by
 refine Al hg ht hx hr (GC hi) hv hc hn (by omega) ?_ hk;rw[<- ra];have:Gf (enc c) 0 cs=cs:=by
  unfold Gf;rw[oO,ny,ns,pB (by omega),oE]
 rw[this];rfl
end
end Go.Abs
namespace Go.Abs
open Go
variable {P : Program} {F : Nat -> Prop} {os : List Own} {s : St} {a : Act} {w : World} {k : Nat}
theorem Rel.fm (hr:Rel F os s a w){cur:Array Value}{e:TypeId}{size cap:Nat}{xs:List (List AV)}(sQ:0<size)(tp :∀x∈xs,x.length=size/\∀c∈x,c.kept=true)
  (ru:cur.size=cap*size) (hle:xs.length<=cap) (tR:cap<=maxLen)
  (rf :∀(i:Nat) x,xs[i]?=some x->∀(j:Nat) c,x[j]?=some c->∃u,cur[i*size+j]?=some u/\AU F w os c u/\∀e s ys,c=.dv e s ys->DY FI w c u) :
  let o:Own:=⟨⟨0,e,size,xs⟩,some w.heap.size,cap,FI⟩
  Rel F (os++[o]) { s with st:=s.st++[o.row] } a (w.alloc (.cells cur e))/\Ext F os w F (os++[o]) (w.alloc (.cells cur e)) k:=by
 intro o;have ht:GG w (w.alloc (.cells cur e)) none:=GG.alloc _ _ _;have rh:∀(i:Nat) (oi:Own) g,os[i]?=some oi->oi.owns g->g<w.heap.size:=λi oi g hi hg=>(hr.rows i oi hi).lt hg;have rb:∀(i:Nat) (oi:Own),(os++[o])[i]?=some oi->os[i]?=some oi∨(i=os.length/\oi=o):=λi oi hi=>by
  rcases oI i os.length with h|h|h
  ·rw[mg h]at hi;exact .inl hi
  ·subst h;simp at hi;exact .inr ⟨rfl,hi.symm⟩
  ·rw[mn (by omega),nG (by simp;omega)]at hi;cases hi
 have hold:∀x v,AU F w os x v->AU F (w.alloc (.cells cur e)) (os++[o]) x v:=λx v h=>
  Cy (λ_ h=>h) (λg hg=>ht.FU g (hr.FU g hg) (by simp)) os _ (DX.append os [o]) x v h
 have zP:∀g,o.owns g->g=w.heap.size:=λg hg=>by
  simp only[Own.owns,o,FI,qY,mU]at hg;exact hg.symm
 have:=hr.V9 (k:=k) ht (by simp) (os':=os++[o]) (DX.append os [o]) (λi oi hi=>by
   rcases rb i oi hi with h|⟨_,rfl⟩
   ·exact .inl ⟨h,by simp⟩
   ·refine .inr ⟨sQ,tp,by simp[o],λg hg=>?_,λg hg=>hg.elim,⟨λ_ _ _=>False,λ_ _ _ h=>h.elim,λ_ _ _ _ _ h=>h.elim,λb hb sh el l sD i x j e' s' ys hx hc=>?_⟩⟩
    ·simp only[o,mU]at hg;subst hg;refine⟨λhF=>absurd (hr.FU _ hF) (qU _),cur,pG w _,ru,hle,tR,λi' x hx j c hc=>?_⟩;obtain⟨u,h1,h2,_⟩:=rf i' x hx j c hc;exact⟨u,h1,hold _ _ h2⟩
    ·simp only[o,mU]at hb;subst hb;rw[pG w _]at sD;cases sD;obtain⟨u,h1,_,h3⟩:=rf i x hx j _ hc;exact⟨u,h1,KU (λ_ h=>h.elim) (λ_ h=>h.elim) _ u (h3 _ _ _ rfl)⟩)
  (λi j oi oj g hi hj vG vH=>by
   rcases rb i oi hi with h|⟨h,rfl⟩<;>rcases rb j oj hj with h'|⟨h',rfl⟩
   ·exact hr.inj i j oi oj g h h' vG vH
   ·have:=rh i oi g h vG;have:=zP g vH;omega
   ·have:=rh j oj g h' vH;have:=zP g vG;omega
   ·omega)
  (λo' sA g hg=>by
   rcases nM.1 sA with h|h
   ·exact .inr ⟨o',h,hg⟩
   ·simp only[nQ]at h;subst h;exact .inl (by have:=zP g hg;omega))
  (by simp)
 refine⟨?_,this.2.1⟩;have h1:=this.1;rw[oF,hr.st]at h1;simpa using h1
def ZD:List AV->List AV->Prop
 | [],[]=>True
 | x::r,y::r'=>((x=y/\x.leaf=true)∨(x=.sl []/\∃el s,y=.dv el s []/\0<s))/\ZD r r'
 | _,_=>False
theorem ZD.len:∀{xs ys:List AV},ZD xs ys->xs.length=ys.length
 | [],[],_=>rfl
 | x::r,y::r',h=>by simp[ZD.len h.2]
theorem ZD.get:∀{xs ys:List AV},ZD xs ys->∀(j:Nat) y,ys[j]?=some y->∃x,xs[j]?=some x/\((x=y/\x.leaf=true)∨(x=.sl []/\∃el s,y=.dv el s []/\0<s))
 | [],[],_,j,y,h=>by simp at h
 | x::r,y::r',h,j,z,hz=>by
  cases j with
  | zero=>simp only[mw,mU]at hz;subst hz;exact⟨x,rfl,h.1⟩
  | succ j=>exact ZD.get h.2 j z (by simpa using hz)
theorem Yt {v:Value}(h:KA v=.sl []):v=.slice none 0 0:=by
 unfold KA at h;split at h
 ·rfl
 ·unfold Lo at h;split at h<;>cases h
theorem al {t:TypeId}{ei:aR}{l c:AV}{ul uc:Value}{zd:List AV}{kl kc:IntKind}{n:Int}(hr:Rel F os s a w)(he:CH P t=some ei)(hzd:ZD ei.zero zd)(h0:0<=n)(hb:n*(ei.bytes:Int)<=281474976710656)(hm:n<=9223372036854775807)(el:l=.int kl n)(ec:c=.int kc n)(hl:AU F w os l ul)(hc:AU F w os c uc):
  GV P k F os s a w (Instr.makeSlice t ul uc) (λv st=>v=.own s.st.length 0 n.toNat/\st=s.st++[⟨0,ei.e,ei.size,List.replicate n.toNat zd⟩]):=by
 obtain⟨inf,z,hu,hi,hz,ta,sQ,ru,hby,hzero,hzl⟩:=HS he;subst el;subst ec;simp only[AU]at hl hc;subst hl;subst hc;obtain⟨N,rfl⟩:=nm h0;simp only[oJ];have rm:=run_make (P:=P) w t ei.e inf z hu hi hz kl kc N N (by omega) (qG _) (by rw[<- hby,Int.mul_comm];omega) (by omega);simp only[oJ]at rm;have we:zd.length=ei.size:=by rw[<- hzd.len,hzero,ru,<- ta];simp
 have:=hr.fm (k:=k) (cur:=madeCells z.cells (N*inf.size)) (e:=ei.e) (size:=ei.size) (cap:=N) (xs:=List.replicate N zd) (by omega)
  (λx hx=>by
   rw[pD]at hx;rw[hx.2];refine⟨we,λc hc=>?_⟩;obtain⟨j,hj⟩:=nC.1 hc;obtain⟨x,_,h⟩:=hzd.get j c hj;rcases h with ⟨rfl,h⟩|⟨_,el,s,rfl,_⟩
   ·exact Ci h
   ·rfl) (by rw[size_madeCells,ru]) (by simp) (by simp[maxLen];omega) (λi x hx j c hc=>by
   rw[List.getElem?_replicate]at hx;split at hx<;>simp only[mU,reduceCtorEq]at hx;subst hx;rename_i hiN;have uf:j<ei.size:=by rw[<- we];exact (mT.1 hc).1
   have vU:j<z.cells.size:=by omega
   obtain⟨x0,vh,uI⟩:=hzd.get j c hc;rw[hzero]at vh;simp only[mX,nz,na vU,nS,mU]at vh;refine⟨z.cells[j],?_,?_⟩
   ·have rh:i*ei.size+j<N*inf.size:=by
     have:(i+1)*ei.size<=N*ei.size:=nX _ hiN;rw[nZ]at this;rw[<- ru];omega
    have uq:(i*ei.size+j) % z.cells.size=j:=by rw[ta,<- ru,qJ,qc];exact qB uf
    simp[madeCells,rh,uq,vU]
   ·rcases uI with ⟨rfl,uP⟩|⟨rfl,el,s,rfl,hs⟩
    ·rw[<- vh];refine⟨Jr F w os _,λe s ys e'=>?_⟩;rw[vh]at e';rw[e']at uP;simp[AV.leaf]at uP
    ·have:=Yt vh;rw[this];refine⟨by simp only[AU];exact⟨_,_,_,rfl⟩,λe s' ys e'=>?_⟩;simp only[DY];exact⟨hs,.inl ⟨mV,none,rfl⟩⟩)
 refine⟨_,_,_,_,_,⟨rfl,rfl⟩,rm,this.1,?_,this.2⟩;simp only[AU];refine⟨⟨⟨0,ei.e,ei.size,List.replicate N zd⟩,some w.heap.size,N,FI⟩,by rw[hr.len];simp,by simp,⟨_,_,_,rfl⟩,λ_=>⟨by simp,.inr ⟨_,rfl,by simp⟩⟩⟩
theorem AO.NN {ops:Array Oper}{Q:Exit->St->Prop}{ds:List (Option Tmp)}{r:List Oper}{o:Oper}{s s':St}(hgd:o.guard=none)
  (h :∀F os a w,Rel F os s a w->Ce s.n o.dst=true->∀(next:Act->World->Prop) (Q':Exit->Act->World->Prop),(∀a' w',Step k s.n F os w (·=s') a' w'->next a' w')->o.wp P a w next Q')
  (hk:AO P k ops Q (ds++[o.dst]) r s'):AO P k ops Q ds (o::r) s:=by
 intro hl ug sT F os a w hr Q' hQ;have ho:ops[ds.length]?=some o:=by have:=hl 0;simpa using this.symm
 have wm:Ce s.n o.dst=true:=sT o (by have:=mS (l:=ops.toList) (i:=ds.length) (by simpa using ho);exact this);have tY :∀(j:Nat),r[j]?=ops[(ds++[o.dst]).length+j]?:=λj=>by
  have:=hl (j+1);simp only[nV]at this;rw[this];congr 1;simp;omega
 have uw :∀(j:Nat) d,(ds++[o.dst])[j]?=some d->(ops[j]?).map (·.dst)=some d:=λj d hj=>by
  rcases oI j ds.length with h1|h1|h1
  ·rw[mg h1]at hj;exact ug j d hj
  ·subst h1;rw[IL,mU]at hj;rw[ho];simp[hj]
  ·rw[nG (by simp;omega)]at hj;cases hj
 unfold wpList;have hw:Region.wanted o (yielded ops a.tmps)=true:=by unfold Region.wanted;rw[hgd]
 rw[me hw];refine .inl (h F os a w hr wm _ _ ?_);rintro a' w' ⟨s2,F2,os2,hn2,rfl,hR2,xb⟩;exact hk tY uw (by rw[hn2];exact sT) F2 os2 a' w' hR2 Q' λ_ _ _ hp=>hQ _ _ _ (hp.trans xb)
section
variable {α : Type} {l : List α} {enc : α -> List AV}
variable {ops : Array Oper} {Q : Exit -> St -> Prop} {ds : List (Option Tmp)} {r : List Oper} {n : Nat} {e : Nat -> AV} {st st' : List Row} {ty : TypeId} {ps : String} {ed : Array Edge} {t : Tmp} {T : TypeId} {x y : Operand} {m bytes size : Nat} {el : TypeId} {zz : List AV} {u : α} {j : Int} {kk uz : IntKind}
theorem NX (he:CH P T=some ⟨el,size,bytes,zz⟩)(hx:St.ev ⟨n,e,st⟩ x=.int kk j)(hy:St.ev ⟨n,e,st⟩ y=.int uz j)(hz:ZD zz (enc u))(hl:Sh.mk u j bytes=some l)(hm:st.length=m)(ra:st++[⟨0,el,size,l.map enc⟩]=st')
  (hk:AO P k ops Q (ds++[some t]) r ⟨n,Ew e t (.own m 0 l.length),st'⟩):AO P k ops Q ds (⟨some t,.makeSlice T x y,ty,ps,ed,none⟩::r) ⟨n,e,st⟩:=by
 subst hm;subst ra;unfold Sh.mk at hl;split at hl
 case isFalse=>cases hl
 rename_i h;simp only[mU]at hl;subst hl;refine AO.NN rfl (λF os a w hr hd next Q' hn=>?_) hk;obtain⟨v,st',u',w',os',⟨rfl,rfl⟩,h2,h3,h4,h5⟩:=al (k:=k) (ei:=⟨el,size,bytes,zz⟩) hr he hz h.1 h.2.1 h.2.2 hx hy (hr.ev x) (hr.ev y);unfold Oper.wp;simp only[execOp,nU,h2,nR,nq,Oper.upon];refine hn _ _ (LG hd ?_ h3 h4 h5);simp[St.put,pf]
end
end Go.Abs
namespace Go.Abs
open Go
variable {P : Program} {F : Nat -> Prop} {os : List Own} {s : St} {a : Act} {w : World} {k : Nat}
variable {α β : Type} {l : List α} {enc : α -> List AV}
theorem MF {id g size nn:Nat}{el:TypeId}{i:Int}{c:α}{x:List AV}{e:Nat->AV}{st st':List Row}(rK:st[id]?=some ⟨g,el,size,hole l enc i x⟩)(hi:Sh.get l i=some c)(hx:x=enc c)(ra:st.set id ⟨g,el,size,l.map enc⟩=st'):Wk k ⟨nn,e,st⟩ ⟨nn,e,st'⟩:=by
 have h2:hole l enc i x=l.map enc:=by
  subst hx;unfold hole;have:=GC (enc:=enc) hi;obtain⟨h1,h2⟩:=mT.1 this;rw[<- h2];exact pH h1
 rw[h2]at rK;have:st.set id ⟨g,el,size,l.map enc⟩=st:=by
  obtain⟨h1,h2⟩:=mT.1 rK;rw[<- h2];exact pH h1
 rw[this]at ra;exact CB ra
end Go.Abs
namespace Go.Abs
open Go
theorem V5 {α:Type}{l l':List α}{c:α}{b:Nat}(h:Sh.app l [c] b=some l'):Sh.get l' (Sh.len l)=some c:=by
 unfold Sh.app at h;split at h
 ·simp only[mU]at h;subst h;unfold Sh.get Sh.len;rw[me (pe _)];simp
 ·cases h
section
variable {P : Program} {k : Nat} {α : Type} {l l' : List α} {enc : α -> List AV} {c : α}
variable {ops : Array Oper} {Q : Exit -> St -> Prop} {ds : List (Option Tmp)} {r : List Oper} {n : Nat} {e : Nat -> AV} {st st' : List Row} {ty : TypeId} {ps : String} {ed : Array Edge} {t : Tmp} {gd : Option (Nat × Bool)} {T : TypeId} {x y : Operand} {bytes size id g m q gq size' : Nat} {el vM : TypeId} {zz cs : List AV}
theorem Yc (hg:GO ds gd e)(he:CH P T=some ⟨el,size,bytes,zz⟩)(hx:St.ev ⟨n,e,st⟩ x=.own id g m)(hr:st[id]?=some ⟨g,el,size,l.map enc⟩)(hm:m=l.length)(hy:St.ev ⟨n,e,st⟩ y=.own q gq 1)(hq:st[q]?=some ⟨gq,vM,size',[cs]⟩)
  (uP:cs.all AV.leaf=true) (tD:cs.length=size) (ha:Sh.app l [c] bytes=some l') (ra:st.set id ⟨g+1,el,size,hole l' enc (Sh.len l) cs⟩=st') (hk:AO P k ops Q (ds++[some t]) r ⟨n,Ew e t (.own id (g+1) l'.length),st'⟩) :
  AO P k ops Q ds (⟨some t,.call ⟨.builtin .append,#[x,y],#[T,T]⟩,ty,ps,ed,gd⟩::r) ⟨n,e,st⟩:=by
 subst ra;subst hm;refine LN hg ?_;rw[VJ];refine⟨rfl,?_⟩;rw[hx,hy];unfold Sh.app at ha;split at ha
 ·rename_i h;simp only[mU]at ha;subst ha;refine Ai _ he (Ai _ hq ⟨rfl,λz hz c hc=>?_,rfl,λz hz=>?_,Ai _ hr ⟨rfl,(mf _).symm,rfl,rfl,by simpa using h.1,by simpa using h.2,?_⟩⟩)
  ·simp only[nQ]at hz;subst hz;exact ma.1 uP c hc
  ·simp only[List.take_one,List.head?_cons,Option.toList_some,nQ]at hz;subst hz;exact tD
  ·have e1:(l.map enc).take l.length=l.map enc:=by rw[<- mf (f:=enc) (as:=l),nT]
   have e3:List.map enc l++[cs]=hole (l++[c]) enc (Sh.len l) cs:=by simp[hole,Sh.len]
   simp only[e1,List.take_one,List.head?_cons,Option.toList_some,e3,pw];rw[show l.length+1=(l++[c]).length by simp];exact hk
 ·cases ha
end
end Go.Abs
namespace Go.Abs
open Go
variable {P : Program} {F : Nat -> Prop} {os : List Own} {s : St} {a : Act} {w : World} {k : Nat}
def Li (id g:Nat)(xs:List (List AV)):AV->AV
 | .own sm g' n=>if sm=id/\g'=g then (if n=xs.length then .sl (Ia xs) else .FQ) else .own sm g' n
 | v=>v
def iu (id g:Nat)(xs:List (List AV)):AV->AV
 | .agg cs=>.agg (cs.map (Li id g xs))
 | .C7 cs=>.C7 (cs.map (Li id g xs))
 | v=>Li id g xs v
theorem Wk.gW {id:Nat}{row:Row}(uj:k<=id)(rK:s.st[id]?=some row)(hp:S6 row.xs):
  Wk k s ⟨s.n,λt=>iu id row.gen row.xs (s.env t),s.st.set id { row with gen:=row.gen+1,xs:=[] }⟩:=λF os a w hr=>by
 obtain⟨o,ho,rfl⟩:=hr.row rK;have rR:=hr.rows id o ho;refine⟨λb=>F b∨o.owns b,os.set id ⟨{ o.row with gen:=o.row.gen+1,xs:=[] },none,0,FI⟩,?_,?_⟩
 case refine_2=>
  refine⟨rfl,rfl,rfl,ml _,λ_ h=>.inl h,λ_ _=>rfl,λb _ h1 h2=>⟨rfl,λh=>h.elim h1 (λe=>h2 o (mS ho) e),λo' sA=>?_⟩,λi oi hi hoi=>⟨oi,?_,ml _,rfl,λ_=>⟨rfl,rfl,rfl⟩⟩⟩
  ·rcases nd sA with h|rfl
   ·exact h2 o' h
   ·intro hh;rcases hh with hh|hh
    ·simp at hh
    ·exact hh
  ·rw[mq (by omega)];exact hoi
 have hF:∀b,F b->(λb=>F b∨o.owns b) b:=λ_ h=>.inl h;have sP:DX os (os.set id ⟨{ o.row with gen:=o.row.gen+1,xs:=[] },none,0,FI⟩):=DX.set ho (by simp) rfl (λe=>by simp at e);have rZ:∀x v,AU F w os x v->AU (λb=>F b∨o.owns b) w (os.set id ⟨{ o.row with gen:=o.row.gen+1,xs:=[] },none,0,FI⟩) x v:=λx v h=>
  Cy hF (λ_ _=>rfl) os _ sP x v h
 have h1:∀x v,AU F w os x v->AU (λb=>F b∨o.owns b) w (os.set id ⟨{ o.row with gen:=o.row.gen+1,xs:=[] },none,0,FI⟩) (Li id o.row.gen o.row.xs x) v:=λx v h=>by
  cases x with
  | own sm g' n=>
   simp only[Li];split
   ·rename_i hif;obtain⟨rfl,rfl⟩:=hif;split
    ·rename_i hn0;subst hn0;simp only[AU]at h;obtain⟨o',sA,_,_,h⟩:=h;rw[ho]at sA;cases sA;obtain⟨_,hv⟩:=h rfl;have hD:=Tp rR hp (v:=v) (by simpa only[oo,pY,pq] using hv);have:=(P8 (F:=λb=>F b∨o.owns b) (λb hb=>.inr hb) _ _ hD).1;simp only[NA,AU]at this⊢;exact this
    ·simp[AU]
   ·exact rZ _ _ h
  | _=>exact rZ _ _ h
 have hL:∀xs us,A7 F w os xs us->A7 (λb=>F b∨o.owns b) w (os.set id ⟨{ o.row with gen:=o.row.gen+1,xs:=[] },none,0,FI⟩) (xs.map (Li id o.row.gen o.row.xs)) us:=λxs us h=>
  Cq (by simp[A3 h]) λi x u hx hu=>by
   simp only[mX,mZ]at hx;obtain⟨y,hy,rfl⟩:=hx;obtain⟨u',e1,e2⟩:=BQ h i y hy;rw[hu]at e1;cases e1;exact h1 _ _ e2
 have rb:∀(i:Nat) (oi:Own),(os.set id ⟨{ o.row with gen:=o.row.gen+1,xs:=[] },none,0,FI⟩)[i]?=some oi->(i≠id/\os[i]?=some oi)∨(i=id/\oi=⟨{ o.row with gen:=o.row.gen+1,xs:=[] },none,0,FI⟩):=λi oi hi=>by
  by_cases e:i=id
  ·subst e;rw[mc (mT.1 ho).1,mU]at hi;exact .inr ⟨rfl,hi.symm⟩
  ·rw[mq (oT e)]at hi;exact .inl ⟨e,hi⟩
 refine⟨by rw[oR,hr.st],λt=>?_,hr.size,λi oi hi=>?_,λi j oi oj b hi hj uH uQ=>?_,λb hb=>?_,hr.defers⟩
 ·have:=hr.env t;simp only;generalize s.env t=x at this⊢;cases x with
  | agg cs=>simp only[iu,AU]at this⊢;obtain⟨us,e,h⟩:=this;exact⟨us,e,hL _ _ h⟩
  | C7 cs=>simp only[iu,AU]at this⊢;obtain⟨us,e,h⟩:=this;exact⟨us,e,hL _ _ h⟩
  | _=>exact h1 _ _ this
 ·rcases rb i oi hi with ⟨sB,h⟩|⟨_,rfl⟩
  ·have tc:=hr.rows i oi h;refine⟨tc.pos,tc.lens,tc.none,λb hb=>?_,λb hb=>⟨λhF=>hF.elim (tc.mo b hb).1 (λvE=>sB (hr.inj i id oi o b h ho (.inr hb) vE)),(tc.mo b hb).2⟩,tc.deep⟩;obtain⟨e1,cur,e2,e3,e4,e5,e6⟩:=tc.some b hb;refine⟨λhF=>hF.elim e1 (λvE=>sB (hr.inj i id oi o b h ho (.inl hb) vE)),cur,e2,e3,e4,e5,λi' x hx j c hc=>?_⟩;obtain⟨u,f1,f2⟩:=e6 i' x hx j c hc;exact⟨u,f1,rZ _ _ f2⟩
  ·exact⟨rR.pos,by simp,by simp,by simp,λb hb=>hb.elim,Fq (by simp)⟩
 ·rcases rb i oi hi with ⟨sB,h⟩|⟨h,rfl⟩<;>rcases rb j oj hj with ⟨wc,h'⟩|⟨h',rfl⟩
  ·exact hr.inj i j oi oj b h h' uH uQ
  ·exact uQ.elim (λe=>by simp at e) λe=>e.elim
  ·exact uH.elim (λe=>by simp at e) λe=>e.elim
  ·omega
 ·rcases hb with hb|hb|hb
  ·exact hr.FU b hb
  ·obtain⟨_,cur,re,_⟩:=rR.some b hb;exact (nN.1 re).1
  ·exact (rR.mo b hb).2.1
variable {α : Type} {l : List α} {enc sU : α -> List AV} {n id g m size : Nat} {e : Nat -> AV} {st st' : List Row} {L : List (Nat × AV)} {el : TypeId} {xs : List (List AV)}
theorem bY (h:m=l.length)(hu :∀x,GB (enc x)=sU x):Li id g (l.map enc) (.own id g m)=.sl (l.map sU):=by
 subst h;simp only[Li,and_self,nL,mf];rw[Gp,oC];congr 1;exact nD λx _=>hu x
theorem le.Li (h:m=l.length)(hu :∀x,GB (enc x)=sU x):le (Abs.Li id g (l.map enc) (.own id g m)) (.sl (l.map sU)):=le.of (bY h hu)
theorem HW (h :∀x,(enc x).all PJ=true):S6 (l.map enc):=λx hx c hc=>by
 obtain⟨y,_,rfl⟩:=mu.1 hx;exact ma.1 (h y) c hc
theorem KQ (rK:st[id]?=some ⟨g,el,size,xs⟩)(uj:k<=id)(hp:S6 xs)(h:ME (λt=>Abs.iu id g xs (e t)) L)(ra:st.set id ⟨g+1,el,size,[]⟩=st'):Wk k ⟨n,e,st⟩ ⟨n,AM L,st'⟩:=by
 subst ra;exact (Wk.gW (s:=⟨n,e,st⟩) uj rK hp).trans (As h)
end Go.Abs
namespace Go.Abs
open Go
variable {P : Program} {F : Nat -> Prop} {os : List Own} {s : St} {a : Act} {w : World} {k : Nat}
section
variable {P : Program} {ops : Array Oper} {Q : Exit -> St -> Prop} {n N f i : Nat} {rF listed' : Array Bool} {e : Nat -> AV} {ty : TypeId} {p : String} {ed : Array Edge} {t : Tmp} {α : Type} {l l2 l' : List α} {enc : α -> List AV} {x y : Operand} {g m size bytes : Nat} {el : TypeId} {zz : List AV} {T : TypeId} {rst : List Row} {k : Nat}
theorem Wl (h:rF=listed'){s:St}(ha:AX P k ops Q N f rF s):AX P k ops Q N f listed' s:=h▸ha
theorem P4 {s:St}(h :∀A:Nat->Array Bool->St->Prop,(∀f l s,A f l s↔AX P k ops Q N f l s)->A f rF s):AX P k ops Q N f rF s:=
 h (AX P k ops Q N) (λ_ _ _=>Iff.rfl)
end
section
variable {P : Program} {ds : List (Option Tmp)} {r : List Oper} {KS : St -> Prop} {n : Nat} {e : Nat -> AV} {st : List Row} {ty : TypeId} {ps : String} {ed : Array Edge} {t : Tmp} {gd : Option (Nat × Bool)} {α : Type} {l l' : List α} {enc : α -> List AV} {x : Operand} {size bytes : Nat} {el T : TypeId} {zz : List AV}
theorem fy {lo hi:Option Operand}{i j:Int}(hg:GO ds gd e)(he:CH P T=some ⟨el,size,bytes,zz⟩)(hx:St.ev ⟨n,e,st⟩ x=.sl (l.map enc))(h1:S5 (lo.map (St.ev ⟨n,e,st⟩)) 0=some i)(h2:S5 (hi.map (St.ev ⟨n,e,st⟩)) l.length=some j)(hs :∀a,(enc a).length=size)(hl:Sh.sl l i j=some l')
  (hk:DI P (ds++[some t]) r KS ⟨n,Ew e t (.sl (l'.map enc)),st⟩):DI P ds (⟨some t,.slice T x lo hi none,ty,ps,ed,gd⟩::r) KS ⟨n,e,st⟩:=by
 refine da hg rfl (λs0 e1 e2 hd k F os a w hr next Q hn=>?_) hk;refine P1 (k:=k) (K:=(·=s0.put (some t) (.sl (l'.map enc)))) hr hd ?_ hn;show Ug P s0.st T (s0.ev x) (lo.map s0.ev) (hi.map s0.ev) (Option.map s0.ev none) (λv st=>({ s0 with st:=st }:St).put (some t) v=s0.put (some t) (.sl (l'.map enc)));have ex:s0.ev x=St.ev ⟨n,e,st⟩ x:=e2 x (by simp[Op.operands]);have elo:lo.map s0.ev=lo.map (St.ev ⟨n,e,st⟩):=by
  cases lo with
  | none=>rfl
  | some y=>simp only[nS];rw[e2 y (by simp[Op.operands])]
 have ehi:hi.map s0.ev=hi.map (St.ev ⟨n,e,st⟩):=by
  cases hi with
  | none=>rfl
  | some y=>simp only[nS];rw[e2 y (by simp[Op.operands])]
 rw[ex,elo,ehi,hx];unfold Sh.sl at hl;split at hl
 ·rename_i h;simp only[mU]at hl;subst hl;refine Ai _ he (Ai _ h1 (Ai _ (by rw[mf];exact h2) ⟨h.1,h.2.1,by simpa using h.2.2,λz hz=>?_,?_⟩))
  ·obtain⟨q,_,rfl⟩:=mu.1 hz;exact hs q
  ·rw[List.map_drop,List.map_take]
 ·cases hl
end
end Go.Abs
namespace Go.Abs
open Go
section
variable {P : Program} {k : Nat} {ops : Array Oper} {Q : Exit -> St -> Prop} {ds : List (Option Tmp)} {r : List Oper} {n : Nat} {e : Nat -> AV} {st st' : List Row} {ty : TypeId} {p : String} {ed : Array Edge} {t : Tmp} {x y : Operand} {size bytes m : Nat} {el T Tn : TypeId} {zz : List AV} {α : Type} {enc : α -> List AV} {u : α} {l' : List α} {kk : IntKind} {j : Int} {v : AV} {o : Oper}
theorem bV (hn:o.guard=none)(h :∀F os a w,Rel F os ⟨n,e,st⟩ a w->∃z w' F' os',(execOp a.eval o).run P w=.ok (.value z) w'/\Rel F' os' ⟨n,e,st'⟩ a w'/\AU F' w' os' v z/\Ext F os w F' os' w' k)
  (hk:AO P k ops Q (ds++[o.dst]) r (St.put ⟨n,e,st'⟩ o.dst v)):AO P k ops Q ds (o::r) ⟨n,e,st⟩:=by
 intro hl ug sT F os a w hr Q' hQ;have ho:ops[ds.length]?=some o:=by have:=hl 0;simpa using this.symm
 have wm:Ce n o.dst=true:=sT o (by have:=mS (l:=ops.toList) (i:=ds.length) (by simpa using ho);exact this);have tY :∀(j:Nat),r[j]?=ops[(ds++[o.dst]).length+j]?:=λj=>by
  have:=hl (j+1);simp only[nV]at this;rw[this];congr 1;simp;omega
 have uw :∀(j:Nat) d,(ds++[o.dst])[j]?=some d->(ops[j]?).map (·.dst)=some d:=λj d hj=>by
  rcases oI j ds.length with h1|h1|h1
  ·rw[mg h1]at hj;exact ug j d hj
  ·subst h1;rw[IL,mU]at hj;rw[ho];simp[hj]
  ·rw[nG (by simp;omega)]at hj;cases hj
 obtain⟨z,w',F',os',h1,h2,h3,h4⟩:=h F os a w hr;unfold wpList;rw[me (by unfold Region.wanted;rw[hn])];refine .inl ?_;unfold Oper.wp;rw[h1];simp only[Oper.upon];refine hk tY uw (by cases o.dst<;>exact sT) F' os' _ w' (h2.put wm h3) Q' λ_ _ _ hp=>hQ _ _ _ (hp.trans h4)
theorem Z5 (hs:B1 P T=true)(hx:St.ev ⟨n,e,st⟩ x=.zc)(hk:AO P k ops Q (ds++[some t]) r ⟨n,Ew e t (i64 0),st⟩):
  AO P k ops Q ds (⟨some t,.call ⟨.builtin .cap,#[x],#[T]⟩,ty,p,ed,none⟩::r) ⟨n,e,st⟩:=by
 refine bV rfl (st':=st) (v:=i64 0) (λF os a w hr=>?_) hk;have h1:=hr.ev x;rw[hx]at h1;simp only[AU]at h1;obtain⟨ad,h1⟩:=h1;unfold B1 at hs;split at hs
 case h_2=>cases hs
 rename_i el hu;refine⟨.int .i64 0,w,F,os,?_,hr,by simp[AU],Ext.refl _ _ _ _⟩;simp only[execOp,resolve,invoke,builtin,nU,nq,nR,List.map_toArray,mz,od,h1,Builtin.cap_];simp[ni hu,goInt]
theorem gy {hi:Option Operand}(he:CH P T=some ⟨el,size,bytes,zz⟩)(hx:St.ev ⟨n,e,st⟩ x=.zc)(h2:S5 (hi.map (St.ev ⟨n,e,st⟩)) 0=some 0)
  (hk:AO P k ops Q (ds++[some t]) r ⟨n,Ew e t .zc,st⟩):AO P k ops Q ds (⟨some t,.slice T x none hi none,ty,p,ed,none⟩::r) ⟨n,e,st⟩:=by
 refine LN AN ?_;rw[Tg];simp only[qe];rw[hx];exact Ai _ he (Ai _ rfl (Ai _ h2 ⟨rfl,rfl,hk⟩))
theorem fv {kn:IntKind}(he:CH P T=some ⟨el,size,bytes,zz⟩)(hn:P.underlying Tn=some (.int kn))(hx:St.ev ⟨n,e,st⟩ x=.zc)(hy:St.ev ⟨n,e,st⟩ y=.int kk j)(h0:decide (0<j)=true)(hz:enc u=zz)(hj:Sh.mk u j bytes=some l')(hm:st.length=m)(ra:st++[⟨0,el,size,l'.map enc⟩]=st')
  (hk:AO P k ops Q (ds++[some t]) r ⟨n,Ew e t (.own m 0 l'.length),st'⟩):AO P k ops Q ds (⟨some t,.call ⟨.builtin .append,#[x,y],#[T,Tn]⟩,ty,p,ed,none⟩::r) ⟨n,e,st⟩:=by
 subst hm;subst ra;subst hz;unfold Sh.mk at hj;split at hj
 case isFalse=>cases hj
 rename_i hbd;simp only[mU]at hj;subst hj;refine bV rfl (st':=st++[(⟨0,el,size,(List.replicate j.toNat u).map enc⟩:Row)]) (v:=.own st.length 0 (List.replicate j.toNat u).length) (λF os a w hr=>?_) hk;have h1:=hr.ev x;rw[hx]at h1;simp only[AU]at h1;obtain⟨ad,h1⟩:=h1;have h2:=hr.ev y;rw[hy]at h2;simp only[AU]at h2;obtain⟨inf,z,hu,hi,hz,ta,sQ,ru,hby,hzz,uP⟩:=HS he;dsimp only at hu hi ta sQ ru hby hzz uP;have hj0:0<j:=nh h0;obtain⟨q,rfl⟩:=nm (Int.le_of_lt hj0);rw[oJ];have hq0:0<q:=by omega
 have hq48:q*inf.bytes<=281474976710656:=by
  have h9:((q*bytes:Nat):Int)<=281474976710656:=by rw[qH];exact hbd.2.1
  rw[<- hby];omega
 have hold:(Builtin.firstCells inf.size 0 (.slice ad 0 0)).run P w.drew=.ok ([]:List Value).toArray w.drew:=by
  cases ad with
  | none=>exact run_firstCells_none w.drew inf.size 0 0 0
  | some ad=>exact run_firstCells_some w.drew inf.size 0 ad 0 0 [] (by simp) (by simp)
 have vT:Builtin.nextslicecap (0+q) 0*inf.bytes<=281474976710656:=by rw[ns,nextslicecap_zero hq0];exact hq48
 have rm:=Lib.run_append_grow_zeros (P:=P) w T Tn ty el inf z kk kn hu hn hi hz ad 0 0 [] hold q hq0 (by omega) (by omega) (by omega) hq48 vT;rw[ns]at rm;have uK:=qS w q 0 el;have hle:=pP w q 0 el (by unfold maxLen;omega);have hzc:∀i,i<z.cells.size->∃c',z.cells[i]?=some c':=λi hi=>⟨_,na hi⟩;have tr:=hr.QJ (k:=k) (.inr rfl) (cur:=([]:List Value).toArray++Builtin.zeroCells z.cells q++Builtin.zeroCells z.cells (grownCap w q 0 el-q)) (e:=el) (size:=size) (cap:=grownCap w q 0 el) (xs:=(List.replicate q u).map enc)
  (by omega) (λx hx=>by
   rw[pf]at hx;rw[List.eq_of_mem_replicate hx,hzz];refine⟨by simp[ta,ru],λc hc=>uP c (by rw[hzz];exact hc)⟩)
  (by
   simp only[Array.size_append,pn,nj,pX,ta,ru,ns,<- nZ];congr 1;omega)
  (by rw[mf,List.length_replicate];omega) hle (λi x hx jj c hc=>by
   rw[pf]at hx;have hi:i<q:=by
    have:=(mT.1 hx).1;simpa using this
   have uG:x=enc u:=List.eq_of_mem_replicate (mS hx);subst uG;rw[hzz]at hc;simp only[mX,mZ,nz]at hc;obtain⟨c',hc1,rfl⟩:=hc;have uf:jj<z.cells.size:=(nN.1 hc1).1;refine⟨c',?_,Jr F w os c'⟩;have rh:i*size+jj<q*size:=by
    have:(i+1)*size<=q*size:=nX _ hi;rw[nZ]at this;omega
   rw[Array.append_assoc,show (([]:List Value).toArray++(Builtin.zeroCells z.cells q++Builtin.zeroCells z.cells (grownCap w q 0 el-q)))=(Builtin.zeroCells z.cells q++Builtin.zeroCells z.cells (grownCap w q 0 el-q)) by simp];rw[oa (by rw[pX,ta,<- ru];exact rh)];unfold Builtin.zeroCells;rw[Array.getElem?_map,Array.getElem?_range];rw[me (by rw[ta,<- ru];exact rh)];simp only[nS,mU];have uq:(i*size+jj) % z.cells.size=jj:=by
    rw[ta,<- ru,qJ,qc];exact qB (by omega)
   rw[uq];simp[Array.getElem!_eq_getD,Array.getD,uf,(nN.1 hc1).2])
 refine⟨.slice (some ⟨w.heap.size,0,none⟩) q (grownCap w q 0 el),_,F,_,?_,tr.1,?_,tr.2.1⟩
 ·simp only[execOp,resolve,invoke,builtin,nU,nq,nR,List.map_toArray,mz,od,h1,h2];rw[rm];simp
 ·simp only[AU];have hlen:st.length=os.length:=hr.len;exact⟨_,by rw[hlen];exact IL _ _,ml _,⟨_,_,_,rfl⟩,λ_=>⟨by simp,.inr ⟨_,rfl,by simp⟩⟩⟩
end
section
variable {P : Program} {ds : List (Option Tmp)} {r : List Oper} {KS : St -> Prop} {n : Nat} {e : Nat -> AV} {st : List Row} {ty : TypeId} {ps : String} {ed : Array Edge} {t : Tmp} {gd : Option (Nat × Bool)} {α : Type} {l : List α} {enc : α -> List AV} {u : α} {x y : Operand} {size bytes : Nat} {el T : TypeId} {zz : List AV} {kk uz : IntKind} {j : Int}
theorem lJ (hg:GO ds gd e)(he:CH P T=some ⟨el,size,bytes,zz⟩)(hx:St.ev ⟨n,e,st⟩ x=.int kk j)(hy:St.ev ⟨n,e,st⟩ y=.int uz j)(hz:enc u=zz)(hl:Sh.mk u j bytes=some l)(hpu:F9 (l.map enc))
  (hk:DI P (ds++[some t]) r KS ⟨n,Ew e t (.sl (l.map enc)),st⟩):DI P ds (⟨some t,.makeSlice T x y,ty,ps,ed,gd⟩::r) KS ⟨n,e,st⟩:=by
 subst hz;refine da hg rfl (λs0 e1 e2 hd k F os a w hr next Q hn=>?_) hk;have ex:s0.ev x=.int kk j:=(e2 x (by simp[Op.operands])).trans hx;have ey:s0.ev y=.int uz j:=(e2 y (by simp[Op.operands])).trans hy;have hxr:=hr.ev x;have hyr:=hr.ev y;rw[ex]at hxr;rw[ey]at hyr;unfold Sh.mk at hl;split at hl
 case isFalse=>cases hl
 rename_i h;simp only[mU]at hl;subst hl;have h9:GV P 0 F [] ⟨s0.n,λ_=>.FQ,[]⟩ a w (Instr.makeSlice T (a.eval x) (a.eval y)) (λz st=>z=.own 0 0 (List.replicate j.toNat u).length/\st=[⟨0,el,size,(List.replicate j.toNat u).map enc⟩]):=by
  refine Ws (l:=.int kk j) (c:=.int uz j) hr.bare (Ai _ he ⟨rfl,h.1,h.2.1,h.2.2,?_⟩) (Fw (x:=.int kk j) rfl [] hxr) (Fw (x:=.int uz j) rfl [] hyr);simp
 obtain⟨u',w',F',g1,g2,g3,g4⟩:=KP (k:=k) hr h9 (RM hpu) rfl;unfold Oper.wp;simp only[execOp,nU,g1,nR,nq,Oper.upon];exact hn _ _ (LG (st':=s0.st) hd rfl g2 g3 g4)
end
section
variable {P : Program} {k : Nat} {ops : Array Oper} {Q : Exit -> St -> Prop} {ds : List (Option Tmp)} {r : List Oper} {n : Nat} {e : Nat -> AV} {st st' : List Row} {ty : TypeId} {p : String} {ed : Array Edge} {t : Tmp} {x y : Operand} {size bytes m : Nat} {el T : TypeId} {zz : List AV} {kk uz : IntKind} {c : Nat}
theorem aT {α:Type}{u:α}{l':List α}{j:Int}(he:CH P T=some ⟨el,size,bytes,zz⟩)(hx:St.ev ⟨n,e,st⟩ x=.int kk 0)(hy:St.ev ⟨n,e,st⟩ y=.int uz j)(hj:Sh.mk u j bytes=some l')(hm:st.length=m)(ra:st++[⟨0,el,size,[]⟩]=st')
  (hk:AO P k ops Q (ds++[some t]) r ⟨n,Ew e t (.own m 0 0),st'⟩):AO P k ops Q ds (⟨some t,.makeSlice T x y,ty,p,ed,none⟩::r) ⟨n,e,st⟩:=by
 subst hm;subst ra;unfold Sh.mk at hj;split at hj
 case isFalse=>cases hj
 rename_i zQ;obtain⟨c,rfl⟩:=nm zQ.1;have hbd:c*bytes<=281474976710656/\c<=9223372036854775807:=by
  have h9:((c*bytes:Nat):Int)<=281474976710656:=by rw[qH];exact zQ.2.1
  have h8:=zQ.2.2;omega
 refine bV rfl (st':=st++[(⟨0,el,size,[]⟩:Row)]) (v:=.own st.length 0 0) (λF os a w hr=>?_) hk;have h1:=hr.ev x;rw[hx]at h1;simp only[AU]at h1;have h2:=hr.ev y;rw[hy]at h2;simp only[AU]at h2;obtain⟨inf,z,hu,hi,hz,ta,sQ,ru,hby,hzz,uP⟩:=HS he;dsimp only at hu hi ta sQ ru hby hzz uP;have rm:=run_make (P:=P) w T el inf z hu hi hz kk uz 0 (c:Int) (by omega) (by omega) (by rw[<- hby,<- qH,qJ];omega) (by omega);have tr:=hr.QJ (k:=k) (.inl rfl) (cur:=madeCells z.cells (c*inf.size)) (e:=el) (size:=size) (cap:=c) (xs:=[]) (by omega) (by simp) (by rw[size_madeCells,ru]) (by simp) (by simp[maxLen];omega) (by simp);refine⟨.slice (some ⟨w.heap.size,0,none⟩) 0 c,_,F,_,?_,tr.1,?_,tr.2.1⟩
 ·simp only[execOp,nU,nq,nR,h1,h2];rw[rm];simp
 ·simp only[AU];have hlen:st.length=os.length:=hr.len;exact⟨_,by rw[hlen];exact IL _ _,ml _,⟨_,_,_,rfl⟩,λ_=>⟨by simp,.inr ⟨_,rfl,by simp⟩⟩⟩
end
end Go.Abs
namespace Go.Abs
open Go
variable {P : Program} {n : Nat} {e : Nat -> AV} {st : List Row} {t : Tmp} {ty : TypeId} {ps : String} {ed : Array Edge} {x : Operand}
theorem Vv {id g i off vA el size j f:Nat}{tt:TypeId}{xs:List (List AV)}(hf:Ic P tt f=some j)(h:St.ev ⟨n,e,st⟩ x=.ptr id g i off)(rK:st[id]?=some ⟨g,el,size,xs⟩)(hl:off+j<=size)(ho:off+j=vA):N1 P ⟨n,e,st⟩ ⟨some t,.fieldAddr tt x f,ty,ps,ed,none⟩ (.ptr id g i vA):=
 ⟨rfl,λF os a w hr=>by
  subst ho;have h1:=hr.ev x;rw[h]at h1;unfold Ic at hf;split at hf<;>try (cases hf;done)
  rename_i fs hu;split at hf<;>try (cases hf;done)
  rename_i g1 hg;split at hf<;>try (cases hf;done)
  rename_i i1 hi;split at hf
  ·cases hf
  rename_i hz;simp only[mU]at hf;have rm:∀b off w',(Instr.fieldAt tt (.pointer (some ⟨b,off,none⟩)) f).run P w'=.ok (.pointer (some ⟨b,off+j,none⟩)) w':=λb off w'=>by
   simp[Instr.fieldAt,ni hu,hg,Instr.sureAddr,fieldPlace,sizeOf,typeInfo,hi,hz,CI,hf]
  obtain⟨ow,how,hrw⟩:=hr.row rK;simp only[AU]at h1;obtain⟨o',sA,uK,_,hv⟩:=h1;rw[how]at sA;cases sA;have yr:ow.row.gen=g:=by rw[hrw]
  obtain⟨h2,h3,b,hb,e2⟩:=hv yr;refine⟨.pointer (some ⟨b,i*ow.row.size+off+j,none⟩),λw'=>?_,?_⟩
  ·simp[execOp,e2,rm]
  ·simp only[AU];exact⟨ow,how,uK,⟨_,rfl⟩,λ_=>⟨h2,by rw[hrw];exact hl,b,hb,by rw[oW]⟩⟩⟩
end Go.Abs
namespace Go.Abs
open Go
def SF (F:Nat->Prop)(w:World):World->Prop:=λw'=>∀b,F b->w'.heap[b]?=w.heap[b]?
section
variable {P : Program} {k : Nat} {ops : Array Oper} {Q : Exit -> St -> Prop} {N f i : Nat} {rF listed' : Array Bool} {s s' : St} {o : Oper}
def AY (P:Program)(k:Nat)(ops:Array Oper)(Q:Exit->St->Prop)(N f:Nat)(rF:Array Bool)(s:St):Prop:=
 s.n=N/\∀F0 os0 w0 F os a w,Rel F os s a w->Ext F0 os0 w0 F os w k->wpAnyH P .any ops (N5 k Q F0 os0 w0) (SF F0 w0) f rF a w
def Z6 (P:Program)(k:Nat)(ops:Array Oper)(Q:Exit->St->Prop)(N f:Nat)(rF:Array Bool)(s:St)(i:Nat):Prop:=
 ∀F0 os0 w0 F os a w,Rel F os s a w->Ext F0 os0 w0 F os w k->wpOp P ops (N5 k Q F0 os0 w0) i (λa' w'=>SF F0 w0 w'/\wpAnyH P .any ops (N5 k Q F0 os0 w0) (SF F0 w0) f (rF.setIfInBounds i true) a' w') a w
def eF (P:Program)(k:Nat)(ops:Array Oper)(Q:Exit->St->Prop)(N f:Nat)(rF:Array Bool)(s:St):List Nat->Prop
 | []=>True
 | i::r=>Z6 P k ops Q N f rF s i/\eF P k ops Q N f rF s r
theorem eF.get:∀{l:List Nat},eF P k ops Q N f rF s l->∀i∈l,Z6 P k ops Q N f rF s i
 | j::r,h,i,hi=>by
  rcases mr.1 hi with rfl|hi
  ·exact h.1
  ·exact eF.get h.2 i hi
theorem AY.all (rs:List Nat)(hn:s.n=N)(hr:Region.ready .any ops rF=rs)(sB:rs≠[])(h:eF P k ops Q N f rF s rs):AY P k ops Q N (f+1) rF s:=
 ⟨hn,λF0 os0 w0 F os a w ry he=>wpAnyH_all hr sB λi hi=>h.get i hi F0 os0 w0 F os a w ry he⟩
theorem AY.done (hn:s.n=N)(hr:Region.ready .any ops rF=[])(h:Q .normal s):AY P k ops Q N f rF s:=
 ⟨hn,λ_ _ _ F os a w ry he=>wpAnyH_done hr ⟨s,F,os,⟨rfl,h⟩,ry,he⟩ f⟩
theorem AY.weaken (hw:Wk k s s')(h:AY P k ops Q N f rF s')(hn:s.n=N):AY P k ops Q N f rF s:=
 ⟨hn,λF0 os0 w0 F os a w ry he=>by
  obtain⟨F1,sC,h1,e1⟩:=hw F os a w ry;exact h.2 F0 os0 w0 F1 sC a w h1 (he.trans e1)⟩
theorem AY.mD (h:rF=listed')(ha:AY P k ops Q N f rF s):AY P k ops Q N f listed' s:=h▸ha
theorem AY.one (h :∀A:Nat->Array Bool->St->Prop,(∀f l s,A f l s↔AY P k ops Q N f l s)->A f rF s):AY P k ops Q N f rF s:=
 h (AY P k ops Q N) (λ_ _ _=>Iff.rfl)
theorem Z6.of (ho:ops[i]?=some o)(hg:NT o i=true)(hd:(ops.toList.all λo=>Ce s.n o.dst)=true)
  (h:AO P k (ops.extract 0 (i+1)) (λe s'=>e=.normal/\AY P k ops Q N f (rF.setIfInBounds i true) s') ((ops.toList.take i).map (·.dst)) [o] s):Z6 P k ops Q N f rF s i:=by
 intro F0 os0 w0 F os a w ry he;have hi:i<ops.size:=(nN.1 ho).1;have hex:∀j,(ops.extract 0 (i+1))[j]?=if j<i+1 then ops[j]? else none:=λj=>by
  rw[Array.getElem?_extract];split<;>split<;>simp_all<;>omega
 have h1:=h (λj=>by
   have hlen:((ops.toList.take i).map (·.dst)).length=i:=by simp;omega
   rw[hlen,hex];cases j with
   | zero=>simp[ho]
   | succ j=>rw[mj (by omega)];simp) (λj d hj=>by
   simp only[mX,nJ]at hj;split at hj
   ·rw[hex,me (by omega)];simpa using hj
   ·cases hj) (λo' sA=>by
   obtain⟨j,hj⟩:=nC.1 sA;rw[nz,hex]at hj;split at hj
   ·exact ma.1 hd o' (mS (i:=j) (by simpa using hj))
   ·cases hj) F os a w ry (λe a' w'=>e=.normal/\SF F0 w0 w'/\wpAnyH P .any ops (N5 k Q F0 os0 w0) (SF F0 w0) f (rF.setIfInBounds i true) a' w') (by
   rintro e a' w' ⟨s',F',os',⟨rfl,hax⟩,sw,he'⟩;exact⟨rfl,(he.trans he').HP,hax.2 F0 os0 w0 F' os' a' w' sw (he.trans he')⟩)
 have hy:Region.wanted o (yielded (ops.extract 0 (i+1)) a.tmps)=Region.wanted o (yielded ops a.tmps):=by
  unfold Region.wanted;unfold NT at hg;cases hgd:o.guard with
  | none=>rfl
  | some p=>
   obtain⟨j,want⟩:=p;rw[hgd]at hg;simp only[mv]at hg;simp only[yielded,hex,me hg]
 unfold wpList at h1;unfold wpOp;simp only[ho];rw[hy]at h1;split at h1
 ·rename_i hw;rw[me hw];rcases h1 with h1|⟨_,a1,w1,h1,_⟩
  ·refine .inl (Oper.wp_mono (λa' w' h'=>?_) (SV (λc a' w' h'=>?_) (λh'=>?_) h1))
   ·exact h'.2
   ·exact nomatch h'.1
   ·obtain⟨_,_,h2,_⟩:=h';exact nomatch h2
  ·exact nomatch h1
 ·rename_i hw;rw[mj hw];exact h1.2
theorem AY.hoist (i:Nat){v:AV}(hn:s.n=N)(ho:ops[i]?=some o)(hs:Region.noSelect ops=true)(hf:Region.free .any ops rF i=true)(hr:(Region.ready .any ops rF).contains i=true)(hd:Ce s.n o.dst=true)(hh:N1 P s o v)
  (h:AY P k ops Q N f (rF.setIfInBounds i true) (s.put o.dst v)):AY P k ops Q N (f+1) rF s:=
 ⟨hn,λF0 os0 w0 F os a w ry he=>by
  obtain⟨hg,hh⟩:=hh;obtain⟨u,hu,hv⟩:=hh F os a w ry;refine wpAnyH_take ho hs hf hr (λc a w ⟨_,_,_,hp,_⟩=>nomatch hp.1) (.inl ⟨by unfold Region.wanted;rw[hg],λw' _=>hu w'⟩) he.HP ?_;exact h.2 F0 os0 w0 F os _ w (ry.put hd hv) he⟩
def AZ (P:Program)(k:Nat)(ops:Array Oper)(Q:Exit->St->Prop)(N f:Nat)(rF:Array Bool)(s:St):Prop:=
 s.n=N/\∀F os a w,Rel F os s a w->wpAnyH P .any ops (N5 k Q F os w) (SF F w) f rF a w
theorem AZ.st {f':Nat}(hf:f=f')(hl:rF=listed')(h:AZ P k ops Q N f' listed' s):AZ P k ops Q N f rF s:=hf▸hl▸h
theorem AZ.on (h:AY P k ops Q N f rF s):AZ P k ops Q N f rF s:=
 ⟨h.1,λF os a w hr=>h.2 F os w F os a w hr (Ext.refl F os w k)⟩
theorem AW.ke {id:Nat}(hm:P.follows .mixedOrders=true)(h:AZ P k ops Q s.n ops.size (Array.replicate ops.size false) s):AW P k (.region id ops true) Q s:=by
 intro F os a w hr;obtain⟨zE,he1⟩:=hr.drew (k:=k);refine qk (wp_region_held hm (h.2 F os a w.drew zE)) ?_;rintro e a' w' ⟨s',F',os',⟨rfl,hq⟩,h1,h2⟩;exact⟨s',F',os',hq,h1,he1.trans h2⟩
def P5 (P:Program)(s:St)(o:Oper)(v:AV):Prop:=
 o.guard=none/\∀F os a w,Rel F os s a w->∃u,(∀w',SF F w w'->(execOp a.eval o).run P w'=.ok (.value u) w')/\AU F w os v u
theorem KX {v:AV}(h:N1 P s o v):P5 P s o v:=⟨h.1,λF os a w hr=>let ⟨u,h1,h2⟩:=h.2 F os a w hr;⟨u,λw' _=>h1 w',h2⟩⟩
theorem Fv (i:Nat){v:AV}(hn:s.n=N)(ho:ops[i]?=some o)(hs:Region.noSelect ops=true)(hf:Region.free .any ops rF i=true)(hr:(Region.ready .any ops rF).contains i=true)(hd:Ce s.n o.dst=true)(hh:P5 P s o v)
  (h:AZ P k ops Q N f (rF.setIfInBounds i true) (s.put o.dst v)):AZ P k ops Q N (f+1) rF s:=
 ⟨hn,λF os a w ry=>by
  obtain⟨hg,hh⟩:=hh;obtain⟨u,hu,hv⟩:=hh F os a w ry;refine wpAnyH_take ho hs hf hr (λc a w ⟨_,_,_,hp,_⟩=>nomatch hp.1) (.inl ⟨by unfold Region.wanted;rw[hg],hu⟩) (λ_ _=>rfl) ?_;exact h.2 F os _ w (ry.put hd hv)⟩
end
section
variable {P : Program} {n : Nat} {e : Nat -> AV} {st : List Row} {t : Tmp} {ty : TypeId} {ps : String} {ed : Array Edge} {x : Operand}
theorem L7 {off vA j f:Nat}{tt:TypeId}{cs:List AV}(hf:Ic P tt f=some j)(h:St.ev ⟨n,e,st⟩ x=.Bz cs off)(ho:off+j=vA):N1 P ⟨n,e,st⟩ ⟨some t,.fieldAddr tt x f,ty,ps,ed,none⟩ (.Bz cs vA):=
 ⟨rfl,λF os a w hr=>by
  subst ho;have h1:=hr.ev x;rw[h]at h1;unfold Ic at hf;split at hf<;>try (cases hf;done)
  rename_i fs hu;split at hf<;>try (cases hf;done)
  rename_i g1 hg;split at hf<;>try (cases hf;done)
  rename_i i1 hi;split at hf
  ·cases hf
  rename_i hz;simp only[mU]at hf;have rm:∀b off w',(Instr.fieldAt tt (.pointer (some ⟨b,off,none⟩)) f).run P w'=.ok (.pointer (some ⟨b,off+j,none⟩)) w':=λb off w'=>by
   simp[Instr.fieldAt,ni hu,hg,Instr.sureAddr,fieldPlace,sizeOf,typeInfo,hi,hz,CI,hf]
  simp only[AU]at h1;obtain⟨b,o',e2,hb,hc⟩:=h1;refine⟨.pointer (some ⟨b,o'+off+j,none⟩),λw'=>?_,?_⟩
  ·simp[execOp,e2,rm]
  ·simp only[AU];exact⟨b,o',by rw[oW],hb,hc⟩⟩
theorem N0 {off sz:Nat}{tt:TypeId}{cs:List AV}{c:AV}(zR:CF P tt=some (false,sz))(h:St.ev ⟨n,e,st⟩ x=.Bz cs off)(hc:cs[off]?=some c):P5 P ⟨n,e,st⟩ ⟨some t,.load tt x,ty,ps,ed,none⟩ c:=
 ⟨rfl,λF os a w hr=>by
  have h1:=hr.ev x;rw[h]at h1;simp only[AU]at h1;obtain⟨b,o',e2,hb,tD⟩:=h1;obtain⟨d,i,hud,hi,e1,e3⟩:=IE zR;obtain⟨u,hu1,uJ,hu3⟩:=Kq (os:=os) tD off c hc;refine⟨u,λw' zS=>?_,hu3⟩;have uR:=KW (w:=w') hud;rw[<- e1]at uR;have sR:w'.cell? ⟨b,o'+off,none⟩=some u:=by rw[<- hu1];exact pK (zS b hb)
  simp[execOp,e2,Instr.loadAt,Instr.sureAddr,loadVar,uR,sR]⟩
theorem Pm {off sz:Nat}{tt:TypeId}{cs:List AV}{c:AV}(zR:CF P tt=some (true,sz))(h:St.ev ⟨n,e,st⟩ x=.Bz cs off)(hl:off+sz<=cs.length)(hc:.agg ((cs.drop off).take sz)=c):P5 P ⟨n,e,st⟩ ⟨some t,.load tt x,ty,ps,ed,none⟩ c:=
 ⟨rfl,λF os a w hr=>by
  subst hc;have h1:=hr.ev x;rw[h]at h1;simp only[AU]at h1;obtain⟨b,o',e2,hb,tD⟩:=h1;obtain⟨d,i,hud,hi,e1,e3⟩:=IE zR;have hx:=Kq (os:=os) tD;have hch:∃f:Nat->Value,∀j,j<sz->w.cell? ((⟨b,o'+off,none⟩:Addr).add j)=some (f j)/\∀c,cs[off+j]?=some c->AU F w os c (f j):=
   ⟨λj=>(w.cell? ((⟨b,o'+off,none⟩:Addr).add j)).getD undef,λj hj=>by
    have rh:off+j<cs.length:=by omega
    obtain⟨u,hu1,_,uJ⟩:=hx (off+j) cs[off+j] (mY rh);have zT:w.cell? ((⟨b,o'+off,none⟩:Addr).add j)=some u:=by rw[CI,<- hu1,oW]
    simp only[zT,oh];refine⟨mV,λc hc=>?_⟩;rw[mY rh,mU]at hc;exact hc▸uJ⟩
  obtain⟨f,hf⟩:=hch;refine⟨.agg ((List.range sz).map f).toArray,λw' zS=>?_,?_⟩
  ·have uR:=KW (w:=w') hud;rw[<- e1]at uR;have ru:(sizeOf tt).run P w'=.ok i.size w':=by simp[sizeOf,typeInfo,hi]
   have yh:=run_loadCells (P:=P) w' ⟨b,o'+off,none⟩ sz f (λj hj=>by
    rw[<- (hf j hj).1,CI];exact pK (zS b hb))
   simp only at e3;simp[execOp,e2,Instr.loadAt,Instr.sureAddr,loadVar,uR,ru,<- e3,yh]
  ·simp only[AU];refine⟨_,rfl,Cq (by simp;omega) λj c u hc hu=>?_⟩;simp only[nJ,ng]at hc;split at hc
   ·rename_i hj;simp only[mX,oe hj,nS,mU]at hu;subst hu;exact (hf j hj).2 c hc
   ·cases hc⟩
end
section
variable {P : Program} {k : Nat} {α : Type} {l : List α} {enc : α -> List AV}
variable {ops : Array Oper} {Q : Exit -> St -> Prop} {ds : List (Option Tmp)} {r : List Oper} {n : Nat} {e : Nat -> AV} {st st' : List Row} {ty : TypeId} {ps : String} {ed : Array Edge} {v : AV} {gd : Option (Nat × Bool)} {T : TypeId} {x y : Operand} {ag : Bool} {sz id g size off : Nat} {el : TypeId} {cs cs' : List AV} {c : α} {i : Int}
end
end Go.Abs
namespace Go.Abs
open Go
end Go.Abs
namespace Go.Abs
open Go
theorem Wk.pk {k n:Nat}{e:Nat->AV}{st st':List Row}{L:List (Nat×AV)}(sel:List Nat)(hk:sel.take k=List.range k)(tX:sel.Nodup)(rh:sel.all (·<st.length)=true)(hp:B9 st sel=st')(hs:SR sel st' st')(h:ME (λt=>Jg sel (e t)) L):
  Wk k ⟨n,e,st⟩ ⟨n,AM L,st'⟩:=O1 sel hk tX rh hp hs h
section
variable {P : Program} {k : Nat} {α : Type} {l : List α} {enc : α -> List AV} {ops : Array Oper} {Q : Exit -> St -> Prop} {ds : List (Option Tmp)} {r : List Oper} {n : Nat} {e : Nat -> AV} {st st' : List Row} {ty : TypeId} {ps : String} {ed : Array Edge} {t : Tmp} {gd : Option (Nat × Bool)} {T : TypeId} {bytes size m : Nat} {el : TypeId} {zz : List AV}
end
end Go.Abs
namespace Go.Abs
open Go
section
variable {P : Program} {k : Nat} {ops : Array Oper} {Q : Exit -> St -> Prop} {ds : List (Option Tmp)} {r : List Oper} {n : Nat} {e : Nat -> AV} {st st' : List Row} {ty : TypeId} {ps : String} {ed : Array Edge} {gd : Option (Nat × Bool)} {T : TypeId} {x y : Operand} {size id g sz : Nat} {el : TypeId} {α : Type} {l : List α} {enc : α -> List AV} {c : α} {i : Int} {v : AV} {cs x0 : List AV} {ag : Bool}
end
end Go.Abs
namespace Go.Abs
open Go
structure MS where
 n:Nat
 e:Nat->AV
 x:Row
 z:List Row
def MS.st (R:List Row)(m:MS):St:=⟨m.n,m.e,m.x::(R++m.z)⟩
def MS.put (m:MS)(d:Option Tmp)(v:AV):MS:=match d with
 | some d=>{ m with e:=Ew m.e d v }
 | none=>m
def MS.ev (m:MS)(x:Operand):AV:=St.ev ⟨m.n,m.e,[]⟩ x
inductive Kind where
 | q
 | l (x y:Row)
 | a (row:Row)
def Kind.D:Kind->Row->List Row->Prop
 | .q,_,_=>True
 | .l x0 _,x,_=>x=x0
 | .a _,_,z=>z=[]
section
variable {P : Program} {k : Nat} {ops : Array Oper} {md : Region.Mode} {R : List Row}
end
section
variable {P : Program} {k : Nat} {R : List Row} {ds : List (Option Tmp)} {r : List Oper} {K : MS -> Prop} {n : Nat} {e : Nat -> AV} {x0 : Row} {z0 : List Row} {t : Tmp} {op : Op} {ty : TypeId} {ps : String} {ed : Array Edge} {gd : Option (Nat × Bool)} {v : AV}
end
end Go.Abs
namespace Go.Abs
open Go
def jf (e:Nat->AV):List (Nat×AV)->List AV
 | []=>[]
 | (t,_)::r=>e t::jf e r
def kW:List (Nat×AV)->List AV
 | []=>[]
 | (_,v)::r=>v::kW r
theorem ME.same {e:Nat->AV}:∀{L:List (Nat×AV)},jf e L=kW L->ME e L
 | [],_=>trivial
 | (t,v)::r,h=>by
  simp only[jf,kW,qI]at h;obtain⟨h1,h2⟩:=h;subst h1;exact⟨.rfl,ME.same h2⟩
section
variable {P : Program} {k : Nat} {R : List Row} {ds : List (Option Tmp)} {r : List Oper} {K : MS -> Prop} {n : Nat} {e : Nat -> AV} {x0 : Row} {z0 : List Row} {t : Tmp} {op : Op} {ty : TypeId} {ps : String} {ed : Array Edge} {gd : Option (Nat × Bool)}
end
section
variable {P : Program} {k : Nat} {s : St} {ops : Array Oper} {Q : Exit -> St -> Prop} {ds : List (Option Tmp)} {r : List Oper} {n : Nat} {e : Nat -> AV} {st st' : List Row} {ty : TypeId} {ps : String} {ed : Array Edge} {d : Option Tmp} {v v' : AV} {gd : Option (Nat × Bool)}
variable {f : FuncId} {sx : Array Operand} {ts : Array TypeId} {args sO : List AV} {rows0 rows1 : List Row}
theorem VR (sel:List Nat)(hg:GO ds gd e)(hb:Dy P f=true)(hc:BJ P f sO rows0 λr st=>r=v/\st=rows1)(ha:sx.toList.map (St.ev ⟨n,e,st⟩)++[]=args)(tX:sel.Nodup)(rh:sel.all (·<st.length)=true)
  (hp:B9 st sel=rows0) (hs:SR sel rows0 rows0) (hf:args.map (Jg sel)=sO) (hlen:rows1.length=sel.length) (h1:UN sel st.length rows1 rows1) (h2:UN sel st.length [] []) (hv:YI sel st.length v=v') (vL:IH sel rows1 0 st=st')
  (hk:AO P k ops Q (ds++[d]) r (St.put ⟨n,e,st'⟩ d v')):AO P k ops Q ds (⟨d,.call ⟨.value (.func f),sx,ts⟩,ty,ps,ed,gd⟩::r) ⟨n,e,st⟩:=
 XJ (rows2:=[]) (rows2':=[]) sel hg hb (by simpa using hc) ha tX rh hp hs hf hlen h1 h2 hv (by simpa using vL) hk
end
def lM:Nat->Nat->List Bool
 | 0,_=>[]
 | n+1,m=>(m % 2==1)::lM n (m / 2)
def bm (n m:Nat):Array Bool:=⟨lM n m⟩
end Go.Abs
