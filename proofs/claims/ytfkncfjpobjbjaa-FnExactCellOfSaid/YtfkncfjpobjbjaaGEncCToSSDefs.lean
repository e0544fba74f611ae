import Derived.Test.YtfkncfjpobjbjaaGEncToEncB
import Derived.Test.YtfkncfjpobjbjaaAbsW
import Derived.Lib.AppendZerosOnto
import Derived.OrdersHeld
import Derived.Lib.SlicesCompact
set_option linter.all false
namespace RC
open Go Go.Abs
inductive GN where
 | mk (op num:Int) (kids:List GN)
def GN.op:GN->Int|.mk o _ _=>o
def GN.num:GN->Int|.mk _ n _=>n
def GN.kids:GN->List GN|.mk _ _ k=>k
end RC
namespace Go.Abs
open Go
def JG:AV->Bool
 | .int ..|.bool _|.str _|.zc|.G7|.G1|.dv ..=>true
 | _=>false
def Oy (xs:List (List AV)):Prop:=∀x∈xs,∀c∈x,JG c=true
theorem Lu {F S:Nat->Prop}{w:World}{os:List Own}{c:AV}{u:Value}(hc:JG c=true)(hd :∀e s ys,c≠.dv e s ys)(h:AF F w os c u):A9 S w c u:=by
 cases c<;>simp only[JG,R4]at hc<;>simp only[AF]at h<;>simp only[A9]<;>first|exact h|exact absurd rfl (hd _ _ _)
theorem Fe {F S:Nat->Prop}{w:World}{os:List Own}{c:AV}{u:Value}(h:A9 S w c u):AF F w os c u/\c.kept=true/\JG c=true:=by
 cases c<;>simp only[A9]at h
 case dv=>
  refine⟨?_,rfl,rfl⟩;simp only[AF];rcases h.2 with ⟨_,a,rfl⟩|⟨b,cap,cur,rfl,_⟩<;>exact⟨_,_,_,rfl⟩
 all_goals first|exact h.elim|exact⟨by simp only[AF];exact h,rfl,rfl⟩
theorem Kq {w:World}{cur:Array Value}{D:Nat->Nat->Prop}(Uq :∀j j' b,D j b->D j' b->j=j'):∀(x:List AV) (o j0:Nat),(∀(j:Nat) c,x[j]?=some c->∃u,cur[o+j]?=some u/\A9 (D (j0+j)) w c u)->
  EB (λb=>∃j,j0<=j/\D j b) w x cur o
 | [],_,_,_=>by simp[EB]
 | c::r,o,j0,h=>by
  simp only[EB];obtain⟨u,h1,h2⟩:=h 0 c rfl;refine⟨D j0,λb=>∃j,j0+1<=j/\D j b,λb hb=>⟨j0,R3 _,hb⟩,λb ⟨j,hj,hb⟩=>⟨j,by omega,hb⟩,λb hb ⟨j,hj,US⟩=>by have:=Uq _ _ _ hb US;omega,⟨u,h1,h2⟩,?_⟩;exact Kq Uq r (o+1) (j0+1) λj c hc=>by
   obtain⟨u,h1,h2⟩:=h (j+1) c (by simpa using hc);exact⟨u,by rw[<- h1];congr 1;omega,by rw[show j0+1+j=j0+(j+1) by omega];exact h2⟩
theorem KX {w:World}{cur:Array Value}{size:Nat}{D:Nat->Nat->Nat->Prop}(Uq :∀i j i' j' b,D i j b->D i' j' b->i=i'/\j=j'):∀(xs:List (List AV)) (o i0:Nat),(∀x∈xs,x.length=size)->
  (∀(i:Nat) x,xs[i]?=some x->∀(j:Nat) c,x[j]?=some c->∃u,cur[o+i*size+j]?=some u/\A9 (D (i0+i) j) w c u)->EA (λb=>∃i j,i0<=i/\D i j b) w xs cur o
 | [],_,_,_,_=>by simp[EA]
 | x::r,o,i0,hs,h=>by
  simp only[EA];refine⟨λb=>∃j,0<=j/\D i0 j b,λb=>∃i j,i0+1<=i/\D i j b,λb ⟨j,_,hb⟩=>⟨i0,j,R3 _,hb⟩,λb ⟨i,j,hi,hb⟩=>⟨i,j,by omega,hb⟩,λb ⟨j,_,hb⟩ ⟨i,j',hi,US⟩=>by have:=(Uq _ _ _ _ _ hb US).1;omega,?_,?_⟩
  ·exact Kq (D:=D i0) (λj j' b h1 h2=>(Uq _ _ _ _ _ h1 h2).2) x o 0 λj c hc=>by
    obtain⟨u,h1,h2⟩:=h 0 x rfl j c hc;exact⟨u,by rw[<- h1];congr 1;omega,by simpa using h2⟩
  ·rw[hs x (by simp)];exact KX Uq r (o+size) (i0+1) (λx hx=>hs x (by simp[hx])) λi y hy j c hc=>by
    obtain⟨u,h1,h2⟩:=h (i+1) y (by simpa using hy) j c hc;exact⟨u,by rw[<- h1];congr 1;rw[SQ];omega,by rw[show i0+1+i=i0+(i+1) by omega];exact h2⟩
theorem Jm {w:World}{cur:Array Value}:∀{x:List AV} {S:Nat->Prop} {o:Nat},EB S w x cur o->∃D:Nat->Nat->Prop,(∀j b,D j b->S b)/\(∀j j' b,D j b->D j' b->j=j')/\
  ∀(j:Nat) c,x[j]?=some c->∃u,cur[o+j]?=some u/\A9 (D j) w c u
 | [],_,_,_=>⟨λ_ _=>False,λ_ _ h=>h.elim,λ_ _ _ h=>h.elim,λj c h=>by simp at h⟩
 | c::r,S,o,h=>by
  simp only[EB]at h;obtain⟨S1,S2,h1,h2,h3,⟨u,h4,h5⟩,h6⟩:=h;obtain⟨D,d1,d2,d3⟩:=Jm h6;refine⟨λj=>match j with|0=>S1|j+1=>D j,λj b hb=>?_,λj j' b hb US=>?_,λj c' hc=>?_⟩
  ·cases j with
   | zero=>exact h1 b hb
   | succ j=>exact h2 b (d1 j b hb)
  ·cases j with
   | zero=>
    cases j' with
    | zero=>rfl
    | succ j'=>exact absurd (d1 j' b US) (h3 b hb)
   | succ j=>
    cases j' with
    | zero=>exact absurd (d1 j b hb) (h3 b US)
    | succ j'=>rw[d2 j j' b hb US]
  ·cases j with
   | zero=>simp only[R6,Rr]at hc;subst hc;exact⟨u,h4,h5⟩
   | succ j=>
    obtain⟨u',g1,g2⟩:=d3 j c' (by simpa using hc);exact⟨u',by rw[<- g1];congr 1;omega,g2⟩
theorem I7 {w:World}{cur:Array Value}{size:Nat}:∀{xs:List (List AV)} {S:Nat->Prop} {o:Nat},(∀x∈xs,x.length=size)->EA S w xs cur o->∃D:Nat->Nat->Nat->Prop,(∀i j b,D i j b->S b)/\
  (∀i j i' j' b,D i j b->D i' j' b->i=i'/\j=j')/\∀(i:Nat) x,xs[i]?=some x->∀(j:Nat) c,x[j]?=some c->∃u,cur[o+i*size+j]?=some u/\A9 (D i j) w c u
 | [],_,_,_,_=>⟨λ_ _ _=>False,λ_ _ _ h=>h.elim,λ_ _ _ _ _ h=>h.elim,λi x h=>by simp at h⟩
 | x::r,S,o,hs,h=>by
  simp only[EA]at h;obtain⟨S1,S2,h1,h2,h3,h4,h5⟩:=h;obtain⟨E,e1,e2,e3⟩:=Jm h4;obtain⟨D,d1,d2,d3⟩:=I7 (λx hx=>hs x (by simp[hx])) h5;refine⟨λi=>match i with|0=>E|i+1=>D i,λi j b hb=>?_,λi j i' j' b hb US=>?_,λi y hy j c hc=>?_⟩
  ·cases i with
   | zero=>exact h1 b (e1 j b hb)
   | succ i=>exact h2 b (d1 i j b hb)
  ·cases i with
   | zero=>
    cases i' with
    | zero=>exact⟨rfl,e2 j j' b hb US⟩
    | succ i'=>exact absurd (d1 i' j' b US) (h3 b (e1 j b hb))
   | succ i=>
    cases i' with
    | zero=>exact absurd (d1 i j b hb) (h3 b (e1 j' b US))
    | succ i'=>
     obtain⟨q1,q2⟩:=d2 i j i' j' b hb US;exact⟨by rw[q1],q2⟩
  ·cases i with
   | zero=>
    simp only[R6,Rr]at hy;subst hy;obtain⟨u,g1,g2⟩:=e3 j c hc;exact⟨u,by rw[<- g1];congr 1;omega,g2⟩
   | succ i=>
    obtain⟨u,g1,g2⟩:=d3 i y (by simpa using hy) j c hc;rw[hs x (by simp)]at g1;exact⟨u,by rw[<- g1];congr 1;rw[SQ];omega,g2⟩
variable {P : Program} {F : Nat -> Prop} {os : List Own} {s : St} {a : Act} {w : World} {k : Nat}
theorem Mb {p:Own}(h:D2 F w os p)(hd:Oy p.row.xs){v:Value}(hv:(p.BW=none/\p.row.xs=[]/\∃a,v=.slice a p.row.xs.length 0)∨∃b,p.BW=some b/\v=.slice (some ⟨b,0,none⟩) p.row.xs.length p.cap):
  A9 p.owns w (.dv p.row.elem p.row.size p.row.xs) v:=by
 simp only[A9];refine⟨h.pos,?_⟩;rcases hv with ⟨hb,Vf,a,rfl⟩|⟨b,hb,rfl⟩
 ·have:=(h.nil hb Vf).1;exact .inl ⟨this,a,by rw[this];rfl⟩
 ·obtain⟨_,cur,UK,Uc,hle,VV,UJ⟩:=h.some b hb;obtain⟨-,D,d1,d2,d3⟩:=h.deep;refine .inr ⟨b,p.cap,cur,rfl,hle,VV,.inl hb,UK,Uc,λx hx=>(h.lens x hx).1,?_⟩;have:=KX (w:=w) (cur:=cur) (size:=p.row.size) d2 p.row.xs 0 0 (λx hx=>(h.lens x hx).1) (λi x hx j c hc=>by
   simp only[TO];by_cases hdv :∃e s ys,c=.dv e s ys
   ·obtain⟨e,s,ys,rfl⟩:=hdv;exact d3 b hb cur _ _ UK i x j e s ys hx hc
   ·obtain⟨u,g1,g2⟩:=UJ i x hx j c hc;exact⟨u,g1,Lu (hd x (Ro hx) c (Ro hc)) (λe s ys e'=>hdv ⟨e,s,ys,e'⟩) g2⟩)
  exact GD (λc ⟨i,j,_,hc⟩=>⟨.inr (d1 i j c hc),λe=>(h.mo c (d1 i j c hc)).2.2 (by rw[hb,e])⟩) (λ_ _=>rfl) _ _ _ this
theorem Wk.QA {id m g gm size sz n i j nn:Nat}{el Vi:TypeId}{xs ys:List (List AV)}{x:List AV}{e:Nat->AV}{st st':List Row}(T4:st[id]?=some ⟨g,el,size,xs⟩)(hx:xs[i]?=some x)(hc:x[j]?=some (.own m gm n))
  (hm:st[m]?=some ⟨gm,Vi,sz,ys⟩) (hn:n=ys.length) (Ua:id≠m) (bD:k<=m) (hd:Oy ys) (UL:(st.set id ⟨g,el,size,xs.set i (x.set j (.dv Vi sz ys))⟩).set m ⟨gm+1,Vi,sz,[]⟩=st') :
  Wk k ⟨nn,e,st⟩ ⟨nn,e,st'⟩:=λF os a w hr=>by
 subst UL;subst hn;obtain⟨o,ho,hor⟩:=hr.row T4;obtain⟨p,hp,Vy⟩:=hr.row hm;have T6:=hr.rows id o ho;have Yu:=hr.rows m p hp;have UL:os.map Own.row=st:=hr.st;have VN:o.row.xs=xs:=by rw[hor]
 have bE:p.row.xs=ys:=by rw[Vy]
 let o':Own:={ o with row:={ o.row with xs:=xs.set i (x.set j (.dv Vi sz ys)) },more:=λb=>o.more b∨p.owns b }
 let p':Own:=⟨{ p.row with gen:=p.row.gen+1,xs:=[] },none,0,Cl⟩
 have W5:i<xs.length:=(Rq.1 hx).1;have Vr:j<x.length:=(Rq.1 hc).1;have VY:=(Rq.1 ho).1;have bF:=(Rq.1 hp).1;have Uq:∀b,o.owns b->¬ p.owns b:=λb h1 h2=>Ua (hr.inj id m o p b ho hp h1 h2);have T9:∀(q:Nat) (oq:Own),((os.set id o').set m p')[q]?=some oq->(q≠id/\q≠m/\os[q]?=some oq)∨(q=id/\oq=o')∨(q=m/\oq=p'):=λq oq hq=>by
  by_cases e:q=m
  ·subst e;rw[Rw (by simpa using bF),Rr]at hq;exact .inr (.inr ⟨rfl,hq.symm⟩)
  ·rw[R2 (Sc e)]at hq;by_cases e2:q=id
   ·subst e2;rw[Rw VY,Rr]at hq;exact .inr (.inl ⟨rfl,hq.symm⟩)
   ·rw[R2 (Sc e2)]at hq;exact .inl ⟨e2,e,hq⟩
 have Uh:Bz os ((os.set id o').set m p'):=λq oq hq=>by
  by_cases e:q=m
  ·subst e;rw[hp]at hq;cases hq;exact⟨p',Rw (by simpa using bF),Nat.le_succ _,rfl,λe=>by simp[p']at e⟩
  ·rw[R2 (Sc e)];by_cases e2:q=id
   ·subst e2;rw[ho]at hq;cases hq;exact⟨o',Rw VY,R3 _,rfl,λ_=>⟨rfl,rfl,by simp[o',VN]⟩⟩
   ·rw[R2 (Sc e2)];exact⟨oq,hq,R3 _,rfl,λ_=>⟨rfl,rfl,rfl⟩⟩
 have T8:∀y v,AF F w os y v->AF F w ((os.set id o').set m p') y v:=λy v h=>A8 (λ_ h=>h) (λ_ _=>rfl) os _ Uh y v h;have YI:∀b,o'.owns b->o.owns b∨p.owns b:=λb hb=>by
  rcases hb with hb|hb|hb
  ·exact .inl (.inl hb)
  ·exact .inl (.inr hb)
  ·exact .inr hb
 have Xx:∀b,¬ p'.owns b:=λb hb=>by
  rcases hb with hb|hb
  ·simp[p']at hb
  ·exact hb
 obtain⟨bo,V2⟩ :∃b,o.BW=some b:=by
  cases hb:o.BW with
  | none=>obtain⟨_,_,h⟩:=T6.LZ hb (i:=i) (by rw[VN];exact hx) hc;cases h
  | some b=>exact⟨b,rfl⟩
 obtain⟨Yd,cur,UK,Uc,hle,VV,UJ⟩:=T6.some bo V2;obtain⟨uv,hu1,WE⟩:=UJ i x (by rw[VN];exact hx) j _ hc;have iB:(p.BW=none/\p.row.xs=[]/\∃a,uv=.slice a p.row.xs.length 0)∨∃b,p.BW=some b/\uv=.slice (some ⟨b,0,none⟩) p.row.xs.length p.cap:=by
  simp only[AF]at WE;obtain⟨q,hq,_,_,hv⟩:=WE;rw[hp]at hq;cases hq;have:=(hv (by rw[Vy])).2;rw[bE]at this⊢;simpa only[Sy,T0,Nat.sub_zero] using this
 have fZ:A9 p.owns w (.dv Vi sz ys) uv:=by
  have:=Mb Yu (by rw[bE];exact hd) iB;rw[Vy]at this;exact this
 refine⟨F,(os.set id o').set m p',⟨?_,λt=>T8 _ _ (hr.env t),hr.size,λq oq hq=>?_,λq q' oq XP b hq Wh hb US=>?_,hr.CL,hr.defers⟩,⟨rfl,rfl,rfl,R3 _,λ_ h=>h,λ_ _=>rfl,λb _ h1 h2=>⟨rfl,h1,λoq ZL hb=>?_⟩,λq oq _ hq=>Uh q oq hq⟩⟩
 ·rw[Sf,Sf,UL];simp only[o',p',hor,Vy]
 ·rcases T9 q oq hq with ⟨_,_,h⟩|⟨_,rfl⟩|⟨_,rfl⟩
  ·have h0:=hr.rows q oq h;refine⟨h0.pos,h0.lens,h0.none,λb hb=>?_,h0.mo,h0.deep⟩;obtain⟨e1,cur,e2,e3,e4,e5,e6⟩:=h0.some b hb;exact⟨e1,cur,e2,e3,e4,e5,λi' y hy j' c hc=>by obtain⟨u,f1,f2⟩:=e6 i' y hy j' c hc;exact⟨u,f1,T8 _ _ f2⟩⟩
  ·refine⟨T6.pos,λy hy=>?_,(λhn=>by simp only[o']at hn;rw[V2]at hn;cases hn),λb hb=>?_,λb hb=>?_,?_⟩
   ·rcases SU hy with hy|rfl
    ·exact T6.lens y (by rw[VN];exact hy)
    ·have h0:=T6.lens x (by rw[VN];exact Ro hx);refine⟨by rw[Tk];exact h0.1,λc U7=>?_⟩;rcases SU U7 with h|rfl
     ·exact h0.2 c h
     ·rfl
   ·simp only[o']at hb;rw[V2]at hb;cases hb;refine⟨Yd,cur,UK,Uc,by simpa [o',VN] using hle,VV,λi' y hy j' c U2=>?_⟩;simp only[o']at hy⊢;by_cases hi:i'=i
    ·subst hi;rw[Rw W5,Rr]at hy;subst hy;by_cases hj:j'=j
     ·subst hj;rw[Rw Vr,Rr]at U2;subst U2;exact⟨uv,hu1,(Fe fZ).1⟩
     ·rw[R2 (Sc hj)]at U2;obtain⟨u,f1,f2⟩:=UJ i' x (by rw[VN];exact hx) j' c U2;exact⟨u,f1,T8 _ _ f2⟩
    ·rw[R2 (Sc hi)]at hy;obtain⟨u,f1,f2⟩:=UJ i' y (by rw[VN];exact hy) j' c U2;exact⟨u,f1,T8 _ _ f2⟩
   ·rcases hb with hb|hb
    ·exact T6.mo b hb
    ·exact⟨Yu.nF hb,Yu.lt hb,λe=>Uq b (.inl e) hb⟩
   ·obtain⟨-,D,d1,d2,d3⟩:=T6.deep;refine⟨λ_ _ _ _ hn=>(by simp only[o']at hn;rw[V2]at hn;cases hn),λi' j' b=>if i'=i/\j'=j then p.owns b else D i' j' b,λi' j' b hb=>?_,λi1 j1 i2 j2 b h1 h2=>?_,λb hb W6 fa l Ue i' y j' e2 s2 zs hy U2=>?_⟩
    ·simp only at hb;split at hb
     ·exact .inr hb
     ·exact .inl (d1 i' j' b hb)
    ·simp only at h1 h2;split at h1<;>split at h2
     ·rename_i q1 q2;exact⟨q1.1.trans q2.1.symm,q1.2.trans q2.2.symm⟩
     ·exact absurd h1 (Uq b (.inr (d1 _ _ _ h2)))
     ·exact absurd h2 (Uq b (.inr (d1 _ _ _ h1)))
     ·exact d2 _ _ _ _ _ h1 h2
    ·simp only[o']at hb hy⊢;rw[V2]at hb;cases hb;rw[UK]at Ue;cases Ue;by_cases Wm:i'=i/\j'=j
     ·obtain⟨rfl,rfl⟩:=Wm;rw[Rw W5,Rr]at hy;subst hy;rw[Rw Vr,Rr]at U2;cases U2;exact⟨uv,hu1,by simpa using fZ⟩
     ·have hold:∃y0,o.row.xs[i']?=some y0/\y0[j']?=some (.dv e2 s2 zs):=by
       rw[VN];by_cases hi:i'=i
       ·subst hi;rw[Rw W5,Rr]at hy;subst hy;have hj:j'≠j:=λe=>Wm ⟨rfl,e⟩;rw[R2 (Sc hj)]at U2;exact⟨x,hx,U2⟩
       ·rw[R2 (Sc hi)]at hy;exact⟨y,hy,U2⟩
      obtain⟨y0,Y9,VA⟩:=hold;obtain⟨u,f1,f2⟩:=d3 bo V2 cur _ _ UK i' y0 j' e2 s2 zs Y9 VA;exact⟨u,f1,by simpa only[Wm,Sa] using f2⟩
  ·exact⟨Yu.pos,by simp[p'],by simp[p'],by simp[p'],λb hb=>hb.elim,B3 (by simp[p'])⟩
 ·rcases T9 q oq hq with ⟨q1,q2,h⟩|⟨rfl,rfl⟩|⟨_,rfl⟩<;>rcases T9 q' XP Wh with ⟨q1',q2',h'⟩|⟨rfl,rfl⟩|⟨_,rfl⟩
  ·exact hr.inj q q' oq XP b h h' hb US
  ·rcases YI b US with e|e
   ·exact hr.inj q _ oq o b h ho hb e
   ·exact absurd (hr.inj q m oq p b h hp hb e) q2
  ·exact absurd US (Xx b)
  ·rcases YI b hb with e|e
   ·exact hr.inj _ q' o XP b ho h' e US
   ·exact absurd (hr.inj m q' p XP b hp h' e US).symm q2'
  ·rfl
  ·exact absurd US (Xx b)
  ·exact absurd hb (Xx b)
  ·exact absurd hb (Xx b)
  ·exact absurd hb (Xx b)
 ·obtain⟨q,hq⟩:=R5.1 ZL;rcases T9 q oq hq with ⟨_,_,h⟩|⟨_,rfl⟩|⟨_,rfl⟩
  ·exact h2 oq (Ro h) hb
  ·rcases YI b hb with e|e
   ·exact h2 o (Ro ho) e
   ·exact h2 p (Ro hp) e
  ·exact Xx b hb
end Go.Abs
namespace Go.Abs
open Go
variable {P : Program} {F : Nat -> Prop} {os : List Own} {s : St} {a : Act} {w : World} {k : Nat}
theorem Lw {S:Nat->Prop}{el sz:Nat}{ys:List (List AV)}{u:Value}(hS :∀b,S b->¬ F b/\b<w.heap.size)(h:A9 S w (.dv el sz ys) u):
  ∃p:Own,p.row=⟨0,el,sz,ys⟩/\(∀b,p.owns b->S b)/\(∀os,D2 F w os p)/\((p.BW=none/\p.row.xs=[]/\∃a,u=.slice a ys.length 0)∨∃b,p.BW=some b/\u=.slice (some ⟨b,0,none⟩) ys.length p.cap):=by
 simp only[A9]at h;obtain⟨hp,h⟩:=h;rcases h with ⟨rfl,a,rfl⟩|⟨b,cap,cur,rfl,h2,h3,h4,h5,h6,h7,h8⟩
 ·refine⟨⟨⟨0,el,sz,[]⟩,none,0,Cl⟩,rfl,λb hb=>?_,λos=>⟨hp,by simp,by simp,by simp,λb hb=>hb.elim,B3 (by simp)⟩,.inl ⟨rfl,rfl,a,rfl⟩⟩;rcases hb with hb|hb
  ·cases hb
  ·exact hb.elim
 ·obtain⟨D,d1,d2,d3⟩:=I7 h7 h8;refine⟨⟨⟨0,el,sz,ys⟩,some b,cap,λc=>S c/\c≠b⟩,rfl,λc hc=>?_,λos=>⟨hp,λx hx=>⟨h7 x hx,λc hc=>?_⟩,by simp,λb' US=>?_,λc hc=>⟨(hS c hc.1).1,(hS c hc.1).2,λe=>hc.2 (by simpa using e.symm)⟩,⟨λ_ _ _ _ hn=>(by cases hn),D,d1,d2,λb' US W6 fa l Ue i x j e s zs hx hc=>?_⟩⟩,.inr ⟨b,rfl,rfl⟩⟩
  ·rcases hc with hc|hc
   ·cases hc;exact h4
   ·exact hc.1
  ·obtain⟨i,hi⟩:=R5.1 hx;obtain⟨j,hj⟩:=R5.1 hc;obtain⟨u,_,g2⟩:=d3 i x hi j c hj;exact (Fe (F:=F) (os:=os) g2).2.1
  ·simp only[Rr]at US;subst US;refine⟨(hS _ h4).1,cur,h5,h6,h2,h3,λi x hx j c hc=>?_⟩;obtain⟨u,g1,g2⟩:=d3 i x hx j c hc;exact⟨u,by simpa using g1,(Fe g2).1⟩
  ·simp only[Rr]at US;subst US;rw[h5]at Ue;cases Ue;obtain⟨u,g1,g2⟩:=d3 i x hx j _ hc;exact⟨u,by simpa using g1,g2⟩
theorem Wk.Po {id m g size sz n i j nn:Nat}{el Vi:TypeId}{xs ys:List (List AV)}{x:List AV}{e:Nat->AV}{st st':List Row}(T4:st[id]?=some ⟨g,el,size,xs⟩)(hx:xs[i]?=some x)(hc:x[j]?=some (.dv Vi sz ys))
  (hm:st.length=m) (hn:n=ys.length) (UL:st.set id ⟨g,el,size,xs.set i (x.set j (.own m 0 n))⟩++[⟨0,Vi,sz,ys⟩]=st') (Zm:sz≠0:=by decide):Wk k ⟨nn,e,st⟩ ⟨nn,e,st'⟩:=λF os a w hr=>by
 subst UL;subst hn;subst hm;obtain⟨o,ho,hor⟩:=hr.row T4;have T6:=hr.rows id o ho;have UL:os.map Own.row=st:=hr.st;have hol:os.length=st.length:=by rw[<- UL];simp
 have VN:o.row.xs=xs:=by rw[hor]
 have W5:i<xs.length:=(Rq.1 hx).1;have Vr:j<x.length:=(Rq.1 hc).1;have VY:=(Rq.1 ho).1;obtain⟨bo,V2⟩ :∃b,o.BW=some b:=by
  cases hb:o.BW with
  | none=>obtain⟨_,_,h⟩:=T6.LZ hb (i:=i) (by rw[VN];exact hx) hc;cases h;exact absurd rfl Zm
  | some b=>exact⟨b,rfl⟩
 obtain⟨Yd,cur,UK,Uc,hle,VV,UJ⟩:=T6.some bo V2;obtain⟨-,D,d1,d2,d3⟩:=T6.deep;obtain⟨uv,hu1,WE⟩:=d3 bo V2 cur _ _ UK i x j Vi sz ys (by rw[VN];exact hx) hc;obtain⟨p,Vy,hpo,Yu,aS⟩:=Lw (F:=F) (λb hb=>⟨(T6.mo b (d1 _ _ _ hb)).1,(T6.mo b (d1 _ _ _ hb)).2.1⟩) WE
 let o':Own:={ o with row:={ o.row with xs:=xs.set i (x.set j (.own st.length 0 ys.length)) },more:=λb=>o.more b/\¬ D i j b }
 have T9:∀(q:Nat) (oq:Own),(os.set id o'++[p])[q]?=some oq->(q≠id/\q<os.length/\os[q]?=some oq)∨(q=id/\oq=o')∨(q=os.length/\oq=p):=λq oq hq=>by
  rcases Sb q os.length with h|h|h
  ·rw[Rx (by simpa using h)]at hq;by_cases e2:q=id
   ·subst e2;rw[Rw VY,Rr]at hq;exact .inr (.inl ⟨rfl,hq.symm⟩)
   ·rw[R2 (Sc e2)]at hq;exact .inl ⟨e2,h,hq⟩
  ·subst h;rw[Rz (by simp)]at hq;simp at hq;exact .inr (.inr ⟨rfl,hq.symm⟩)
  ·rw[SI (by simp;omega)]at hq;cases hq
 have bG:(os.set id o'++[p])[st.length]?=some p:=by
  rw[Rz (by simp;omega)];simp[hol]
 have Uh:Bz os (os.set id o'++[p]):=λq oq hq=>by
  have iC:=(Rq.1 hq).1;rw[Rx (by simpa using iC)];by_cases e2:q=id
  ·subst e2;rw[ho]at hq;cases hq;exact⟨o',Rw VY,R3 _,rfl,λ_=>⟨rfl,rfl,by simp[o',VN]⟩⟩
  ·rw[R2 (Sc e2)];exact⟨oq,hq,R3 _,rfl,λ_=>⟨rfl,rfl,rfl⟩⟩
 have T8:∀y v,AF F w os y v->AF F w (os.set id o'++[p]) y v:=λy v h=>A8 (λ_ h=>h) (λ_ _=>rfl) os _ Uh y v h;have Zn :∀b,o'.owns b->o.owns b:=λb hb=>by
  rcases hb with hb|hb
  ·exact .inl hb
  ·exact .inr hb.1
 have Zo:∀b,p.owns b->o.owns b:=λb hb=>.inr (d1 _ _ _ (hpo b hb));have Uq:∀b,o'.owns b->¬ p.owns b:=λb h1 h2=>by
  have h3:=hpo b h2;rcases h1 with h1|h1
  ·exact (T6.mo b (d1 _ _ _ h3)).2.2 h1
  ·exact h1.2 h3
 have X8:AF F w (os.set id o'++[p]) (.own st.length 0 ys.length) uv:=by
  simp only[AF];refine⟨p,bG,SA _,?_,λ_=>⟨by rw[Vy];exact R3 _,by rw[Vy]at aS⊢;simpa only[Sy,T0,Nat.sub_zero] using aS⟩⟩;rcases aS with ⟨_,Vf,a,rfl⟩|⟨b,_,rfl⟩<;>exact⟨_,_,_,rfl⟩
 refine⟨F,os.set id o'++[p],⟨?_,λt=>T8 _ _ (hr.env t),hr.size,λq oq hq=>?_,λq q' oq XP b hq Wh hb US=>?_,hr.CL,hr.defers⟩,⟨rfl,rfl,rfl,R3 _,λ_ h=>h,λ_ _=>rfl,λb _ h1 h2=>⟨rfl,h1,λoq ZL hb=>?_⟩,λq oq _ hq=>Uh q oq hq⟩⟩
 ·rw[Sj,Sf,UL];simp only[o',hor,SD,TB,Vy]
 ·rcases T9 q oq hq with ⟨_,_,h⟩|⟨_,rfl⟩|⟨_,rfl⟩
  ·have h0:=hr.rows q oq h;refine⟨h0.pos,h0.lens,h0.none,λb hb=>?_,h0.mo,h0.deep⟩;obtain⟨e1,cur,e2,e3,e4,e5,e6⟩:=h0.some b hb;exact⟨e1,cur,e2,e3,e4,e5,λi' y hy j' c hc=>by obtain⟨u,f1,f2⟩:=e6 i' y hy j' c hc;exact⟨u,f1,T8 _ _ f2⟩⟩
  ·refine⟨T6.pos,λy hy=>?_,(λhn=>by simp only[o']at hn;rw[V2]at hn;cases hn),λb hb=>?_,λb hb=>T6.mo b hb.1,?_⟩
   ·rcases SU hy with hy|rfl
    ·exact T6.lens y (by rw[VN];exact hy)
    ·have h0:=T6.lens x (by rw[VN];exact Ro hx);refine⟨by rw[Tk];exact h0.1,λc U7=>?_⟩;rcases SU U7 with h|rfl
     ·exact h0.2 c h
     ·rfl
   ·simp only[o']at hb;rw[V2]at hb;cases hb;refine⟨Yd,cur,UK,Uc,by simpa [o',VN] using hle,VV,λi' y hy j' c U2=>?_⟩;simp only[o']at hy⊢;by_cases hi:i'=i
    ·subst hi;rw[Rw W5,Rr]at hy;subst hy;by_cases hj:j'=j
     ·subst hj;rw[Rw Vr,Rr]at U2;subst U2;exact⟨uv,hu1,X8⟩
     ·rw[R2 (Sc hj)]at U2;obtain⟨u,f1,f2⟩:=UJ i' x (by rw[VN];exact hx) j' c U2;exact⟨u,f1,T8 _ _ f2⟩
    ·rw[R2 (Sc hi)]at hy;obtain⟨u,f1,f2⟩:=UJ i' y (by rw[VN];exact hy) j' c U2;exact⟨u,f1,T8 _ _ f2⟩
   ·refine⟨λ_ _ _ _ hn=>(by simp only[o']at hn;rw[V2]at hn;cases hn),λi' j' b=>if i'=i/\j'=j then False else D i' j' b,λi' j' b hb=>?_,λi1 j1 i2 j2 b h1 h2=>?_,λb hb W6 fa l Ue i' y j' e2 s2 zs hy U2=>?_⟩
    ·simp only at hb;split at hb
     ·exact hb.elim
     ·rename_i Wm;exact⟨d1 i' j' b hb,λh=>Wm (d2 _ _ _ _ _ hb h)⟩
    ·simp only at h1 h2;split at h1<;>split at h2<;>first|exact h1.elim|exact h2.elim|exact d2 _ _ _ _ _ h1 h2
    ·simp only[o']at hb hy⊢;rw[V2]at hb;cases hb;rw[UK]at Ue;cases Ue;have hold:(¬ (i'=i/\j'=j))/\∃y0,o.row.xs[i']?=some y0/\y0[j']?=some (.dv e2 s2 zs):=by
      rw[VN];by_cases hi:i'=i
      ·subst hi;rw[Rw W5,Rr]at hy;subst hy;by_cases hj:j'=j
       ·subst hj;rw[Rw Vr,Rr]at U2;cases U2
       ·rw[R2 (Sc hj)]at U2;exact⟨λh=>hj h.2,x,hx,U2⟩
      ·rw[R2 (Sc hi)]at hy;exact⟨λh=>hi h.1,y,hy,U2⟩
     obtain⟨Wm,y0,Y9,VA⟩:=hold;obtain⟨u,f1,f2⟩:=d3 bo V2 cur _ _ UK i' y0 j' e2 s2 zs Y9 VA;exact⟨u,f1,by simpa only[Wm,Sa] using f2⟩
  ·exact Yu _
 ·rcases T9 q oq hq with ⟨q1,q2,h⟩|⟨rfl,rfl⟩|⟨rfl,rfl⟩<;>rcases T9 q' XP Wh with ⟨q1',q2',h'⟩|⟨rfl,rfl⟩|⟨rfl,rfl⟩
  ·exact hr.inj q q' oq XP b h h' hb US
  ·exact hr.inj q _ oq o b h ho hb (Zn b US)
  ·exact absurd (hr.inj q id oq o b h ho hb (Zo b US)) q1
  ·exact hr.inj _ q' o XP b ho h' (Zn b hb) US
  ·rfl
  ·exact absurd US (Uq b hb)
  ·exact absurd (hr.inj id q' o XP b ho h' (Zo b hb) US).symm q1'
  ·exact absurd hb (Uq b US)
  ·rfl
 ·obtain⟨q,hq⟩:=R5.1 ZL;rcases T9 q oq hq with ⟨_,_,h⟩|⟨_,rfl⟩|⟨_,rfl⟩
  ·exact h2 oq (Ro h) hb
  ·exact h2 o (Ro ho) (Zn b hb)
  ·exact h2 o (Ro ho) (Zo b hb)
variable {α β : Type} {l : List α} {enc : α -> List AV}
def hole (l:List α)(enc:α->List AV)(i:Int)(x:List AV):List (List AV):=(l.map enc).set i.toNat x
theorem NB {i:Int}{u:α}{x:List AV}(h:x=enc u):hole l enc i x=(Sh.put l i u).map enc:=by subst h;exact L2
theorem H9 {i:Int}{u:α}{x:List AV}(h:Sh.get l i=some u):(hole l enc i x)[i.toNat]?=some x:=by
 have:=(Sh.get_some h).2.2;have h0:=(Sh.get_some h).1;exact Rw (by simp;omega)
theorem N2 {i:Int}{x y:List AV}:(hole l enc i x).set i.toNat y=hole l enc i y:=by unfold hole;rw[List.set_set]
theorem Wk.Qi {id m g size sz nn j:Nat}{el Vi:TypeId}{i:Int}{c:α}{ys:List β}{encY:β->List AV}{x x':List AV}{e:Nat->AV}{st st':List Row}(T4:st[id]?=some ⟨g,el,size,l.map enc⟩)(hi:Sh.get l i=some c)(hx:enc c=x)(hc:x[j]?=some (.dv Vi sz (ys.map encY)))
  (hm:st.length=m) (Wv:x.set j (.own m 0 ys.length)=x') (UL:st.set id ⟨g,el,size,hole l enc i x'⟩++[⟨0,Vi,sz,ys.map encY⟩]=st') (Zm:sz≠0:=by decide):Wk k ⟨nn,e,st⟩ ⟨nn,e,st'⟩:=by
 subst UL;subst Wv;subst hx;exact Wk.Po T4 (CN hi) hc hm (n:=ys.length) (by simp) rfl Zm
theorem Wk.take {id m g gm size sz nn j n:Nat}{el Vi:TypeId}{i:Int}{c:α}{ys:List β}{encY:β->List AV}{x x':List AV}{e:Nat->AV}{st st':List Row}(T4:st[id]?=some ⟨g,el,size,hole l enc i x⟩)(hi:Sh.get l i=some c)(hc:x[j]?=some (.own m gm n))
  (hm:st[m]?=some ⟨gm,Vi,sz,ys.map encY⟩) (hn:n=ys.length) (Ua:id≠m) (bD:k<=m) (hd :∀y,(encY y).all JG=true) (Wv:x.set j (.dv Vi sz (ys.map encY))=x') (UL:(st.set id ⟨g,el,size,hole l enc i x'⟩).set m ⟨gm+1,Vi,sz,[]⟩=st') :
  Wk k ⟨nn,e,st⟩ ⟨nn,e,st'⟩:=by
 subst UL;subst Wv;refine Wk.QA T4 (H9 hi) hc hm (by simpa using hn) Ua bD (λy hy c hc=>?_) (by rw[N2]);obtain⟨z,_,rfl⟩:=R9.1 hy;exact Ry.1 (hd z) c hc
theorem Hh {id g size nn:Nat}{el:TypeId}{i:Int}{u:α}{x:List AV}{e:Nat->AV}{st st':List Row}(T4:st[id]?=some ⟨g,el,size,hole l enc i x⟩)(hx:x=enc u)(UL:st.set id ⟨g,el,size,(Sh.put l i u).map enc⟩=st'):Wk k ⟨nn,e,st⟩ ⟨nn,e,st'⟩:=by
 rw[NB hx]at T4;have:st.set id ⟨g,el,size,(Sh.put l i u).map enc⟩=st:=by
  obtain⟨h1,h2⟩:=Rq.1 T4;rw[<- h2];exact Tf h1
 rw[this]at UL;exact Fs UL
section
variable {ops : Array Oper} {Q : Exit -> St -> Prop} {ds : List (Option Tmp)} {r : List Oper} {n : Nat} {e : Nat -> AV} {st st' : List Row} {ty : TypeId} {ps : String} {ed : Array Edge} {t : Tmp} {v : AV} {gd : Option (Nat × Bool)} {T : TypeId} {x y : Operand} {ag : Bool} {sz id g size : Nat} {el : TypeId} {cs : List AV} {c : α} {i : Int}
end
end Go.Abs
namespace Go.Abs
open Go
variable {P : Program} {F : Nat -> Prop} {os : List Own} {s : St} {a : Act} {w : World} {k : Nat}
section
variable {α : Type} {l : List α} {enc : α -> List AV}
variable {ops : Array Oper} {Q : Exit -> St -> Prop} {ds : List (Option Tmp)} {r : List Oper} {n : Nat} {e : Nat -> AV} {st st' : List Row} {ty : TypeId} {ps : String} {ed : Array Edge} {t : Tmp} {T : TypeId} {x y : Operand} {m bytes size : Nat} {el : TypeId} {zz : List AV} {u : α} {j : Int} {kk Ys : IntKind}
end
end Go.Abs
namespace Go.Abs
open Go
variable {P : Program} {F : Nat -> Prop} {os : List Own} {s : St} {a : Act} {w : World} {k : Nat}
variable {α β : Type} {l : List α} {enc : α -> List AV}
theorem Wk.N7 {id g size nn:Nat}{el:TypeId}{i:Int}{c:α}{x:List AV}{e:Nat->AV}{st st':List Row}(T4:st[id]?=some ⟨g,el,size,hole l enc i x⟩)(hi:Sh.get l i=some c)(hx:x=enc c)(UL:st.set id ⟨g,el,size,l.map enc⟩=st'):Wk k ⟨nn,e,st⟩ ⟨nn,e,st'⟩:=by
 have h2:hole l enc i x=l.map enc:=by
  subst hx;unfold hole;have:=CN (enc:=enc) hi;obtain⟨h1,h2⟩:=Rq.1 this;rw[<- h2];exact Tf h1
 rw[h2]at T4;have:st.set id ⟨g,el,size,l.map enc⟩=st:=by
  obtain⟨h1,h2⟩:=Rq.1 T4;rw[<- h2];exact Tf h1
 rw[this]at UL;exact Fs UL
end Go.Abs
namespace Go.Abs
open Go
theorem Ol {α:Type}{l l':List α}{c:α}{b:Nat}(h:Sh.app l [c] b=some l'):Sh.get l' (Sh.len l)=some c:=by
 unfold Sh.app at h;split at h
 ·simp only[Rr]at h;subst h;unfold Sh.get Sh.len;rw[R1 (Int.natCast_nonneg _)];simp
 ·cases h
section
variable {P : Program} {k : Nat} {α : Type} {l l' : List α} {enc : α -> List AV} {c : α}
variable {ops : Array Oper} {Q : Exit -> St -> Prop} {ds : List (Option Tmp)} {r : List Oper} {n : Nat} {e : Nat -> AV} {st st' : List Row} {ty : TypeId} {ps : String} {ed : Array Edge} {t : Tmp} {gd : Option (Nat × Bool)} {T : TypeId} {x y : Operand} {bytes size id g m q gq size' : Nat} {el Vi : TypeId} {zz cs : List AV}
theorem P2 (hg:GO ds gd e)(he:CG P T=some ⟨el,size,bytes,zz⟩)(hx:St.ev ⟨n,e,st⟩ x=.own id g m)(hr:st[id]?=some ⟨g,el,size,l.map enc⟩)(hm:m=l.length)(hy:St.ev ⟨n,e,st⟩ y=.own q gq 1)(hq:st[q]?=some ⟨gq,Vi,size',[cs]⟩)
  (Xv:cs.all AV.leaf=true) (WN:cs.length=size) (ha:Sh.app l [c] bytes=some l') (UL:st.set id ⟨g+1,el,size,hole l' enc (Sh.len l) cs⟩=st') (hk:AO P k ops Q (ds++[some t]) r ⟨n,CE e t (.own id (g+1) l'.length),st'⟩) :
  AO P k ops Q ds (⟨some t,.call ⟨.builtin .append,#[x,y],#[T,T]⟩,ty,ps,ed,gd⟩::r) ⟨n,e,st⟩:=by
 subst UL;subst hm;refine Ei hg ?_;rw[JB];refine⟨rfl,?_⟩;rw[hx,hy];unfold Sh.app at ha;split at ha
 ·rename_i h;simp only[Rr]at ha;subst ha;refine AL _ he (AL _ hq ⟨rfl,λz hz c hc=>?_,rfl,λz hz=>?_,AL _ hr ⟨rfl,(SF _).symm,rfl,rfl,by simpa using h.1,by simpa using h.2,?_⟩⟩)
  ·simp only[SC]at hz;subst hz;exact Ry.1 Xv c hc
  ·simp only[List.take_one,List.head?_cons,Option.toList_some,SC]at hz;subst hz;exact WN
  ·have e1:(l.map enc).take l.length=l.map enc:=by rw[<- SF (f:=enc) (as:=l),TF]
   have e3:List.map enc l++[cs]=hole (l++[c]) enc (Sh.len l) cs:=by simp[hole,Sh.len]
   simp only[e1,List.take_one,List.head?_cons,Option.toList_some,e3,Te];rw[show l.length+1=(l++[c]).length by simp];exact hk
 ·cases ha
end
end Go.Abs
namespace Go.Abs
open Go
variable {P : Program} {F : Nat -> Prop} {os : List Own} {s : St} {a : Act} {w : World} {k : Nat}
variable {α : Type} {l : List α} {enc enc' : α -> List AV} {n id g m size : Nat} {e : Nat -> AV} {st st' : List Row} {L : List (Nat × AV)} {el : TypeId} {xs : List (List AV)}
end Go.Abs
namespace Go.Abs
open Go
variable {P : Program} {F : Nat -> Prop} {os : List Own} {s : St} {a : Act} {w : World} {k : Nat}
section
variable {P : Program} {ops : Array Oper} {Q : Exit -> St -> Prop} {n N f i : Nat} {T7 Ur : Array Bool} {e : Nat -> AV} {ty : TypeId} {p : String} {ed : Array Edge} {t : Tmp} {α : Type} {l l2 l' : List α} {enc : α -> List AV} {x y : Operand} {g m size bytes : Nat} {el : TypeId} {zz : List AV} {T : TypeId} {jg : List Row} {k : Nat}
end
section
variable {P : Program} {ds : List (Option Tmp)} {r : List Oper} {KS : St -> Prop} {n : Nat} {e : Nat -> AV} {st : List Row} {ty : TypeId} {ps : String} {ed : Array Edge} {t : Tmp} {gd : Option (Nat × Bool)} {α : Type} {l l' : List α} {enc : α -> List AV} {x : Operand} {size bytes : Nat} {el T : TypeId} {zz : List AV}
end
end Go.Abs
namespace Go.Abs
open Go
section
variable {P : Program} {k : Nat} {ops : Array Oper} {Q : Exit -> St -> Prop} {ds : List (Option Tmp)} {r : List Oper} {n : Nat} {e : Nat -> AV} {st st' : List Row} {ty : TypeId} {p : String} {ed : Array Edge} {t : Tmp} {x y : Operand} {size bytes m : Nat} {el T Tn : TypeId} {zz : List AV} {α : Type} {enc : α -> List AV} {u : α} {l' : List α} {kk : IntKind} {j : Int} {v : AV} {o : Oper}
end
section
variable {P : Program} {ds : List (Option Tmp)} {r : List Oper} {KS : St -> Prop} {n : Nat} {e : Nat -> AV} {st : List Row} {ty : TypeId} {ps : String} {ed : Array Edge} {t : Tmp} {gd : Option (Nat × Bool)} {α : Type} {l : List α} {enc : α -> List AV} {u : α} {x y : Operand} {size bytes : Nat} {el T : TypeId} {zz : List AV} {kk Ys : IntKind} {j : Int}
end
section
variable {P : Program} {k : Nat} {ops : Array Oper} {Q : Exit -> St -> Prop} {ds : List (Option Tmp)} {r : List Oper} {n : Nat} {e : Nat -> AV} {st st' : List Row} {ty : TypeId} {p : String} {ed : Array Edge} {t : Tmp} {x y : Operand} {size bytes m : Nat} {el T : TypeId} {zz : List AV} {kk Ys : IntKind} {c : Nat}
end
end Go.Abs
namespace RC
open Go Go.Abs
end RC
namespace RC
open Go Go.Abs
theorem O7 {α:Type}{l:List α}{enc enc':α->List AV}(h :∀x,Da (enc x)=enc' x):DS (l.map enc)=l.map enc':=by
 rw[CO,Sx];exact R8 λx _=>h x
theorem Pc (n:Int):Da (eI n)=eI n:=rfl
def Ap (ti:Nat)(c:Cell):List AV:=[.int .i64 c.count,.int .i64 c.tag,.dv ti 1 (c.fields.map eI)]
theorem Cn {ti:Nat}(c:Cell):Da (Ap ti c)=AI c:=by
 simp only[Ap,Da,Hd,O7 Pc,AI]
end RC
namespace RC
open Go Go.Abs
end RC
namespace RC
open Go Go.Abs
end RC
namespace Go.Abs
open Go
variable {P : Program} {n : Nat} {e : Nat -> AV} {st : List Row} {t : Tmp} {ty : TypeId} {ps : String} {ed : Array Edge} {x : Operand}
end Go.Abs
namespace Go.Abs
open Go
section
variable {P : Program} {k : Nat} {ops : Array Oper} {Q : Exit -> St -> Prop} {N f i : Nat} {T7 Ur : Array Bool} {s s' : St} {o : Oper}
end
section
variable {P : Program} {n : Nat} {e : Nat -> AV} {st : List Row} {t : Tmp} {ty : TypeId} {ps : String} {ed : Array Edge} {x : Operand}
end
section
variable {P : Program} {k : Nat} {α : Type} {l : List α} {enc : α -> List AV}
variable {ops : Array Oper} {Q : Exit -> St -> Prop} {ds : List (Option Tmp)} {r : List Oper} {n : Nat} {e : Nat -> AV} {st st' : List Row} {ty : TypeId} {ps : String} {ed : Array Edge} {v : AV} {gd : Option (Nat × Bool)} {T : TypeId} {x y : Operand} {ag : Bool} {sz id g size off : Nat} {el : TypeId} {cs cs' : List AV} {c : α} {i : Int}
end
end Go.Abs
namespace Go.Abs
open Go
end Go.Abs
namespace RC
open Go Go.Abs
end RC
namespace RC
end RC
