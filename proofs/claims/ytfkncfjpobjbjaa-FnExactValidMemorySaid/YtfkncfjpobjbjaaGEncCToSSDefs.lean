import Derived.Test.YtfkncfjpobjbjaaGEncToEncB
import Derived.Test.YtfkncfjpobjbjaaAbsW
import Derived.Lib.AppendZerosOnto
import Derived.OrdersHeld
import Derived.Lib.SlicesCompact
set_option linter.all false
namespace RC
open Go Go.Abs
inductive GD where
 | mk (op num:Int) (kids:List GD)
def GD.op:GD->Int|.mk o _ _=>o
def GD.num:GD->Int|.mk _ n _=>n
def GD.kids:GD->List GD|.mk _ _ k=>k
end RC
namespace Go.Abs
open Go
def JE:AV->Bool
 | .int ..|.bool _|.str _|.zc|.G6|.Gz|.dv ..=>true
 | _=>false
def PV (xs:List (List AV)):Prop:=∀x∈xs,∀c∈x,JE c=true
theorem LN {F S:Nat->Prop}{w:World}{os:List Own}{c:AV}{u:Value}(hc:JE c=true)(hd :∀e s ys,c≠.dv e s ys)(h:AF F w os c u):A7 S w c u:=by
 cases c<;>simp only[JE,R1]at hc<;>simp only[AF]at h<;>simp only[A7]<;>first|exact h|exact absurd rfl (hd _ _ _)
theorem FZ {F S:Nat->Prop}{w:World}{os:List Own}{c:AV}{u:Value}(h:A7 S w c u):AF F w os c u/\c.kept=true/\JE c=true:=by
 cases c<;>simp only[A7]at h
 case dv=>
  refine⟨?_,rfl,rfl⟩;simp only[AF];rcases h.2 with ⟨_,a,rfl⟩|⟨b,cap,cur,rfl,_⟩<;>exact⟨_,_,_,rfl⟩
 all_goals first|exact h.elim|exact⟨by simp only[AF];exact h,rfl,rfl⟩
theorem KO {w:World}{cur:Array Value}{D:Nat->Nat->Prop}(Um :∀j j' b,D j b->D j' b->j=j'):∀(x:List AV) (o j0:Nat),(∀(j:Nat) c,x[j]?=some c->∃u,cur[o+j]?=some u/\A7 (D (j0+j)) w c u)->
  D3 (λb=>∃j,j0<=j/\D j b) w x cur o
 | [],_,_,_=>by simp[D3]
 | c::r,o,j0,h=>by
  simp only[D3];obtain⟨u,h1,h2⟩:=h 0 c rfl;refine⟨D j0,λb=>∃j,j0+1<=j/\D j b,λb hb=>⟨j0,Rz _,hb⟩,λb ⟨j,hj,hb⟩=>⟨j,by omega,hb⟩,λb hb ⟨j,hj,UO⟩=>by have:=Um _ _ _ hb UO;omega,⟨u,h1,h2⟩,?_⟩;exact KO Um r (o+1) (j0+1) λj c hc=>by
   obtain⟨u,h1,h2⟩:=h (j+1) c (by simpa using hc);exact⟨u,by rw[<- h1];congr 1;omega,by rw[show j0+1+j=j0+(j+1) by omega];exact h2⟩
theorem Kd {w:World}{cur:Array Value}{size:Nat}{D:Nat->Nat->Nat->Prop}(Um :∀i j i' j' b,D i j b->D i' j' b->i=i'/\j=j'):∀(xs:List (List AV)) (o i0:Nat),(∀x∈xs,x.length=size)->
  (∀(i:Nat) x,xs[i]?=some x->∀(j:Nat) c,x[j]?=some c->∃u,cur[o+i*size+j]?=some u/\A7 (D (i0+i) j) w c u)->D9 (λb=>∃i j,i0<=i/\D i j b) w xs cur o
 | [],_,_,_,_=>by simp[D9]
 | x::r,o,i0,hs,h=>by
  simp only[D9];refine⟨λb=>∃j,0<=j/\D i0 j b,λb=>∃i j,i0+1<=i/\D i j b,λb ⟨j,_,hb⟩=>⟨i0,j,Rz _,hb⟩,λb ⟨i,j,hi,hb⟩=>⟨i,j,by omega,hb⟩,λb ⟨j,_,hb⟩ ⟨i,j',hi,UO⟩=>by have:=(Um _ _ _ _ _ hb UO).1;omega,?_,?_⟩
  ·exact KO (D:=D i0) (λj j' b h1 h2=>(Um _ _ _ _ _ h1 h2).2) x o 0 λj c hc=>by
    obtain⟨u,h1,h2⟩:=h 0 x rfl j c hc;exact⟨u,by rw[<- h1];congr 1;omega,by simpa using h2⟩
  ·rw[hs x (by simp)];exact Kd Um r (o+size) (i0+1) (λx hx=>hs x (by simp[hx])) λi y hy j c hc=>by
    obtain⟨u,h1,h2⟩:=h (i+1) y (by simpa using hy) j c hc;exact⟨u,by rw[<- h1];congr 1;rw[SM];omega,by rw[show i0+1+i=i0+(i+1) by omega];exact h2⟩
theorem Jf {w:World}{cur:Array Value}:∀{x:List AV} {S:Nat->Prop} {o:Nat},D3 S w x cur o->∃D:Nat->Nat->Prop,(∀j b,D j b->S b)/\(∀j j' b,D j b->D j' b->j=j')/\
  ∀(j:Nat) c,x[j]?=some c->∃u,cur[o+j]?=some u/\A7 (D j) w c u
 | [],_,_,_=>⟨λ_ _=>False,λ_ _ h=>h.elim,λ_ _ _ h=>h.elim,λj c h=>by simp at h⟩
 | c::r,S,o,h=>by
  simp only[D3]at h;obtain⟨S1,S2,h1,h2,h3,⟨u,h4,h5⟩,h6⟩:=h;obtain⟨D,d1,d2,d3⟩:=Jf h6;refine⟨λj=>match j with|0=>S1|j+1=>D j,λj b hb=>?_,λj j' b hb UO=>?_,λj c' hc=>?_⟩
  ·cases j with
   | zero=>exact h1 b hb
   | succ j=>exact h2 b (d1 j b hb)
  ·cases j with
   | zero=>
    cases j' with
    | zero=>rfl
    | succ j'=>exact absurd (d1 j' b UO) (h3 b hb)
   | succ j=>
    cases j' with
    | zero=>exact absurd (d1 j b hb) (h3 b UO)
    | succ j'=>rw[d2 j j' b hb UO]
  ·cases j with
   | zero=>simp only[R2,Rn]at hc;subst hc;exact⟨u,h4,h5⟩
   | succ j=>
    obtain⟨u',g1,g2⟩:=d3 j c' (by simpa using hc);exact⟨u',by rw[<- g1];congr 1;omega,g2⟩
theorem I4 {w:World}{cur:Array Value}{size:Nat}:∀{xs:List (List AV)} {S:Nat->Prop} {o:Nat},(∀x∈xs,x.length=size)->D9 S w xs cur o->∃D:Nat->Nat->Nat->Prop,(∀i j b,D i j b->S b)/\
  (∀i j i' j' b,D i j b->D i' j' b->i=i'/\j=j')/\∀(i:Nat) x,xs[i]?=some x->∀(j:Nat) c,x[j]?=some c->∃u,cur[o+i*size+j]?=some u/\A7 (D i j) w c u
 | [],_,_,_,_=>⟨λ_ _ _=>False,λ_ _ _ h=>h.elim,λ_ _ _ _ _ h=>h.elim,λi x h=>by simp at h⟩
 | x::r,S,o,hs,h=>by
  simp only[D9]at h;obtain⟨S1,S2,h1,h2,h3,h4,h5⟩:=h;obtain⟨E,e1,e2,e3⟩:=Jf h4;obtain⟨D,d1,d2,d3⟩:=I4 (λx hx=>hs x (by simp[hx])) h5;refine⟨λi=>match i with|0=>E|i+1=>D i,λi j b hb=>?_,λi j i' j' b hb UO=>?_,λi y hy j c hc=>?_⟩
  ·cases i with
   | zero=>exact h1 b (e1 j b hb)
   | succ i=>exact h2 b (d1 i j b hb)
  ·cases i with
   | zero=>
    cases i' with
    | zero=>exact⟨rfl,e2 j j' b hb UO⟩
    | succ i'=>exact absurd (d1 i' j' b UO) (h3 b (e1 j b hb))
   | succ i=>
    cases i' with
    | zero=>exact absurd (d1 i j b hb) (h3 b (e1 j' b UO))
    | succ i'=>
     obtain⟨q1,q2⟩:=d2 i j i' j' b hb UO;exact⟨by rw[q1],q2⟩
  ·cases i with
   | zero=>
    simp only[R2,Rn]at hy;subst hy;obtain⟨u,g1,g2⟩:=e3 j c hc;exact⟨u,by rw[<- g1];congr 1;omega,g2⟩
   | succ i=>
    obtain⟨u,g1,g2⟩:=d3 i y (by simpa using hy) j c hc;rw[hs x (by simp)]at g1;exact⟨u,by rw[<- g1];congr 1;rw[SM];omega,g2⟩
variable {P : Program} {F : Nat -> Prop} {os : List Own} {s : St} {a : Act} {w : World} {k : Nat}
theorem MZ {p:Own}(h:Dr F w os p)(hd:PV p.row.xs){v:Value}(hv:(p.BV=none/\p.row.xs=[]/\∃a,v=.slice a p.row.xs.length 0)∨∃b,p.BV=some b/\v=.slice (some ⟨b,0,none⟩) p.row.xs.length p.cap):
  A7 p.owns w (.dv p.row.elem p.row.size p.row.xs) v:=by
 simp only[A7];refine⟨h.pos,?_⟩;rcases hv with ⟨hb,VY,a,rfl⟩|⟨b,hb,rfl⟩
 ·have:=(h.nil hb VY).1;exact .inl ⟨this,a,by rw[this];rfl⟩
 ·obtain⟨_,cur,T7,UX,hle,VO,T6⟩:=h.some b hb;obtain⟨-,D,d1,d2,d3⟩:=h.deep;refine .inr ⟨b,p.cap,cur,rfl,hle,VO,.inl hb,T7,UX,λx hx=>(h.lens x hx).1,?_⟩;have:=Kd (w:=w) (cur:=cur) (size:=p.row.size) d2 p.row.xs 0 0 (λx hx=>(h.lens x hx).1) (λi x hx j c hc=>by
   simp only[TK];by_cases hdv :∃e s ys,c=.dv e s ys
   ·obtain⟨e,s,ys,rfl⟩:=hdv;exact d3 b hb cur _ _ T7 i x j e s ys hx hc
   ·obtain⟨u,g1,g2⟩:=T6 i x hx j c hc;exact⟨u,g1,LN (hd x (Rk hx) c (Rk hc)) (λe s ys e'=>hdv ⟨e,s,ys,e'⟩) g2⟩)
  exact Gg (λc ⟨i,j,_,hc⟩=>⟨.inr (d1 i j c hc),λe=>(h.mo c (d1 i j c hc)).2.2 (by rw[hb,e])⟩) (λ_ _=>rfl) _ _ _ this
theorem Wk.Pw {id m g gm size sz n i j nn:Nat}{el Vb:TypeId}{xs ys:List (List AV)}{x:List AV}{e:Nat->AV}{st st':List Row}(T0:st[id]?=some ⟨g,el,size,xs⟩)(hx:xs[i]?=some x)(hc:x[j]?=some (.own m gm n))
  (hm:st[m]?=some ⟨gm,Vb,sz,ys⟩) (hn:n=ys.length) (UW:id≠m) (ay:k<=m) (hd:PV ys) (T8:(st.set id ⟨g,el,size,xs.set i (x.set j (.dv Vb sz ys))⟩).set m ⟨gm+1,Vb,sz,[]⟩=st') :
  Wk k ⟨nn,e,st⟩ ⟨nn,e,st'⟩:=λF os a w hr=>by
 subst T8;subst hn;obtain⟨o,ho,hor⟩:=hr.row T0;obtain⟨p,hp,Vu⟩:=hr.row hm;have T2:=hr.rows id o ho;have Yp:=hr.rows m p hp;have T8:os.map Own.row=st:=hr.st;have VG:o.row.xs=xs:=by rw[hor]
 have az:p.row.xs=ys:=by rw[Vu]
 let o':Own:={ o with row:={ o.row with xs:=xs.set i (x.set j (.dv Vb sz ys)) },more:=λb=>o.more b∨p.owns b }
 let p':Own:=⟨{ p.row with gen:=p.row.gen+1,xs:=[] },none,0,Cg⟩
 have Wv:i<xs.length:=(Rm.1 hx).1;have Vl:j<x.length:=(Rm.1 hc).1;have VR:=(Rm.1 ho).1;have bA:=(Rm.1 hp).1;have Um:∀b,o.owns b->¬ p.owns b:=λb h1 h2=>UW (hr.inj id m o p b ho hp h1 h2);have T5:∀(q:Nat) (oq:Own),((os.set id o').set m p')[q]?=some oq->(q≠id/\q≠m/\os[q]?=some oq)∨(q=id/\oq=o')∨(q=m/\oq=p'):=λq oq hq=>by
  by_cases e:q=m
  ·subst e;rw[Rs (by simpa using bA),Rn]at hq;exact .inr (.inr ⟨rfl,hq.symm⟩)
  ·rw[Rw (SY e)]at hq;by_cases e2:q=id
   ·subst e2;rw[Rs VR,Rn]at hq;exact .inr (.inl ⟨rfl,hq.symm⟩)
   ·rw[Rw (SY e2)]at hq;exact .inl ⟨e2,e,hq⟩
 have Ud:Bt os ((os.set id o').set m p'):=λq oq hq=>by
  by_cases e:q=m
  ·subst e;rw[hp]at hq;cases hq;exact⟨p',Rs (by simpa using bA),Nat.le_succ _,rfl,λe=>by simp[p']at e⟩
  ·rw[Rw (SY e)];by_cases e2:q=id
   ·subst e2;rw[ho]at hq;cases hq;exact⟨o',Rs VR,Rz _,rfl,λ_=>⟨rfl,rfl,by simp[o',VG]⟩⟩
   ·rw[Rw (SY e2)];exact⟨oq,hq,Rz _,rfl,λ_=>⟨rfl,rfl,rfl⟩⟩
 have T4:∀y v,AF F w os y v->AF F w ((os.set id o').set m p') y v:=λy v h=>A5 (λ_ h=>h) (λ_ _=>rfl) os _ Ud y v h;have YC:∀b,o'.owns b->o.owns b∨p.owns b:=λb hb=>by
  rcases hb with hb|hb|hb
  ·exact .inl (.inl hb)
  ·exact .inl (.inr hb)
  ·exact .inr hb
 have Xs:∀b,¬ p'.owns b:=λb hb=>by
  rcases hb with hb|hb
  ·simp[p']at hb
  ·exact hb
 obtain⟨bo,Vy⟩ :∃b,o.BV=some b:=by
  cases hb:o.BV with
  | none=>obtain⟨_,_,h⟩:=T2.La hb (i:=i) (by rw[VG];exact hx) hc;cases h
  | some b=>exact⟨b,rfl⟩
 obtain⟨YY,cur,T7,UX,hle,VO,T6⟩:=T2.some bo Vy;obtain⟨uv,hu1,WA⟩:=T6 i x (by rw[VG];exact hx) j _ hc;have gy:(p.BV=none/\p.row.xs=[]/\∃a,uv=.slice a p.row.xs.length 0)∨∃b,p.BV=some b/\uv=.slice (some ⟨b,0,none⟩) p.row.xs.length p.cap:=by
  simp only[AF]at WA;obtain⟨q,hq,_,_,hv⟩:=WA;rw[hp]at hq;cases hq;have:=(hv (by rw[Vu])).2;rw[az]at this⊢;simpa only[Sr,Tw,Nat.sub_zero] using this
 have fT:A7 p.owns w (.dv Vb sz ys) uv:=by
  have:=MZ Yp (by rw[az];exact hd) gy;rw[Vu]at this;exact this
 refine⟨F,(os.set id o').set m p',⟨?_,λt=>T4 _ _ (hr.env t),hr.size,λq oq hq=>?_,λq q' oq XK b hq WX hb UO=>?_,hr.CL,hr.defers⟩,⟨rfl,rfl,rfl,Rz _,λ_ h=>h,λ_ _=>rfl,λb _ h1 h2=>⟨rfl,h1,λoq ZI hb=>?_⟩,λq oq _ hq=>Ud q oq hq⟩⟩
 ·rw[Sb,Sb,T8];simp only[o',p',hor,Vu]
 ·rcases T5 q oq hq with ⟨_,_,h⟩|⟨_,rfl⟩|⟨_,rfl⟩
  ·have h0:=hr.rows q oq h;refine⟨h0.pos,h0.lens,h0.none,λb hb=>?_,h0.mo,h0.deep⟩;obtain⟨e1,cur,e2,e3,e4,e5,e6⟩:=h0.some b hb;exact⟨e1,cur,e2,e3,e4,e5,λi' y hy j' c hc=>by obtain⟨u,f1,f2⟩:=e6 i' y hy j' c hc;exact⟨u,f1,T4 _ _ f2⟩⟩
  ·refine⟨T2.pos,λy hy=>?_,(λhn=>by simp only[o']at hn;rw[Vy]at hn;cases hn),λb hb=>?_,λb hb=>?_,?_⟩
   ·rcases SO hy with hy|rfl
    ·exact T2.lens y (by rw[VG];exact hy)
    ·have h0:=T2.lens x (by rw[VG];exact Rk hx);refine⟨by rw[Tg];exact h0.1,λc U2=>?_⟩;rcases SO U2 with h|rfl
     ·exact h0.2 c h
     ·rfl
   ·simp only[o']at hb;rw[Vy]at hb;cases hb;refine⟨YY,cur,T7,UX,by simpa [o',VG] using hle,VO,λi' y hy j' c Uy=>?_⟩;simp only[o']at hy⊢;by_cases hi:i'=i
    ·subst hi;rw[Rs Wv,Rn]at hy;subst hy;by_cases hj:j'=j
     ·subst hj;rw[Rs Vl,Rn]at Uy;subst Uy;exact⟨uv,hu1,(FZ fT).1⟩
     ·rw[Rw (SY hj)]at Uy;obtain⟨u,f1,f2⟩:=T6 i' x (by rw[VG];exact hx) j' c Uy;exact⟨u,f1,T4 _ _ f2⟩
    ·rw[Rw (SY hi)]at hy;obtain⟨u,f1,f2⟩:=T6 i' y (by rw[VG];exact hy) j' c Uy;exact⟨u,f1,T4 _ _ f2⟩
   ·rcases hb with hb|hb
    ·exact T2.mo b hb
    ·exact⟨Yp.nF hb,Yp.lt hb,λe=>Um b (.inl e) hb⟩
   ·obtain⟨-,D,d1,d2,d3⟩:=T2.deep;refine⟨λ_ _ _ _ hn=>(by simp only[o']at hn;rw[Vy]at hn;cases hn),λi' j' b=>if i'=i/\j'=j then p.owns b else D i' j' b,λi' j' b hb=>?_,λi1 j1 i2 j2 b h1 h2=>?_,λb hb Ww fU l UZ i' y j' e2 s2 zs hy Uy=>?_⟩
    ·simp only at hb;split at hb
     ·exact .inr hb
     ·exact .inl (d1 i' j' b hb)
    ·simp only at h1 h2;split at h1<;>split at h2
     ·rename_i q1 q2;exact⟨q1.1.trans q2.1.symm,q1.2.trans q2.2.symm⟩
     ·exact absurd h1 (Um b (.inr (d1 _ _ _ h2)))
     ·exact absurd h2 (Um b (.inr (d1 _ _ _ h1)))
     ·exact d2 _ _ _ _ _ h1 h2
    ·simp only[o']at hb hy⊢;rw[Vy]at hb;cases hb;rw[T7]at UZ;cases UZ;by_cases Wb:i'=i/\j'=j
     ·obtain⟨rfl,rfl⟩:=Wb;rw[Rs Wv,Rn]at hy;subst hy;rw[Rs Vl,Rn]at Uy;cases Uy;exact⟨uv,hu1,by simpa using fT⟩
     ·have hold:∃y0,o.row.xs[i']?=some y0/\y0[j']?=some (.dv e2 s2 zs):=by
       rw[VG];by_cases hi:i'=i
       ·subst hi;rw[Rs Wv,Rn]at hy;subst hy;have hj:j'≠j:=λe=>Wb ⟨rfl,e⟩;rw[Rw (SY hj)]at Uy;exact⟨x,hx,Uy⟩
       ·rw[Rw (SY hi)]at hy;exact⟨y,hy,Uy⟩
      obtain⟨y0,Y5,U3⟩:=hold;obtain⟨u,f1,f2⟩:=d3 bo Vy cur _ _ T7 i' y0 j' e2 s2 zs Y5 U3;exact⟨u,f1,by simpa only[Wb,SX] using f2⟩
  ·exact⟨Yp.pos,by simp[p'],by simp[p'],by simp[p'],λb hb=>hb.elim,B2 (by simp[p'])⟩
 ·rcases T5 q oq hq with ⟨q1,q2,h⟩|⟨rfl,rfl⟩|⟨_,rfl⟩<;>rcases T5 q' XK WX with ⟨q1',q2',h'⟩|⟨rfl,rfl⟩|⟨_,rfl⟩
  ·exact hr.inj q q' oq XK b h h' hb UO
  ·rcases YC b UO with e|e
   ·exact hr.inj q _ oq o b h ho hb e
   ·exact absurd (hr.inj q m oq p b h hp hb e) q2
  ·exact absurd UO (Xs b)
  ·rcases YC b hb with e|e
   ·exact hr.inj _ q' o XK b ho h' e UO
   ·exact absurd (hr.inj m q' p XK b hp h' e UO).symm q2'
  ·rfl
  ·exact absurd UO (Xs b)
  ·exact absurd hb (Xs b)
  ·exact absurd hb (Xs b)
  ·exact absurd hb (Xs b)
 ·obtain⟨q,hq⟩:=R0.1 ZI;rcases T5 q oq hq with ⟨_,_,h⟩|⟨_,rfl⟩|⟨_,rfl⟩
  ·exact h2 oq (Rk h) hb
  ·rcases YC b hb with e|e
   ·exact h2 o (Rk ho) e
   ·exact h2 p (Rk hp) e
  ·exact Xs b hb
end Go.Abs
namespace Go.Abs
open Go
variable {P : Program} {F : Nat -> Prop} {os : List Own} {s : St} {a : Act} {w : World} {k : Nat}
theorem Lh {S:Nat->Prop}{el sz:Nat}{ys:List (List AV)}{u:Value}(hS :∀b,S b->¬ F b/\b<w.heap.size)(h:A7 S w (.dv el sz ys) u):
  ∃p:Own,p.row=⟨0,el,sz,ys⟩/\(∀b,p.owns b->S b)/\(∀os,Dr F w os p)/\((p.BV=none/\p.row.xs=[]/\∃a,u=.slice a ys.length 0)∨∃b,p.BV=some b/\u=.slice (some ⟨b,0,none⟩) ys.length p.cap):=by
 simp only[A7]at h;obtain⟨hp,h⟩:=h;rcases h with ⟨rfl,a,rfl⟩|⟨b,cap,cur,rfl,h2,h3,h4,h5,h6,h7,h8⟩
 ·refine⟨⟨⟨0,el,sz,[]⟩,none,0,Cg⟩,rfl,λb hb=>?_,λos=>⟨hp,by simp,by simp,by simp,λb hb=>hb.elim,B2 (by simp)⟩,.inl ⟨rfl,rfl,a,rfl⟩⟩;rcases hb with hb|hb
  ·cases hb
  ·exact hb.elim
 ·obtain⟨D,d1,d2,d3⟩:=I4 h7 h8;refine⟨⟨⟨0,el,sz,ys⟩,some b,cap,λc=>S c/\c≠b⟩,rfl,λc hc=>?_,λos=>⟨hp,λx hx=>⟨h7 x hx,λc hc=>?_⟩,by simp,λb' UO=>?_,λc hc=>⟨(hS c hc.1).1,(hS c hc.1).2,λe=>hc.2 (by simpa using e.symm)⟩,⟨λ_ _ _ _ hn=>(by cases hn),D,d1,d2,λb' UO Ww fU l UZ i x j e s zs hx hc=>?_⟩⟩,.inr ⟨b,rfl,rfl⟩⟩
  ·rcases hc with hc|hc
   ·cases hc;exact h4
   ·exact hc.1
  ·obtain⟨i,hi⟩:=R0.1 hx;obtain⟨j,hj⟩:=R0.1 hc;obtain⟨u,_,g2⟩:=d3 i x hi j c hj;exact (FZ (F:=F) (os:=os) g2).2.1
  ·simp only[Rn]at UO;subst UO;refine⟨(hS _ h4).1,cur,h5,h6,h2,h3,λi x hx j c hc=>?_⟩;obtain⟨u,g1,g2⟩:=d3 i x hx j c hc;exact⟨u,by simpa using g1,(FZ g2).1⟩
  ·simp only[Rn]at UO;subst UO;rw[h5]at UZ;cases UZ;obtain⟨u,g1,g2⟩:=d3 i x hx j _ hc;exact⟨u,by simpa using g1,g2⟩
theorem Wk.P6 {id m g size sz n i j nn:Nat}{el Vb:TypeId}{xs ys:List (List AV)}{x:List AV}{e:Nat->AV}{st st':List Row}(T0:st[id]?=some ⟨g,el,size,xs⟩)(hx:xs[i]?=some x)(hc:x[j]?=some (.dv Vb sz ys))
  (hm:st.length=m) (hn:n=ys.length) (T8:st.set id ⟨g,el,size,xs.set i (x.set j (.own m 0 n))⟩++[⟨0,Vb,sz,ys⟩]=st') (Zj:sz≠0:=by decide):Wk k ⟨nn,e,st⟩ ⟨nn,e,st'⟩:=λF os a w hr=>by
 subst T8;subst hn;subst hm;obtain⟨o,ho,hor⟩:=hr.row T0;have T2:=hr.rows id o ho;have T8:os.map Own.row=st:=hr.st;have hol:os.length=st.length:=by rw[<- T8];simp
 have VG:o.row.xs=xs:=by rw[hor]
 have Wv:i<xs.length:=(Rm.1 hx).1;have Vl:j<x.length:=(Rm.1 hc).1;have VR:=(Rm.1 ho).1;obtain⟨bo,Vy⟩ :∃b,o.BV=some b:=by
  cases hb:o.BV with
  | none=>obtain⟨_,_,h⟩:=T2.La hb (i:=i) (by rw[VG];exact hx) hc;cases h;exact absurd rfl Zj
  | some b=>exact⟨b,rfl⟩
 obtain⟨YY,cur,T7,UX,hle,VO,T6⟩:=T2.some bo Vy;obtain⟨-,D,d1,d2,d3⟩:=T2.deep;obtain⟨uv,hu1,WA⟩:=d3 bo Vy cur _ _ T7 i x j Vb sz ys (by rw[VG];exact hx) hc;obtain⟨p,Vu,hpo,Yp,aK⟩:=Lh (F:=F) (λb hb=>⟨(T2.mo b (d1 _ _ _ hb)).1,(T2.mo b (d1 _ _ _ hb)).2.1⟩) WA
 let o':Own:={ o with row:={ o.row with xs:=xs.set i (x.set j (.own st.length 0 ys.length)) },more:=λb=>o.more b/\¬ D i j b }
 have T5:∀(q:Nat) (oq:Own),(os.set id o'++[p])[q]?=some oq->(q≠id/\q<os.length/\os[q]?=some oq)∨(q=id/\oq=o')∨(q=os.length/\oq=p):=λq oq hq=>by
  rcases SW q os.length with h|h|h
  ·rw[Rt (by simpa using h)]at hq;by_cases e2:q=id
   ·subst e2;rw[Rs VR,Rn]at hq;exact .inr (.inl ⟨rfl,hq.symm⟩)
   ·rw[Rw (SY e2)]at hq;exact .inl ⟨e2,h,hq⟩
  ·subst h;rw[Rv (by simp)]at hq;simp at hq;exact .inr (.inr ⟨rfl,hq.symm⟩)
  ·rw[SE (by simp;omega)]at hq;cases hq
 have bB:(os.set id o'++[p])[st.length]?=some p:=by
  rw[Rv (by simp;omega)];simp[hol]
 have Ud:Bt os (os.set id o'++[p]):=λq oq hq=>by
  have gz:=(Rm.1 hq).1;rw[Rt (by simpa using gz)];by_cases e2:q=id
  ·subst e2;rw[ho]at hq;cases hq;exact⟨o',Rs VR,Rz _,rfl,λ_=>⟨rfl,rfl,by simp[o',VG]⟩⟩
  ·rw[Rw (SY e2)];exact⟨oq,hq,Rz _,rfl,λ_=>⟨rfl,rfl,rfl⟩⟩
 have T4:∀y v,AF F w os y v->AF F w (os.set id o'++[p]) y v:=λy v h=>A5 (λ_ h=>h) (λ_ _=>rfl) os _ Ud y v h;have Zk :∀b,o'.owns b->o.owns b:=λb hb=>by
  rcases hb with hb|hb
  ·exact .inl hb
  ·exact .inr hb.1
 have Zl:∀b,p.owns b->o.owns b:=λb hb=>.inr (d1 _ _ _ (hpo b hb));have Um:∀b,o'.owns b->¬ p.owns b:=λb h1 h2=>by
  have h3:=hpo b h2;rcases h1 with h1|h1
  ·exact (T2.mo b (d1 _ _ _ h3)).2.2 h1
  ·exact h1.2 h3
 have X2:AF F w (os.set id o'++[p]) (.own st.length 0 ys.length) uv:=by
  simp only[AF];refine⟨p,bB,R5 _,?_,λ_=>⟨by rw[Vu];exact Rz _,by rw[Vu]at aK⊢;simpa only[Sr,Tw,Nat.sub_zero] using aK⟩⟩;rcases aK with ⟨_,VY,a,rfl⟩|⟨b,_,rfl⟩<;>exact⟨_,_,_,rfl⟩
 refine⟨F,os.set id o'++[p],⟨?_,λt=>T4 _ _ (hr.env t),hr.size,λq oq hq=>?_,λq q' oq XK b hq WX hb UO=>?_,hr.CL,hr.defers⟩,⟨rfl,rfl,rfl,Rz _,λ_ h=>h,λ_ _=>rfl,λb _ h1 h2=>⟨rfl,h1,λoq ZI hb=>?_⟩,λq oq _ hq=>Ud q oq hq⟩⟩
 ·rw[Se,Sb,T8];simp only[o',hor,R9,S7,Vu]
 ·rcases T5 q oq hq with ⟨_,_,h⟩|⟨_,rfl⟩|⟨_,rfl⟩
  ·have h0:=hr.rows q oq h;refine⟨h0.pos,h0.lens,h0.none,λb hb=>?_,h0.mo,h0.deep⟩;obtain⟨e1,cur,e2,e3,e4,e5,e6⟩:=h0.some b hb;exact⟨e1,cur,e2,e3,e4,e5,λi' y hy j' c hc=>by obtain⟨u,f1,f2⟩:=e6 i' y hy j' c hc;exact⟨u,f1,T4 _ _ f2⟩⟩
  ·refine⟨T2.pos,λy hy=>?_,(λhn=>by simp only[o']at hn;rw[Vy]at hn;cases hn),λb hb=>?_,λb hb=>T2.mo b hb.1,?_⟩
   ·rcases SO hy with hy|rfl
    ·exact T2.lens y (by rw[VG];exact hy)
    ·have h0:=T2.lens x (by rw[VG];exact Rk hx);refine⟨by rw[Tg];exact h0.1,λc U2=>?_⟩;rcases SO U2 with h|rfl
     ·exact h0.2 c h
     ·rfl
   ·simp only[o']at hb;rw[Vy]at hb;cases hb;refine⟨YY,cur,T7,UX,by simpa [o',VG] using hle,VO,λi' y hy j' c Uy=>?_⟩;simp only[o']at hy⊢;by_cases hi:i'=i
    ·subst hi;rw[Rs Wv,Rn]at hy;subst hy;by_cases hj:j'=j
     ·subst hj;rw[Rs Vl,Rn]at Uy;subst Uy;exact⟨uv,hu1,X2⟩
     ·rw[Rw (SY hj)]at Uy;obtain⟨u,f1,f2⟩:=T6 i' x (by rw[VG];exact hx) j' c Uy;exact⟨u,f1,T4 _ _ f2⟩
    ·rw[Rw (SY hi)]at hy;obtain⟨u,f1,f2⟩:=T6 i' y (by rw[VG];exact hy) j' c Uy;exact⟨u,f1,T4 _ _ f2⟩
   ·refine⟨λ_ _ _ _ hn=>(by simp only[o']at hn;rw[Vy]at hn;cases hn),λi' j' b=>if i'=i/\j'=j then False else D i' j' b,λi' j' b hb=>?_,λi1 j1 i2 j2 b h1 h2=>?_,λb hb Ww fU l UZ i' y j' e2 s2 zs hy Uy=>?_⟩
    ·simp only at hb;split at hb
     ·exact hb.elim
     ·rename_i Wb;exact⟨d1 i' j' b hb,λh=>Wb (d2 _ _ _ _ _ hb h)⟩
    ·simp only at h1 h2;split at h1<;>split at h2<;>first|exact h1.elim|exact h2.elim|exact d2 _ _ _ _ _ h1 h2
    ·simp only[o']at hb hy⊢;rw[Vy]at hb;cases hb;rw[T7]at UZ;cases UZ;have hold:(¬ (i'=i/\j'=j))/\∃y0,o.row.xs[i']?=some y0/\y0[j']?=some (.dv e2 s2 zs):=by
      rw[VG];by_cases hi:i'=i
      ·subst hi;rw[Rs Wv,Rn]at hy;subst hy;by_cases hj:j'=j
       ·subst hj;rw[Rs Vl,Rn]at Uy;cases Uy
       ·rw[Rw (SY hj)]at Uy;exact⟨λh=>hj h.2,x,hx,Uy⟩
      ·rw[Rw (SY hi)]at hy;exact⟨λh=>hi h.1,y,hy,Uy⟩
     obtain⟨Wb,y0,Y5,U3⟩:=hold;obtain⟨u,f1,f2⟩:=d3 bo Vy cur _ _ T7 i' y0 j' e2 s2 zs Y5 U3;exact⟨u,f1,by simpa only[Wb,SX] using f2⟩
  ·exact Yp _
 ·rcases T5 q oq hq with ⟨q1,q2,h⟩|⟨rfl,rfl⟩|⟨rfl,rfl⟩<;>rcases T5 q' XK WX with ⟨q1',q2',h'⟩|⟨rfl,rfl⟩|⟨rfl,rfl⟩
  ·exact hr.inj q q' oq XK b h h' hb UO
  ·exact hr.inj q _ oq o b h ho hb (Zk b UO)
  ·exact absurd (hr.inj q id oq o b h ho hb (Zl b UO)) q1
  ·exact hr.inj _ q' o XK b ho h' (Zk b hb) UO
  ·rfl
  ·exact absurd UO (Um b hb)
  ·exact absurd (hr.inj id q' o XK b ho h' (Zl b hb) UO).symm q1'
  ·exact absurd hb (Um b UO)
  ·rfl
 ·obtain⟨q,hq⟩:=R0.1 ZI;rcases T5 q oq hq with ⟨_,_,h⟩|⟨_,rfl⟩|⟨_,rfl⟩
  ·exact h2 oq (Rk h) hb
  ·exact h2 o (Rk ho) (Zk b hb)
  ·exact h2 o (Rk ho) (Zl b hb)
variable {α β : Type} {l : List α} {enc : α -> List AV}
def hole (l:List α)(enc:α->List AV)(i:Int)(x:List AV):List (List AV):=(l.map enc).set i.toNat x
theorem Mo {i:Int}{u:α}{x:List AV}(h:x=enc u):hole l enc i x=(Sh.put l i u).map enc:=by subst h;exact Mg
theorem IC {i:Int}{u:α}{x:List AV}(h:Sh.get l i=some u):(hole l enc i x)[i.toNat]?=some x:=by
 have:=(Sh.get_some h).2.2;have h0:=(Sh.get_some h).1;exact Rs (by simp;omega)
theorem OE {i:Int}{x y:List AV}:(hole l enc i x).set i.toNat y=hole l enc i y:=by unfold hole;rw[List.set_set]
theorem Wk.Qk {id m g size sz nn j:Nat}{el Vb:TypeId}{i:Int}{c:α}{ys:List β}{encY:β->List AV}{x x':List AV}{e:Nat->AV}{st st':List Row}(T0:st[id]?=some ⟨g,el,size,l.map enc⟩)(hi:Sh.get l i=some c)(hx:enc c=x)(hc:x[j]?=some (.dv Vb sz (ys.map encY)))
  (hm:st.length=m) (Wl:x.set j (.own m 0 ys.length)=x') (T8:st.set id ⟨g,el,size,hole l enc i x'⟩++[⟨0,Vb,sz,ys.map encY⟩]=st') (Zj:sz≠0:=by decide):Wk k ⟨nn,e,st⟩ ⟨nn,e,st'⟩:=by
 subst T8;subst Wl;subst hx;exact Wk.P6 T0 (CN hi) hc hm (n:=ys.length) (by simp) rfl Zj
theorem Wk.take {id m g gm size sz nn j n:Nat}{el Vb:TypeId}{i:Int}{c:α}{ys:List β}{encY:β->List AV}{x x':List AV}{e:Nat->AV}{st st':List Row}(T0:st[id]?=some ⟨g,el,size,hole l enc i x⟩)(hi:Sh.get l i=some c)(hc:x[j]?=some (.own m gm n))
  (hm:st[m]?=some ⟨gm,Vb,sz,ys.map encY⟩) (hn:n=ys.length) (UW:id≠m) (ay:k<=m) (hd :∀y,(encY y).all JE=true) (Wl:x.set j (.dv Vb sz (ys.map encY))=x') (T8:(st.set id ⟨g,el,size,hole l enc i x'⟩).set m ⟨gm+1,Vb,sz,[]⟩=st') :
  Wk k ⟨nn,e,st⟩ ⟨nn,e,st'⟩:=by
 subst T8;subst Wl;refine Wk.Pw T0 (IC hi) hc hm (by simpa using hn) UW ay (λy hy c hc=>?_) (by rw[OE]);obtain⟨z,_,rfl⟩:=R7.1 hy;exact Ru.1 (hd z) c hc
theorem Hb {id g size nn:Nat}{el:TypeId}{i:Int}{u:α}{x:List AV}{e:Nat->AV}{st st':List Row}(T0:st[id]?=some ⟨g,el,size,hole l enc i x⟩)(hx:x=enc u)(T8:st.set id ⟨g,el,size,(Sh.put l i u).map enc⟩=st'):Wk k ⟨nn,e,st⟩ ⟨nn,e,st'⟩:=by
 rw[Mo hx]at T0;have:st.set id ⟨g,el,size,(Sh.put l i u).map enc⟩=st:=by
  obtain⟨h1,h2⟩:=Rm.1 T0;rw[<- h2];exact Tb h1
 rw[this]at T8;exact Fq T8
section
variable {ops : Array Oper} {Q : Exit -> St -> Prop} {ds : List (Option Tmp)} {r : List Oper} {n : Nat} {e : Nat -> AV} {st st' : List Row} {ty : TypeId} {ps : String} {ed : Array Edge} {t : Tmp} {v : AV} {gd : Option (Nat × Bool)} {T : TypeId} {x y : Operand} {ag : Bool} {sz id g size : Nat} {el : TypeId} {cs : List AV} {c : α} {i : Int}
end
end Go.Abs
namespace Go.Abs
open Go
variable {P : Program} {F : Nat -> Prop} {os : List Own} {s : St} {a : Act} {w : World} {k : Nat}
section
variable {α : Type} {l : List α} {enc : α -> List AV}
variable {ops : Array Oper} {Q : Exit -> St -> Prop} {ds : List (Option Tmp)} {r : List Oper} {n : Nat} {e : Nat -> AV} {st st' : List Row} {ty : TypeId} {ps : String} {ed : Array Edge} {t : Tmp} {T : TypeId} {x y : Operand} {m bytes size : Nat} {el : TypeId} {zz : List AV} {u : α} {j : Int} {kk Yn : IntKind}
end
end Go.Abs
namespace Go.Abs
open Go
variable {P : Program} {F : Nat -> Prop} {os : List Own} {s : St} {a : Act} {w : World} {k : Nat}
variable {α β : Type} {l : List α} {enc : α -> List AV}
theorem Wk.OC {id g size nn:Nat}{el:TypeId}{i:Int}{c:α}{x:List AV}{e:Nat->AV}{st st':List Row}(T0:st[id]?=some ⟨g,el,size,hole l enc i x⟩)(hi:Sh.get l i=some c)(hx:x=enc c)(T8:st.set id ⟨g,el,size,l.map enc⟩=st'):Wk k ⟨nn,e,st⟩ ⟨nn,e,st'⟩:=by
 have h2:hole l enc i x=l.map enc:=by
  subst hx;unfold hole;have:=CN (enc:=enc) hi;obtain⟨h1,h2⟩:=Rm.1 this;rw[<- h2];exact Tb h1
 rw[h2]at T0;have:st.set id ⟨g,el,size,l.map enc⟩=st:=by
  obtain⟨h1,h2⟩:=Rm.1 T0;rw[<- h2];exact Tb h1
 rw[this]at T8;exact Fq T8
end Go.Abs
namespace Go.Abs
open Go
theorem Oi {α:Type}{l l':List α}{c:α}{b:Nat}(h:Sh.app l [c] b=some l'):Sh.get l' (Sh.len l)=some c:=by
 unfold Sh.app at h;split at h
 ·simp only[Rn]at h;subst h;unfold Sh.get Sh.len;rw[Ry (Int.natCast_nonneg _)];simp
 ·cases h
section
variable {P : Program} {k : Nat} {α : Type} {l l' : List α} {enc : α -> List AV} {c : α}
variable {ops : Array Oper} {Q : Exit -> St -> Prop} {ds : List (Option Tmp)} {r : List Oper} {n : Nat} {e : Nat -> AV} {st st' : List Row} {ty : TypeId} {ps : String} {ed : Array Edge} {t : Tmp} {gd : Option (Nat × Bool)} {T : TypeId} {x y : Operand} {bytes size id g m q gq size' : Nat} {el Vb : TypeId} {zz cs : List AV}
theorem Pa (hg:GO ds gd e)(he:CJ P T=some ⟨el,size,bytes,zz⟩)(hx:St.ev ⟨n,e,st⟩ x=.own id g m)(hr:st[id]?=some ⟨g,el,size,l.map enc⟩)(hm:m=l.length)(hy:St.ev ⟨n,e,st⟩ y=.own q gq 1)(hq:st[q]?=some ⟨gq,Vb,size',[cs]⟩)
  (Xq:cs.all AV.leaf=true) (WJ:cs.length=size) (ha:Sh.app l [c] bytes=some l') (T8:st.set id ⟨g+1,el,size,hole l' enc (Sh.len l) cs⟩=st') (hk:AO P k ops Q (ds++[some t]) r ⟨n,CD e t (.own id (g+1) l'.length),st'⟩) :
  AO P k ops Q ds (⟨some t,.call ⟨.builtin .append,#[x,y],#[T,T]⟩,ty,ps,ed,gd⟩::r) ⟨n,e,st⟩:=by
 subst T8;subst hm;refine Ek hg ?_;rw[Jo];refine⟨rfl,?_⟩;rw[hx,hy];unfold Sh.app at ha;split at ha
 ·rename_i h;simp only[Rn]at ha;subst ha;refine AL _ he (AL _ hq ⟨rfl,λz hz c hc=>?_,rfl,λz hz=>?_,AL _ hr ⟨rfl,(SB _).symm,rfl,rfl,by simpa using h.1,by simpa using h.2,?_⟩⟩)
  ·simp only[R8]at hz;subst hz;exact Ru.1 Xq c hc
  ·simp only[List.take_one,List.head?_cons,Option.toList_some,R8]at hz;subst hz;exact WJ
  ·have e1:(l.map enc).take l.length=l.map enc:=by rw[<- SB (f:=enc) (as:=l),TB]
   have e3:List.map enc l++[cs]=hole (l++[c]) enc (Sh.len l) cs:=by simp[hole,Sh.len]
   simp only[e1,List.take_one,List.head?_cons,Option.toList_some,e3,Ta];rw[show l.length+1=(l++[c]).length by simp];exact hk
 ·cases ha
end
end Go.Abs
namespace Go.Abs
open Go
variable {P : Program} {F : Nat -> Prop} {os : List Own} {s : St} {a : Act} {w : World} {k : Nat}
variable {α : Type} {l : List α} {enc enc' : α -> List AV} {n id g m size : Nat} {e : Nat -> AV} {st st' : List Row} {L : List (Nat × AV)} {el : TypeId} {xs : List (List AV)}
end Go.Abs
namespace Go.Abs
open Go
variable {P : Program} {F : Nat -> Prop} {os : List Own} {s : St} {a : Act} {w : World} {k : Nat}
section
variable {P : Program} {ops : Array Oper} {Q : Exit -> St -> Prop} {n N f i : Nat} {T3 Un : Array Bool} {e : Nat -> AV} {ty : TypeId} {p : String} {ed : Array Edge} {t : Tmp} {α : Type} {l l2 l' : List α} {enc : α -> List AV} {x y : Operand} {g m size bytes : Nat} {el : TypeId} {zz : List AV} {T : TypeId} {jW : List Row} {k : Nat}
end
section
variable {P : Program} {ds : List (Option Tmp)} {r : List Oper} {KS : St -> Prop} {n : Nat} {e : Nat -> AV} {st : List Row} {ty : TypeId} {ps : String} {ed : Array Edge} {t : Tmp} {gd : Option (Nat × Bool)} {α : Type} {l l' : List α} {enc : α -> List AV} {x : Operand} {size bytes : Nat} {el T : TypeId} {zz : List AV}
end
end Go.Abs
namespace Go.Abs
open Go
section
variable {P : Program} {k : Nat} {ops : Array Oper} {Q : Exit -> St -> Prop} {ds : List (Option Tmp)} {r : List Oper} {n : Nat} {e : Nat -> AV} {st st' : List Row} {ty : TypeId} {p : String} {ed : Array Edge} {t : Tmp} {x y : Operand} {size bytes m : Nat} {el T Tn : TypeId} {zz : List AV} {α : Type} {enc : α -> List AV} {u : α} {l' : List α} {kk : IntKind} {j : Int} {v : AV} {o : Oper}
end
section
variable {P : Program} {ds : List (Option Tmp)} {r : List Oper} {KS : St -> Prop} {n : Nat} {e : Nat -> AV} {st : List Row} {ty : TypeId} {ps : String} {ed : Array Edge} {t : Tmp} {gd : Option (Nat × Bool)} {α : Type} {l : List α} {enc : α -> List AV} {u : α} {x y : Operand} {size bytes : Nat} {el T : TypeId} {zz : List AV} {kk Yn : IntKind} {j : Int}
end
section
variable {P : Program} {k : Nat} {ops : Array Oper} {Q : Exit -> St -> Prop} {ds : List (Option Tmp)} {r : List Oper} {n : Nat} {e : Nat -> AV} {st st' : List Row} {ty : TypeId} {p : String} {ed : Array Edge} {t : Tmp} {x y : Operand} {size bytes m : Nat} {el T : TypeId} {zz : List AV} {kk Yn : IntKind} {c : Nat}
end
end Go.Abs
namespace RC
open Go Go.Abs
end RC
namespace RC
open Go Go.Abs
theorem Og {α:Type}{l:List α}{enc enc':α->List AV}(h :∀x,DU (enc x)=enc' x):DQ (l.map enc)=l.map enc':=by
 rw[CQ,Sq];exact R4 λx _=>h x
theorem P3 (n:Int):DU (eI n)=eI n:=rfl
def Ap (ti:Nat)(c:Cell):List AV:=[.int .i64 c.count,.int .i64 c.tag,.dv ti 1 (c.fields.map eI)]
theorem Cj {ti:Nat}(c:Cell):DU (Ap ti c)=AI c:=by
 simp only[Ap,DU,HI,Og P3,AI]
end RC
namespace RC
open Go Go.Abs
end RC
namespace RC
open Go Go.Abs
end RC
namespace Go.Abs
open Go
variable {P : Program} {n : Nat} {e : Nat -> AV} {st : List Row} {t : Tmp} {ty : TypeId} {ps : String} {ed : Array Edge} {x : Operand}
end Go.Abs
namespace Go.Abs
open Go
section
variable {P : Program} {k : Nat} {ops : Array Oper} {Q : Exit -> St -> Prop} {N f i : Nat} {T3 Un : Array Bool} {s s' : St} {o : Oper}
end
section
variable {P : Program} {n : Nat} {e : Nat -> AV} {st : List Row} {t : Tmp} {ty : TypeId} {ps : String} {ed : Array Edge} {x : Operand}
end
section
variable {P : Program} {k : Nat} {α : Type} {l : List α} {enc : α -> List AV}
variable {ops : Array Oper} {Q : Exit -> St -> Prop} {ds : List (Option Tmp)} {r : List Oper} {n : Nat} {e : Nat -> AV} {st st' : List Row} {ty : TypeId} {ps : String} {ed : Array Edge} {v : AV} {gd : Option (Nat × Bool)} {T : TypeId} {x y : Operand} {ag : Bool} {sz id g size off : Nat} {el : TypeId} {cs cs' : List AV} {c : α} {i : Int}
end
end Go.Abs
namespace Go.Abs
open Go
end Go.Abs
namespace RC
open Go Go.Abs
end RC
namespace RC
end RC
