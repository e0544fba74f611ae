import Derived.Test.YtccficmcdkcpnaaGreatAbsW
import Derived.Lib.AppendZerosOnto
import Derived.OrdersHeld
set_option linter.all false
namespace Go.Abs
open Go
def VE:AV->Bool
 | .int ..|.bool _|.str _|.zc|.R3|.Rl|.dv ..=>true
 | _=>false
def Vw (xs:List (List AV)):Prop:=∀x∈xs,∀c∈x,VE c=true
theorem aU {F S:Nat->Prop}{w:World}{os:List Own}{c:AV}{u:Value}(hc:VE c=true)(hd :∀e s ys,c≠.dv e s ys)(h:Ac F w os c u):FQ S w c u:=by
 cases c<;>simp only[VE,py]at hc<;>simp only[Ac]at h<;>simp only[FQ]<;>first|exact h|exact absurd rfl (hd _ _ _)
theorem aw {F S:Nat->Prop}{w:World}{os:List Own}{c:AV}{u:Value}(h:FQ S w c u):Ac F w os c u/\c.kept=true/\VE c=true:=by
 cases c<;>simp only[FQ]at h
 case dv=>
  refine⟨?_,rfl,rfl⟩;simp only[Ac];rcases h.2 with ⟨_,a,rfl⟩|⟨b,cap,cur,rfl,_⟩<;>exact⟨_,_,_,rfl⟩
 all_goals first|exact h.elim|exact⟨by simp only[Ac];exact h,rfl,rfl⟩
theorem ZT {w:World}{cur:Array Value}{D:Nat->Nat->Prop}(wq :∀j j' b,D j b->D j' b->j=j'):∀(x:List AV) (o j0:Nat),(∀(j:Nat) c,x[j]?=some c->∃u,cur[o+j]?=some u/\FQ (D (j0+j)) w c u)->
  Ol (λb=>∃j,j0<=j/\D j b) w x cur o
 | [],_,_,_=>by simp[Ol]
 | c::r,o,j0,h=>by
  simp only[Ol];obtain⟨u,h1,h2⟩:=h 0 c rfl;refine⟨D j0,λb=>∃j,j0+1<=j/\D j b,λb hb=>⟨j0,qU _,hb⟩,λb ⟨j,hj,hb⟩=>⟨j,by omega,hb⟩,λb hb ⟨j,hj,vy⟩=>by have:=wq _ _ _ hb vy;omega,⟨u,h1,h2⟩,?_⟩;exact ZT wq r (o+1) (j0+1) λj c hc=>by
   obtain⟨u,h1,h2⟩:=h (j+1) c (by simpa using hc);exact⟨u,by rw[<- h1];congr 1;omega,by rw[show j0+1+j=j0+(j+1) by omega];exact h2⟩
theorem ZM {w:World}{cur:Array Value}{size:Nat}{D:Nat->Nat->Nat->Prop}(wq :∀i j i' j' b,D i j b->D i' j' b->i=i'/\j=j'):∀(xs:List (List AV)) (o i0:Nat),(∀x∈xs,x.length=size)->
  (∀(i:Nat) x,xs[i]?=some x->∀(j:Nat) c,x[j]?=some c->∃u,cur[o+i*size+j]?=some u/\FQ (D (i0+i) j) w c u)->Ob (λb=>∃i j,i0<=i/\D i j b) w xs cur o
 | [],_,_,_,_=>by simp[Ob]
 | x::r,o,i0,hs,h=>by
  simp only[Ob];refine⟨λb=>∃j,0<=j/\D i0 j b,λb=>∃i j,i0+1<=i/\D i j b,λb ⟨j,_,hb⟩=>⟨i0,j,qU _,hb⟩,λb ⟨i,j,hi,hb⟩=>⟨i,j,by omega,hb⟩,λb ⟨j,_,hb⟩ ⟨i,j',hi,vy⟩=>by have:=(wq _ _ _ _ _ hb vy).1;omega,?_,?_⟩
  ·exact ZT (D:=D i0) (λj j' b h1 h2=>(wq _ _ _ _ _ h1 h2).2) x o 0 λj c hc=>by
    obtain⟨u,h1,h2⟩:=h 0 x rfl j c hc;exact⟨u,by rw[<- h1];congr 1;omega,by simpa using h2⟩
  ·rw[hs x (by simp)];exact ZM wq r (o+size) (i0+1) (λx hx=>hs x (by simp[hx])) λi y hy j c hc=>by
    obtain⟨u,h1,h2⟩:=h (i+1) y (by simpa using hy) j c hc;exact⟨u,by rw[<- h1];congr 1;rw[qn];omega,by rw[show i0+1+i=i0+(i+1) by omega];exact h2⟩
variable {P : Program} {F : Nat -> Prop} {os : List Own} {s : St} {a : Act} {w : World} {k : Nat}
theorem WW {p:Own}(h:Pu F w os p)(hd:Vw p.row.xs){v:Value}(hv:(p.GB=none/\∃a,v=.slice a p.row.xs.length 0)∨∃b,p.GB=some b/\v=.slice (some ⟨b,0,none⟩) p.row.xs.length p.cap):
  FQ p.owns w (.dv p.row.elem p.row.size p.row.xs) v:=by
 simp only[FQ];refine⟨h.pos,?_⟩;rcases hv with ⟨hb,a,rfl⟩|⟨b,hb,rfl⟩
 ·have:=(h.none hb).1;exact .inl ⟨this,a,by rw[this];rfl⟩
 ·obtain⟨_,cur,vU,vY,hle,xQ,vR⟩:=h.some b hb;obtain⟨D,d1,d2,d3⟩:=h.deep;refine .inr ⟨b,p.cap,cur,rfl,hle,xQ,.inl hb,vU,vY,λx hx=>(h.lens x hx).1,?_⟩;have:=ZM (w:=w) (cur:=cur) (size:=p.row.size) d2 p.row.xs 0 0 (λx hx=>(h.lens x hx).1) (λi x hx j c hc=>by
   simp only[rT];by_cases hdv :∃e s ys,c=.dv e s ys
   ·obtain⟨e,s,ys,rfl⟩:=hdv;exact d3 b hb cur _ _ vU i x j e s ys hx hc
   ·obtain⟨u,g1,g2⟩:=vR i x hx j c hc;exact⟨u,g1,aU (hd x (pt hx) c (pt hc)) (λe s ys e'=>hdv ⟨e,s,ys,e'⟩) g2⟩)
  exact Rx (λc ⟨i,j,_,hc⟩=>⟨.inr (d1 i j c hc),λe=>(h.mo c (d1 i j c hc)).2.2 (by rw[hb,e])⟩) (λ_ _=>rfl) _ _ _ this
theorem UG {id m g gm size sz n i j nn:Nat}{el el':TypeId}{xs ys:List (List AV)}{x:List AV}{e:Nat->AV}{st st':List Row}(uj:st[id]?=some ⟨g,el,size,xs⟩)(hx:xs[i]?=some x)(hc:x[j]?=some (.own m gm n))
  (hm:st[m]?=some ⟨gm,el',sz,ys⟩) (hn:n=ys.length) (vZ:id≠m) (xE:k<=m) (hd:Vw ys) (vX:(st.set id ⟨g,el,size,xs.set i (x.set j (.dv el' sz ys))⟩).set m ⟨gm+1,el',sz,[]⟩=st') :
  Wk k ⟨nn,e,st⟩ ⟨nn,e,st'⟩:=λF os a w hr=>by
 subst vX;subst hn;obtain⟨o,ho,hor⟩:=hr.row uj;obtain⟨p,hp,hpr⟩:=hr.row hm;have vF:=hr.rows id o ho;have zH:=hr.rows m p hp;have vX:os.map Own.row=st:=hr.st;have zI:o.row.xs=xs:=by rw[hor]
 have hpx:p.row.xs=ys:=by rw[hpr]
 let o':Own:={ o with row:={ o.row with xs:=xs.set i (x.set j (.dv el' sz ys)) },more:=λb=>o.more b∨p.owns b }
 let p':Own:=⟨{ p.row with gen:=p.row.gen+1,xs:=[] },none,0,Ga⟩
 have wz:i<xs.length:=(px.1 hx).1;have zB:j<x.length:=(px.1 hc).1;have hidl:=(px.1 ho).1;have zY:=(px.1 hp).1;have wq:∀b,o.owns b->¬ p.owns b:=λb h1 h2=>vZ (hr.inj id m o p b ho hp h1 h2);have vJ:∀(q:Nat) (oq:Own),((os.set id o').set m p')[q]?=some oq->(q≠id/\q≠m/\os[q]?=some oq)∨(q=id/\oq=o')∨(q=m/\oq=p'):=λq oq hq=>by
  by_cases e:q=m
  ·subst e;rw[qI (by simpa using zY),pz]at hq;exact .inr (.inr ⟨rfl,hq.symm⟩)
  ·rw[qZ (rX e)]at hq;by_cases e2:q=id
   ·subst e2;rw[qI hidl,pz]at hq;exact .inr (.inl ⟨rfl,hq.symm⟩)
   ·rw[qZ (rX e2)]at hq;exact .inl ⟨e2,e,hq⟩
 have vq:F8 os ((os.set id o').set m p'):=λq oq hq=>by
  by_cases e:q=m
  ·subst e;rw[hp]at hq;cases hq;exact⟨p',qI (by simpa using zY),Nat.le_succ _,rfl,λe=>by simp[p']at e⟩
  ·rw[qZ (rX e)];by_cases e2:q=id
   ·subst e2;rw[ho]at hq;cases hq;exact⟨o',qI hidl,qU _,rfl,λ_=>⟨rfl,rfl,by simp[o',zI]⟩⟩
   ·rw[qZ (rX e2)];exact⟨oq,hq,qU _,rfl,λ_=>⟨rfl,rfl,rfl⟩⟩
 have vL:∀y v,Ac F w os y v->Ac F w ((os.set id o').set m p') y v:=λy v h=>Ds (λ_ h=>h) (λ_ _=>rfl) os _ vq y v h;have howns:∀b,o'.owns b->o.owns b∨p.owns b:=λb hb=>by
  rcases hb with hb|hb|hb
  ·exact .inl (.inl hb)
  ·exact .inl (.inr hb)
  ·exact .inr hb
 have hpn:∀b,¬ p'.owns b:=λb hb=>by
  rcases hb with hb|hb
  ·simp[p']at hb
  ·exact hb
 obtain⟨bo,hbo⟩ :∃b,o.GB=some b:=by
  cases hb:o.GB with
  | none=>have:=(vF.none hb).1;rw[zI]at this;rw[this]at wz;simp at wz
  | some b=>exact⟨b,rfl⟩
 obtain⟨hnF,cur,vU,vY,hle,xQ,vR⟩:=vF.some bo hbo;obtain⟨uv,hu1,xg⟩:=vR i x (by rw[zI];exact hx) j _ hc;have huv:(p.GB=none/\∃a,uv=.slice a p.row.xs.length 0)∨∃b,p.GB=some b/\uv=.slice (some ⟨b,0,none⟩) p.row.xs.length p.cap:=by
  simp only[Ac]at xg;obtain⟨q,hq,_,_,hv⟩:=xg;rw[hp]at hq;cases hq;have:=(hv (by rw[hpr])).2;rw[hpx]at this⊢;simpa only[sK,tP,tm] using this
 have hRD:FQ p.owns w (.dv el' sz ys) uv:=by
  have:=WW zH (by rw[hpx];exact hd) huv;rw[hpr]at this;exact this
 refine⟨F,(os.set id o').set m p',⟨?_,λt=>vL _ _ (hr.env t),hr.size,λq oq hq=>?_,λq q' oq oq' b hq hq' hb vy=>?_,hr.HO,hr.defers⟩,⟨rfl,rfl,rfl,qU _,λ_ h=>h,λ_ _=>rfl,λb _ h1 h2=>⟨rfl,h1,λoq hoq hb=>?_⟩,λq oq _ hq=>vq q oq hq⟩⟩
 ·rw[rh,rh,vX];simp only[o',p',hor,hpr]
 ·rcases vJ q oq hq with ⟨_,_,h⟩|⟨_,rfl⟩|⟨_,rfl⟩
  ·have h0:=hr.rows q oq h;refine⟨h0.pos,h0.lens,h0.none,λb hb=>?_,h0.mo,h0.deep⟩;obtain⟨e1,cur,e2,e3,e4,e5,e6⟩:=h0.some b hb;exact⟨e1,cur,e2,e3,e4,e5,λi' y hy j' c hc=>by obtain⟨u,f1,f2⟩:=e6 i' y hy j' c hc;exact⟨u,f1,vL _ _ f2⟩⟩
  ·refine⟨vF.pos,λy hy=>?_,(λhn=>by simp only[o']at hn;rw[hbo]at hn;cases hn),λb hb=>?_,λb hb=>?_,?_⟩
   ·rcases rB hy with hy|rfl
    ·exact vF.lens y (by rw[zI];exact hy)
    ·have h0:=vF.lens x (by rw[zI];exact pt hx);refine⟨by rw[tp];exact h0.1,λc xH=>?_⟩;rcases rB xH with h|rfl
     ·exact h0.2 c h
     ·rfl
   ·simp only[o']at hb;rw[hbo]at hb;cases hb;refine⟨hnF,cur,vU,vY,by simpa [o',zI] using hle,xQ,λi' y hy j' c yJ=>?_⟩;simp only[o']at hy⊢;by_cases hi:i'=i
    ·subst hi;rw[qI wz,pz]at hy;subst hy;by_cases hj:j'=j
     ·subst hj;rw[qI zB,pz]at yJ;subst yJ;exact⟨uv,hu1,(aw hRD).1⟩
     ·rw[qZ (rX hj)]at yJ;obtain⟨u,f1,f2⟩:=vR i' x (by rw[zI];exact hx) j' c yJ;exact⟨u,f1,vL _ _ f2⟩
    ·rw[qZ (rX hi)]at hy;obtain⟨u,f1,f2⟩:=vR i' y (by rw[zI];exact hy) j' c yJ;exact⟨u,f1,vL _ _ f2⟩
   ·rcases hb with hb|hb
    ·exact vF.mo b hb
    ·exact⟨zH.nF hb,zH.lt hb,λe=>wq b (.inl e) hb⟩
   ·obtain⟨D,d1,d2,d3⟩:=vF.deep;refine⟨λi' j' b=>if i'=i/\j'=j then p.owns b else D i' j' b,λi' j' b hb=>?_,λi1 j1 i2 j2 b h1 h2=>?_,λb hb cur' el2 l wO i' y j' e2 s2 zs hy yJ=>?_⟩
    ·simp only at hb;split at hb
     ·exact .inr hb
     ·exact .inl (d1 i' j' b hb)
    ·simp only at h1 h2;split at h1<;>split at h2
     ·rename_i q1 q2;exact⟨q1.1.trans q2.1.symm,q1.2.trans q2.2.symm⟩
     ·exact absurd h1 (wq b (.inr (d1 _ _ _ h2)))
     ·exact absurd h2 (wq b (.inr (d1 _ _ _ h1)))
     ·exact d2 _ _ _ _ _ h1 h2
    ·simp only[o']at hb hy⊢;rw[hbo]at hb;cases hb;rw[vU]at wO;cases wO;by_cases hij:i'=i/\j'=j
     ·obtain⟨rfl,rfl⟩:=hij;rw[qI wz,pz]at hy;subst hy;rw[qI zB,pz]at yJ;cases yJ;exact⟨uv,hu1,by simpa using hRD⟩
     ·have hold:∃y0,o.row.xs[i']?=some y0/\y0[j']?=some (.dv e2 s2 zs):=by
       rw[zI];by_cases hi:i'=i
       ·subst hi;rw[qI wz,pz]at hy;subst hy;have hj:j'≠j:=λe=>hij ⟨rfl,e⟩;rw[qZ (rX hj)]at yJ;exact⟨x,hx,yJ⟩
       ·rw[qZ (rX hi)]at hy;exact⟨y,hy,yJ⟩
      obtain⟨y0,hy0,wZ⟩:=hold;obtain⟨u,f1,f2⟩:=d3 bo hbo cur _ _ vU i' y0 j' e2 s2 zs hy0 wZ;exact⟨u,f1,by simpa only[hij,qR] using f2⟩
  ·exact⟨zH.pos,by simp[p'],by simp[p'],by simp[p'],λb hb=>hb.elim,E7 (by simp[p'])⟩
 ·rcases vJ q oq hq with ⟨q1,q2,h⟩|⟨rfl,rfl⟩|⟨_,rfl⟩<;>rcases vJ q' oq' hq' with ⟨q1',q2',h'⟩|⟨rfl,rfl⟩|⟨_,rfl⟩
  ·exact hr.inj q q' oq oq' b h h' hb vy
  ·rcases howns b vy with e|e
   ·exact hr.inj q _ oq o b h ho hb e
   ·exact absurd (hr.inj q m oq p b h hp hb e) q2
  ·exact absurd vy (hpn b)
  ·rcases howns b hb with e|e
   ·exact hr.inj _ q' o oq' b ho h' e vy
   ·exact absurd (hr.inj m q' p oq' b hp h' e vy).symm q2'
  ·rfl
  ·exact absurd vy (hpn b)
  ·exact absurd hb (hpn b)
  ·exact absurd hb (hpn b)
  ·exact absurd hb (hpn b)
 ·obtain⟨q,hq⟩:=qf.1 hoq;rcases vJ q oq hq with ⟨_,_,h⟩|⟨_,rfl⟩|⟨_,rfl⟩
  ·exact h2 oq (pt h) hb
  ·rcases howns b hb with e|e
   ·exact h2 o (pt ho) e
   ·exact h2 p (pt hp) e
  ·exact hpn b hb
end Go.Abs
namespace Go.Abs
open Go
variable {P : Program} {F : Nat -> Prop} {os : List Own} {s : St} {a : Act} {w : World} {k : Nat}
variable {α β : Type} {l : List α} {enc : α -> List AV}
section
variable {ops : Array Oper} {Q : Exit -> St -> Prop} {ds : List (Option Tmp)} {r : List Oper} {n : Nat} {e : Nat -> AV} {st st' : List Row} {ty : TypeId} {ps : String} {ed : Array Edge} {t : Tmp} {v : AV} {gd : Option (Nat × Bool)} {T : TypeId} {x y : Operand} {ag : Bool} {sz id g size : Nat} {el : TypeId} {cs : List AV} {c : α} {i : Int}
end
end Go.Abs
namespace Go.Abs
open Go
variable {P : Program} {F : Nat -> Prop} {os : List Own} {s : St} {a : Act} {w : World} {k : Nat}
section
variable {α : Type} {l : List α} {enc : α -> List AV}
variable {ops : Array Oper} {Q : Exit -> St -> Prop} {ds : List (Option Tmp)} {r : List Oper} {n : Nat} {e : Nat -> AV} {st st' : List Row} {ty : TypeId} {ps : String} {ed : Array Edge} {t : Tmp} {T : TypeId} {x y : Operand} {m bytes size : Nat} {el : TypeId} {zz : List AV} {u : α} {j : Int} {kk yr : IntKind}
end
end Go.Abs
namespace Go.Abs
open Go
variable {P : Program} {F : Nat -> Prop} {os : List Own} {s : St} {a : Act} {w : World} {k : Nat}
variable {α β : Type} {l : List α} {enc : α -> List AV}
end Go.Abs
namespace Go.Abs
open Go
section
variable {P : Program} {k : Nat} {α : Type} {l l' : List α} {enc : α -> List AV} {c : α}
variable {ops : Array Oper} {Q : Exit -> St -> Prop} {ds : List (Option Tmp)} {r : List Oper} {n : Nat} {e : Nat -> AV} {st st' : List Row} {ty : TypeId} {ps : String} {ed : Array Edge} {t : Tmp} {gd : Option (Nat × Bool)} {T : TypeId} {x y : Operand} {bytes size id g m q gq size' : Nat} {el el' : TypeId} {zz cs : List AV}
end
end Go.Abs
namespace Go.Abs
open Go
variable {P : Program} {F : Nat -> Prop} {os : List Own} {s : St} {a : Act} {w : World} {k : Nat}
def R8 (id g:Nat)(xs:List (List AV)):AV->AV
 | .own vr g' n=>if vr=id/\g'=g then (if n=xs.length then .sl (NQ xs) else .FZ) else .own vr g' n
 | v=>v
def lR (id g:Nat)(xs:List (List AV)):AV->AV
 | .agg cs=>.agg (cs.map (R8 id g xs))
 | .Dv cs=>.Dv (cs.map (R8 id g xs))
 | v=>R8 id g xs v
theorem Wk.lI {id:Nat}{row:Row}(yV:k<=id)(uj:s.st[id]?=some row)(hp:Vw row.xs):
  Wk k s ⟨s.n,λt=>lR id row.gen row.xs (s.env t),s.st.set id { row with gen:=row.gen+1,xs:=[] }⟩:=λF os a w hr=>by
 obtain⟨o,ho,rfl⟩:=hr.row uj;have vF:=hr.rows id o ho;refine⟨λb=>F b∨o.owns b,os.set id ⟨{ o.row with gen:=o.row.gen+1,xs:=[] },none,0,Ga⟩,?_,?_⟩
 case refine_2=>
  refine⟨rfl,rfl,rfl,qU _,λ_ h=>.inl h,λ_ _=>rfl,λb _ h1 h2=>⟨rfl,λh=>h.elim h1 (λe=>h2 o (pt ho) e),λo' vc=>?_⟩,λi oi hi xm=>⟨oi,?_,qU _,rfl,λ_=>⟨rfl,rfl,rfl⟩⟩⟩
  ·rcases rB vc with h|rfl
   ·exact h2 o' h
   ·intro hh;rcases hh with hh|hh
    ·simp at hh
    ·exact hh
  ·rw[qZ (by omega)];exact xm
 have hF:∀b,F b->(λb=>F b∨o.owns b) b:=λ_ h=>.inl h;have vq:F8 os (os.set id ⟨{ o.row with gen:=o.row.gen+1,xs:=[] },none,0,Ga⟩):=F8.set ho (by simp) rfl (λe=>by simp at e);have vL:∀x v,Ac F w os x v->Ac (λb=>F b∨o.owns b) w (os.set id ⟨{ o.row with gen:=o.row.gen+1,xs:=[] },none,0,Ga⟩) x v:=λx v h=>
  Ds hF (λ_ _=>rfl) os _ vq x v h
 have h1:∀x v,Ac F w os x v->Ac (λb=>F b∨o.owns b) w (os.set id ⟨{ o.row with gen:=o.row.gen+1,xs:=[] },none,0,Ga⟩) (R8 id o.row.gen o.row.xs x) v:=λx v h=>by
  cases x with
  | own vr g' n=>
   simp only[R8];split
   ·rename_i hif;obtain⟨rfl,rfl⟩:=hif;split
    ·rename_i hn0;subst hn0;simp only[Ac]at h;obtain⟨o',vc,_,_,h⟩:=h;rw[ho]at vc;cases vc;obtain⟨_,hv⟩:=h rfl;have hD:=WW vF hp (v:=v) (by simpa only[sK,tP,tm] using hv);have:=(VW (F:=λb=>F b∨o.owns b) (λb hb=>.inr hb) _ _ hD).1;simp only[TI,Ac]at this⊢;exact this
    ·simp[Ac]
   ·exact vL _ _ h
  | _=>exact vL _ _ h
 have hL:∀xs us,Bw F w os xs us->Bw (λb=>F b∨o.owns b) w (os.set id ⟨{ o.row with gen:=o.row.gen+1,xs:=[] },none,0,Ga⟩) (xs.map (R8 id o.row.gen o.row.xs)) us:=λxs us h=>
  Df (by simp[BW h]) λi x u hx hu=>by
   simp only[qA,qB]at hx;obtain⟨y,hy,rfl⟩:=hx;obtain⟨u',e1,e2⟩:=CJ h i y hy;rw[hu]at e1;cases e1;exact h1 _ _ e2
 have vJ:∀(i:Nat) (oi:Own),(os.set id ⟨{ o.row with gen:=o.row.gen+1,xs:=[] },none,0,Ga⟩)[i]?=some oi->(i≠id/\os[i]?=some oi)∨(i=id/\oi=⟨{ o.row with gen:=o.row.gen+1,xs:=[] },none,0,Ga⟩):=λi oi hi=>by
  by_cases e:i=id
  ·subst e;rw[qI (px.1 ho).1,pz]at hi;exact .inr ⟨rfl,hi.symm⟩
  ·rw[qZ (rX e)]at hi;exact .inl ⟨e,hi⟩
 refine⟨by rw[rh,hr.st],λt=>?_,hr.size,λi oi hi=>?_,λi j oi oj b hi hj wP xC=>?_,λb hb=>?_,hr.defers⟩
 ·have:=hr.env t;simp only;generalize s.env t=x at this⊢;cases x with
  | agg cs=>simp only[lR,Ac]at this⊢;obtain⟨us,e,h⟩:=this;exact⟨us,e,hL _ _ h⟩
  | Dv cs=>simp only[lR,Ac]at this⊢;obtain⟨us,e,h⟩:=this;exact⟨us,e,hL _ _ h⟩
  | _=>exact h1 _ _ this
 ·rcases vJ i oi hi with ⟨vZ,h⟩|⟨_,rfl⟩
  ·have xJ:=hr.rows i oi h;refine⟨xJ.pos,xJ.lens,xJ.none,λb hb=>?_,λb hb=>⟨λhF=>hF.elim (xJ.mo b hb).1 (λxp=>vZ (hr.inj i id oi o b h ho (.inr hb) xp)),(xJ.mo b hb).2⟩,xJ.deep⟩;obtain⟨e1,cur,e2,e3,e4,e5,e6⟩:=xJ.some b hb;refine⟨λhF=>hF.elim e1 (λxp=>vZ (hr.inj i id oi o b h ho (.inl hb) xp)),cur,e2,e3,e4,e5,λi' x hx j c hc=>?_⟩;obtain⟨u,f1,f2⟩:=e6 i' x hx j c hc;exact⟨u,f1,vL _ _ f2⟩
  ·exact⟨vF.pos,by simp,by simp,by simp,λb hb=>hb.elim,E7 (by simp)⟩
 ·rcases vJ i oi hi with ⟨vZ,h⟩|⟨h,rfl⟩<;>rcases vJ j oj hj with ⟨hne',h'⟩|⟨h',rfl⟩
  ·exact hr.inj i j oi oj b h h' wP xC
  ·exact xC.elim (λe=>by simp at e) λe=>e.elim
  ·exact wP.elim (λe=>by simp at e) λe=>e.elim
  ·omega
 ·rcases hb with hb|hb|hb
  ·exact hr.HO b hb
  ·obtain⟨_,cur,vU,_⟩:=vF.some b hb;exact (qv.1 vU).1
  ·exact (vF.mo b hb).2.1
variable {α : Type} {l : List α} {enc xD : α -> List AV} {n id g m size : Nat} {e : Nat -> AV} {st st' : List Row} {L : List (Nat × AV)} {el : TypeId} {xs : List (List AV)}
theorem fG (h:m=l.length)(hu :∀x,LI (enc x)=xD x):R8 id g (l.map enc) (.own id g m)=.sl (l.map xD):=by
 subst h;simp only[R8,and_self,qe,qc];rw[JD,ra];congr 1;exact qk λx _=>hu x
theorem le.R8 (h:m=l.length)(hu :∀x,LI (enc x)=xD x):le (Abs.R8 id g (l.map enc) (.own id g m)) (.sl (l.map xD)):=le.of (fG h hu)
theorem Q4 (h :∀x,(enc x).all VE=true):Vw (l.map enc):=λx hx c hc=>by
 obtain⟨y,_,rfl⟩:=qT.1 hx;exact qC.1 (h y) c hc
theorem Wk.oT (uj:st[id]?=some ⟨g,el,size,xs⟩)(yV:k<=id)(hp:Vw xs)(h:ME (λt=>Abs.lR id g xs (e t)) L)(vX:st.set id ⟨g+1,el,size,[]⟩=st'):Wk k ⟨n,e,st⟩ ⟨n,AL L,st'⟩:=by
 subst vX;exact (Wk.lI (s:=⟨n,e,st⟩) yV uj hp).trans (ET h)
end Go.Abs
namespace Go.Abs
open Go
variable {P : Program} {F : Nat -> Prop} {os : List Own} {s : St} {a : Act} {w : World} {k : Nat}
def oI (x:AV):AV:=bif flat x then x else .FZ
theorem kE {F':Nat->Prop}{w':World}(hF :∀b,F b->F' b)(hw :∀b,F b->w'.heap[b]?=w.heap[b]?)(os':List Own){x:AV}{v:Value}(h:Ac F w os x v):Ac F' w' os' (oI x) v:=by
  unfold oI;cases hf:flat x with
  | false=>simp[Ac]
  | true=>exact J1 hf os' (Ds hF hw [] [] (by simp) x v (J1 hf [] h))
def mU (x:AV):AV:=bif flat x then x else match x with
  | .ptr (id+1) g i off=>.ptr (id+1) g i off
  | _=>.FZ
theorem kq {F':Nat->Prop}{w':World}(hF :∀b,F b->F' b)(hw :∀b,F b->w'.heap[b]?=w.heap[b]?){o o':Own}{xS:List Own}{x:AV}{v:Value}(h:Ac F w (o::xS) x v):Ac F' w' (o'::xS) (mU x) v:=by
  unfold mU;cases hf:flat x with
  | true=>exact J1 hf _ (Ds hF hw [] [] (by simp) x v (J1 hf [] h))
  | false=>
    cases x<;>simp only[cond_false]<;>try simp[Ac]
    rename_i id g i off;cases id with
    | zero=>simp[Ac]
    | succ id=>
      simp only[Ac,qq]at h⊢;exact h
theorem Um {P:Program}{ops:Array Oper}{md:Region.Mode}{Q Q':Exit->Act->World->Prop}(hp :∀c a w,Q (.panic c) a w->Q' (.panic c) a w)(hlo:LetsOut Q->LetsOut Q')(hn :∀a w,Q .normal a w->Q' .normal a w):
    ∀(fuel:Nat) {uU:Array Bool} {a:Act} {w:World},wpAny P md ops Q fuel uU a w->wpAny P md ops Q' fuel uU a w
  | 0,_,_,_,h=>⟨h.1,hn _ _ h.2⟩
  | fuel+1,uU,a,w,h=>by
    refine⟨λh0=>hn _ _ (h.1 h0),λi hi=>?_⟩;have:=h.2 i hi;unfold wpOp at this⊢;split
    · rename_i ho;simp only[ho]at this;exact Um hp hlo hn fuel this
    · rename_i o ho;simp only[ho]at this;split
      · rename_i hw;rw[qF hw]at this;exact this.imp (λh=>Qh hp hlo (Oper.wp_mono (λa w h=>Um hp hlo hn fuel h) h)) λh=>⟨h.1,hlo h.2⟩
      · rename_i hw;rw[qG hw]at this;exact Um hp hlo hn fuel this
def gU (row yb:Row)(Q:Exit->St->Prop):Exit->St->Prop:=λex s'=>(∃r,s'.st=yb::r)/\Q ex ⟨s'.n,λt=>oI (s'.env t),[row]⟩
theorem Td {xs:List (List AV)}(hp:D0 xs){o:Own}(vF:Pu F w os o)(hx:o.row.xs=xs):∀x∈xs,∀c∈x,c.leaf=true:=λx hm c hc=>by
  have h1:=hp x hm c hc;have h2:=(vF.lens x (by rw[hx];exact hm)).2 c hc;cases c<;>simp_all [simple,AV.leaf,AV.kept]
theorem ie {Q:Exit->St->Prop}{o:Own}{xS:List Own}{g:Nat}{el:TypeId}{size b0:Nat}{xs ys:List (List AV)}(hp:D0 (xs++ys))(uj:o.row=⟨g,el,size,xs⟩)(hb0:o.GB=some b0)(hnF:¬ F b0){w1:World}(ht:Iy w w1 (some b0))
    {e:Exit} {a':Act} {w':World} (h:Mk 1 (gU ⟨g,el,size,xs⟩ ⟨g,el,size,xs++ys⟩ Q) F (⟨⟨g,el,size,xs++ys⟩,some b0,o.cap,o.more⟩::xS) w1 e a' w') (hold :∀b,F b->b<w.heap.size):Mk 1 Q F (o::xS) w e a' w':=by
  obtain⟨s',F',os',⟨⟨rst',vX⟩,hQ⟩,hR,hE⟩:=h;have vq:∃o' ros',os'=o'::ros'/\o'.row=⟨g,el,size,xs++ys⟩:=by
    have:=hR.st;rw[vX]at this;cases os' with
    | nil=>cases this
    | cons o' ros'=>
      simp only[qj,sT]at this;exact⟨o',ros',rfl,this.1⟩
  obtain⟨o',ros',rfl,hrow'⟩:=vq;obtain⟨o2,e2,_,_,e3⟩:=hE.dA 0 _ (by omega) rfl;simp only[qg,pz]at e2;subst e2;obtain⟨e4,e5,_⟩:=e3 (by rw[hrow']);dsimp only at e4 e5;have hok':=hR.rows 0 o' rfl;have vw:=Td hp hok' (by rw[hrow']);have hF:∀b,F b->w1.heap[b]?=w.heap[b]?:=λb hb=>ht.HO b (hold b hb) (λe=>hnF (by cases e;exact hb));refine⟨_,F',[{ o' with row:=⟨g,el,size,xs⟩ }],hQ,⟨rfl,λt=>kE (λ_ h=>h) (λ_ _=>rfl) _ (hR.env t),hR.size,λi oi hi=>?_,λi j oi oj b hi hj wP xC=>?_,hR.HO,hR.defers⟩,?_⟩
  · match i,hi with
    | 0,hi=>
      simp only[qg,pz]at hi;subst hi;refine⟨by have:=hok'.pos;rw[hrow']at this;exact this,λx hx=>?_,λhn=>(by rw[e4]at hn;cases hn),λb hb=>?_,λb hb=>hok'.mo b hb,E7 λx hx c hc=>vw x (rE _ hx) c hc⟩
      · have:=hok'.lens x (by rw[hrow'];exact rE _ hx);rw[hrow']at this;exact this
      · obtain⟨h1,cur,h2,h3,h4,h5,h6⟩:=hok'.some b hb;rw[hrow']at h2 h3 h4 h6;refine⟨h1,cur,h2,h3,by simp only[qQ]at h4⊢;omega,h5,λi x hx j c hc=>?_⟩;obtain⟨u,f1,f2⟩:=h6 i x (by simp only at hx⊢;rw[qK (px.1 hx).1];exact hx) j c hc;exact⟨u,f1,Fu (hp x (rE _ (pt hx)) c (pt hc)) _ f2⟩
  · match i,j,hi,hj with
    | 0,0,_,_=>rfl
  · refine⟨hE.sys.trans ht.sys,hE.tape.trans ht.tape,hE.output.trans ht.output,tl ht.size hE.size,hE.RI,λb hb=>(hE.KX b hb).trans (hF b hb),λb hb h1 h2=>?_,λi oi hi xm=>?_⟩
    · have vZ:b≠b0:=λe=>h2 o (by simp) (.inl (by rw[e];exact hb0));have hnm:¬ o.more b:=λhm=>h2 o (by simp) (.inr hm);obtain⟨f1,f2,f3⟩:=hE.other b (rW hb ht.size) h1 (λq hq xp=>by
        rcases qH.1 hq with rfl|hq
        · rcases xp with xp|xp
          · simp only[pz]at xp;exact vZ xp.symm
          · exact hnm xp
        · exact h2 q (by simp[hq]) xp)
      refine⟨f1.trans (ht.HO b hb (λe=>vZ (by cases e;rfl))),f2,λq hq xp=>?_⟩;simp only[qO]at hq;subst hq;exact f3 o' (by simp) xp
    · match i,xm with
      | 0,xm=>
        simp only[qg,pz]at xm;subst xm;exact⟨_,rfl,by rw[uj];exact qU _,by rw[uj],λ_=>⟨by rw[hb0];exact e4,e5,by rw[uj]⟩⟩
      | _+1,_=>omega
theorem bJ {t ty:TypeId}{ei:fI}{g:Nat}{xs:List (List AV)}{ys:List (List AV)}{y:AV}{ux ud:Value}(hr:Rel F os s a w){zQ:List Row}(vX:s.st=⟨g,ei.e,ei.size,xs⟩::zQ)(hrst :∀row∈zQ,D0 row.xs)(he:DR P t=some ei)
    (hd:Ac F w os (.own 0 g xs.length) ud) (hx:Ac F w os y ux) (hel:EL s.st y ys) (hys :∀z∈ys,z.length=ei.size) (hp:D0 (xs++ys)) (vZ:ys≠[]) (hb:(xs.length+ys.length)*ei.bytes<=140737488355328) (hm:xs.length+ys.length<=9223372036854775807) :
    ∃o xS u w',os=o::xS/\o.row=⟨g,ei.e,ei.size,xs⟩/\(Builtin.append_ #[t,t] ty #[ud,ux]).run P w=.ok u w'/\
      ((∃b0,o.GB=some b0/\¬ F b0/\Iy w w' (some b0)/\Rel F (⟨⟨g,ei.e,ei.size,xs++ys⟩,some b0,o.cap,o.more⟩::xS) ⟨s.n,λt=>mU (s.env t),⟨g,ei.e,ei.size,xs++ys⟩::zQ⟩ a w'/\
          u=.slice (some ⟨b0,0,none⟩) (xs.length+ys.length) o.cap)∨
       (∃cap,Rel F (os++[⟨⟨0,ei.e,ei.size,xs++ys⟩,some w.heap.size,cap,Ga⟩]) { s with st:=s.st++[⟨0,ei.e,ei.size,xs++ys⟩] } a w'/\Ext F os w F (os++[⟨⟨0,ei.e,ei.size,xs++ys⟩,some w.heap.size,cap,Ga⟩]) w' k/\
          u=.slice (some ⟨w.heap.size,0,none⟩) (xs.length+ys.length) cap)):=by
  obtain⟨inf,z,hu,hi,hz,xh,ve,vY,hby,_,_⟩:=Ii he;obtain⟨xW,h,hys',hylf,⟨ad,c,rfl,hsrc⟩⟩:=XQ (size:=ei.size) (K:=λz=>z=ys) hr (hel _ ⟨hys,rfl⟩) hx;subst h;have vq:∃o xS,os=o::xS/\o.row=⟨g,ei.e,ei.size,xs⟩/\xS.map Own.row=zQ:=by
    have:=hr.st;rw[vX]at this;cases os with
    | nil=>cases this
    | cons o xS=>
      simp only[qj,sT]at this;exact⟨o,xS,rfl,this.1,this.2⟩
  obtain⟨o,xS,rfl,uj,hros⟩:=vq;have hylf:∀y∈xW,∀c∈y,c.leaf=true:=by
    rcases hylf with e|h
    · exact absurd e vZ
    · exact h
  have hylen:0<xW.length:=tM.2 vZ;have hnews:∃b off,ad=some ⟨b,off,none⟩/\∃us:List Value,us.length=xW.length*inf.size/\(∀(j:Nat) u,us[j]?=some u->w.cell? ((⟨b,off,none⟩:Addr).add j)=some u)/\(∀u∈us,u.oneCell'=true)/\Ha F w (o::xS) ei.size us xW:=by
    rcases hsrc with e|⟨b,off,rfl,hc⟩
    · exact absurd e vZ
    · obtain⟨us,h1,h2,h3,h4⟩:=SZ hys' hc;exact⟨b,off,rfl,us,by rw[h1,vY],h2,h3,h1,λi y hy j c hc=>by obtain⟨u,e1,_,e2⟩:=h4 i y hy j c hc;exact⟨u,e1,e2⟩⟩
  obtain⟨b,off,rfl,us,zC,vn,yW,hrep⟩:=hnews;have vF:=hr.rows 0 o rfl;have hxlf:=Td (xs:=xs) (λx hx=>hp x (rE _ hx)) vF (by rw[uj]);have wG:∀x∈xs++xW,x.length=ei.size/\∀c∈x,c.leaf=true:=λx hx=>by
    rcases qb.1 hx with h|h
    · have:=(vF.lens x (by rw[uj];exact h)).1;rw[uj]at this;exact⟨this,hxlf x h⟩
    · exact⟨hys' x h,hylf x h⟩
  have hgrow:∀(cap:Nat) (wK:List Value),Ha F w (o::xS) ei.size wK xs->xs.length+xW.length<=cap->cap<=maxLen->
      Rel F ((o::xS)++[⟨⟨0,ei.e,ei.size,xs++xW⟩,some w.heap.size,cap,Ga⟩]) { s with st:=s.st++[⟨0,ei.e,ei.size,xs++xW⟩] } a (w.drew.alloc (.cells (wK.toArray++us.toArray++Builtin.zeroCells z.cells (cap-(xs.length+xW.length))) ei.e))/\
      Ext F (o::xS) w F ((o::xS)++[⟨⟨0,ei.e,ei.size,xs++xW⟩,some w.heap.size,cap,Ga⟩]) (w.drew.alloc (.cells (wK.toArray++us.toArray++Builtin.zeroCells z.cells (cap-(xs.length+xW.length))) ei.e)) k:=λcap wK hold yU xQ=>by
    obtain⟨e1,e2⟩:=Qt (F:=F) (w:=w) (os:=o::xS) (z:=z) (size:=ei.size) (n:=xs.length) (m:=xW.length) (cap:=cap) (by rw[xh,vY]) rfl rfl hold hrep yU;have:=hr.Pa (k:=k) (.inr rfl) (cur:=_) (e:=ei.e) (size:=ei.size) (cap:=cap) (xs:=xs++xW) (by omega) wG e1 (by simpa using yU) xQ (λi x hx j c hc=>e2 i x hx j c hc);exact⟨this.1,this.2.1⟩
  have yn:=grownCap_ge w (xs.length+xW.length);have hlem:=sx w (xs.length+xW.length);simp only[Ac]at hd;obtain⟨o',vc,_,_,hd⟩:=hd;simp only[qg,pz]at vc;subst vc;obtain⟨_,hd⟩:=hd (by rw[uj]);rw[uj]at hd;simp only[sK,tP,tm]at hd;rcases hd with ⟨zj,a0,rfl⟩|⟨b0,LU,rfl⟩
  · have hn0:=(vF.none zj).1;rw[uj]at hn0;dsimp only at hn0;subst hn0;have vT:(Builtin.append_ #[t,t] ty #[.slice a0 0 0,.slice (some ⟨b,off,none⟩) xW.length c]).run P w=.ok (.slice (some ⟨w.heap.size,0,none⟩) (0+xW.length) (grownCap w (0+xW.length) 0 ei.e))
        (w.drew.alloc (.cells (([]:List Value).toArray++us.toArray++Builtin.zeroCells z.cells (grownCap w (0+xW.length) 0 ei.e-(0+xW.length))) ei.e)):=by
      cases a0 with
      | none=>
        have:=run_append_nil (P:=P) w t ty ei.e inf z hu hi hz ⟨b,off,none⟩ xW.length c us zC vn (by omega) (by simp at hm;omega) (by rw[<- hby];simp at hb;omega);simpa using this
      | some a0=>
        have:=sv (P:=P) w t ty ei.e inf z hu hi hz a0 0 0 [] (by simp) (by simp) ⟨b,off,none⟩ xW.length c us zC vn (by omega) (by omega) (tD (by simp at hm;omega) (by rw[<- hby];simpa using hb));simpa using this
    have hgg:=hgrow (grownCap w (0+xW.length) 0 ei.e) [] (by simp[Ha]) (by simpa using yn 0 ei.e) (by simpa using hlem 0 ei.e (by simp[maxLen]at hm⊢;omega));exact⟨o,xS,_,_,rfl,uj,vT,.inr ⟨_,hgg.1,hgg.2,rfl⟩⟩
  · obtain⟨hnF,cur,vU,xV,hlc,hmaxc,vR⟩:=vF.some b0 LU;rw[uj]at vU xV hlc vR;dsimp only at vU xV hlc vR;by_cases hroom:xs.length+xW.length<=o.cap
    · have wh:xs.length*inf.size+us.length<=cur.size:=by rw[zC,xV,vY,<- qn];exact qo _ hroom
      have vT:=run_append_room (P:=P) w t ty ei.e inf hu hi b0 xs.length o.cap cur vU ⟨b,off,none⟩ xW.length c us zC vn yW hroom wh;have hT:=Iy.setRow w b0 (cur.toList.take (xs.length*inf.size)++us++cur.toList.drop (xs.length*inf.size+us.length)).toArray;have hF:∀g,F g->(w.setRow b0 (cur.toList.take (xs.length*inf.size)++us++cur.toList.drop (xs.length*inf.size+us.length)).toArray).heap[g]?=w.heap[g]?:=λg hg=>hT.HO g (hr.HO g hg) (λe=>hnF (by cases e;exact hg));refine⟨o,xS,_,_,rfl,uj,vT,.inl ⟨b0,LU,hnF,hT,⟨by simp only[qj,hros],λt=>kq (λ_ h=>h) hF (hr.env t),hr.size,λi oi hi=>?_,λi j oi oj b hi hj wP xC=>?_,λg hg=>rW (hr.HO g hg) hT.size,hr.defers⟩,rfl⟩⟩
      · match i,hi with
        | 0,hi=>
          simp only[qg,pz]at hi;subst hi;have xH:∀c u,simple c=true->Ac F w (o::xS) c u->∀os',Ac F (w.setRow b0 (cur.toList.take (xs.length*inf.size)++us++cur.toList.drop (xs.length*inf.size+us.length)).toArray) os' c u:=λc u hc h os'=>
            Fu hc os' (Ds (λ_ h=>h) hF [] [] (by simp) c u (Fu hc [] h))
          refine⟨by have:=vF.pos;rw[uj]at this;exact this,λx hx=>⟨(wG x hx).1,λc hc=>Du ((wG x hx).2 c hc)⟩,λhn=>(by cases hn),λb' vy=>?_,λg hg=>⟨(vF.mo g hg).1,by simpa using (vF.mo g hg).2.1,by rw[<- LU];exact (vF.mo g hg).2.2⟩,E7 λx hx c hc=>(wG x hx).2 c hc⟩;simp only[pz]at vy;subst vy;refine⟨hnF,_,tZ w b0 cur _ _ _ vU,?_,by simpa using hroom,hmaxc,λi y hy j c hc=>?_⟩
          · simp only[sY,qQ,sM,sB,sG]at wh⊢;rw[<- xV];omega
          · simp only at hy⊢;rw[MG wh];by_cases wE:i<xs.length
            · rw[qK wE]at hy;obtain⟨u,f1,f2⟩:=vR i y hy j c hc;have zB:j<ei.size:=by rw[<- (wG y (rE _ (pt hy))).1];exact (px.1 hc).1
              have:(i+1)*ei.size<=xs.length*ei.size:=qo _ wE;rw[qn]at this;refine⟨u,?_,xH c u (hp y (rE _ (pt hy)) c (pt hc)) f2 _⟩;rw[qF (by rw[<- vY];omega)];exact f1
            · rw[qS (by omega)]at hy;obtain⟨u,f1,f2⟩:=hrep.2 _ y hy j c hc;refine⟨u,?_,xH c u (hp y (sO _ (pt hy)) c (pt hc)) f2 _⟩;have vS:=(px.1 f1).1;have h3:xs.length*ei.size<=i*ei.size:=qo _ (by omega);rw[Nat.sub_mul]at f1 vS;rw[qG (by rw[<- vY];omega),qF (by rw[<- vY];omega),<- f1];congr 1;rw[<- vY];omega
        | i+1,hi=>
          simp only[qq]at hi;have xm:=hr.rows (i+1) oi (by simpa using hi);have hpi:D0 oi.row.xs:=hrst oi.row (by rw[<- hros];exact sI (pt hi));have hlfi:=Td hpi xm rfl;have hni:∀b,oi.owns b->b≠b0:=λb hb e=>by
            have:=hr.inj (i+1) 0 oi o b (by simpa using hi) rfl hb (.inl (by rw[e];exact LU));omega
          refine⟨xm.pos,xm.lens,xm.none,λb hb=>?_,λb hb=>⟨(xm.mo b hb).1,rW (xm.mo b hb).2.1 hT.size,(xm.mo b hb).2.2⟩,E7 hlfi⟩;obtain⟨f1,cur',f2,f3,f4,f5,f6⟩:=xm.some b hb;refine⟨f1,cur',?_,f3,f4,f5,λi' x hx j c hc=>?_⟩
          · rw[hT.HO b (xm.lt (.inl hb)) (λe=>hni b (.inl hb) (by cases e;rfl))];exact f2
          · obtain⟨u,g1,g2⟩:=f6 i' x hx j c hc;have yY:=hpi x (pt hx) c (pt hc);exact⟨u,g1,Fu yY _ (Ds (λ_ h=>h) hF [] [] (by simp) c u (Fu yY [] g2))⟩
      · have key:∀(i:Nat) oi b,((⟨⟨g,ei.e,ei.size,xs++xW⟩,some b0,o.cap,o.more⟩:Own)::xS)[i]?=some oi->oi.owns b->∃oi',(o::xS)[i]?=some oi'/\oi'.owns b:=λi oi b hi hb=>by
          cases i with
          | zero=>
            simp only[qg,pz]at hi;subst hi;exact⟨o,rfl,hb.imp (λhb=>by rw[LU];exact hb) id⟩
          | succ i=>exact⟨oi,hi,hb⟩
        obtain⟨oi',q1,q2⟩:=key i oi b hi wP;obtain⟨oj',q3,q4⟩:=key j oj b hj xC;exact hr.inj i j oi' oj' b q1 q3 q2 q4
    · have hold:∀(i:Nat) y,xs[i]?=some y->Oh F w (o::xS) b0 (0+i*ei.size) y:=λi y hy=>by
        have:=hr.Si (id:=0) (o:=o) rfl LU (i:=i) (x:=y) (by rw[uj];exact hy);rw[uj]at this;simpa using this
      obtain⟨wK,h1,h2,_,h4⟩:=SZ (λx hx=>(wG x (rE _ hx)).1) hold;have vT:=sv (P:=P) w t ty ei.e inf z hu hi hz ⟨b0,0,none⟩ xs.length o.cap wK (by rw[h1,vY]) h2 ⟨b,off,none⟩ xW.length c us zC vn (by omega) (by omega) (tD (by omega) (by rw[<- hby];exact hb));have hgg:=hgrow (grownCap w (xs.length+xW.length) o.cap ei.e) wK ⟨h1,λi y hy j c hc=>by obtain⟨u,f1,_,f2⟩:=h4 i y hy j c hc;exact⟨u,f1,f2⟩⟩ (yn o.cap ei.e) (hlem o.cap ei.e (by simp[maxLen];omega));exact⟨o,xS,_,_,rfl,uj,vT,.inr ⟨_,hgg.1,hgg.2,rfl⟩⟩
section
variable {P : Program} {ops : Array Oper} {Q : Exit -> St -> Prop} {n N f i : Nat} {uU listed' : Array Bool} {e : Nat -> AV} {ty : TypeId} {p : String} {ed : Array Edge} {t : Tmp} {α : Type} {l l2 l' : List α} {enc : α -> List AV} {x y : Operand} {g m size bytes : Nat} {el : TypeId} {zz : List AV} {T : TypeId} {zQ : List Row} {k : Nat}
theorem Ks (h:uU=listed'){s:St}(ha:AX P k ops Q N f uU s):AX P k ops Q N f listed' s:=h▸ha
theorem AX.two (row yb:Row){s:St}(h :∀A A':Nat->Array Bool->St->Prop,(∀f l s,A f l s↔AX P k ops Q N f l s)->(∀f l s,A' f l s↔AX P k ops (gU row yb Q) N f l s)->A f uU s):AX P k ops Q N f uU s:=
  h (AX P k ops Q N) (AX P k ops (gU row yb Q) N) (λ_ _ _=>Iff.rfl) (λ_ _ _=>Iff.rfl)
theorem NB {s:St}(h :∀A:Nat->Array Bool->St->Prop,(∀f l s,A f l s↔AX P k ops Q N f l s)->A f uU s):AX P k ops Q N f uU s:=
  h (AX P k ops Q N) (λ_ _ _=>Iff.rfl)
theorem L7 {ys:AV}(ho:ops[i]?=some ⟨some t,.call ⟨.builtin .append,#[x,y],#[T,T]⟩,ty,p,ed,none⟩)(hod:DG n (some t)=true)(he:DR P T=some ⟨el,size,bytes,zz⟩)(hrst :∀row∈zQ,D0 row.xs)(hx:St.ev ⟨n,e,⟨g,el,size,l.map enc⟩::zQ⟩ x=.own 0 g m)(hm:m=l.length)(hy:St.ev ⟨n,e,⟨g,el,size,l.map enc⟩::zQ⟩ y=ys)(hel:EL (⟨g,el,size,l.map enc⟩::zQ) ys (l2.map enc))
    (yQ:l2.isEmpty=false) (hs :∀a,(enc a).length=size) (hp :∀l:List α,D0 (l.map enc)) (ha:Sh.app l l2 bytes=some l')
    (h1:AX P 1 ops (gU ⟨g,el,size,l.map enc⟩ ⟨g,el,size,l'.map enc⟩ Q) N f (uU.setIfInBounds i true) ⟨n,Dr (λt=>mU (e t)) t (.own 0 g l'.length),⟨g,el,size,l'.map enc⟩::zQ⟩)
    (h2:AX P 1 ops Q N f (uU.setIfInBounds i true) ⟨n,Dr e t (.own (zQ.length+1) 0 l'.length),⟨g,el,size,l.map enc⟩::(zQ++[⟨0,el,size,l'.map enc⟩])⟩) :
    KQ P 1 ops Q N f uU ⟨n,e,⟨g,el,size,l.map enc⟩::zQ⟩ i:=by
  subst hm;unfold Sh.app at ha;split at ha
  case isFalse=>cases ha
  rename_i hbd;simp only[pz]at ha;subst ha;intro F0 os0 w0 F os a w hr he0;have hxr:=hr.ev x;rw[hx]at hxr;have hyr:=hr.ev y;rw[hy]at hyr;have hpp:=hp (l++l2);rw[rM]at hpp h1 h2;obtain⟨o,xS,u,w',rfl,uj,vT,hA⟩:=bJ (k:=1) (ty:=ty) (ei:=⟨el,size,bytes,zz⟩) (g:=g) (xs:=l.map enc) (ys:=l2.map enc) hr rfl hrst he (by simpa using hxr) hyr hel
    (λz hz=>by obtain⟨q,_,rfl⟩:=qT.1 hz;exact hs q) hpp (by intro e;rw[List.map_eq_nil_iff]at e;rw[e]at yQ;cases yQ) (by simpa using hbd.1) (by simpa using hbd.2)
  unfold wpOp;simp only[ho];rw[qF (by rfl)];refine .inl ?_;unfold Oper.wp;simp only[execOp,resolve,invoke,builtin,qs,rH,qp,th,qj,rf,vT,Oper.upon];rcases hA with ⟨b0,LU,hnF,hT,hR,rfl⟩|⟨cap,hR,hE,rfl⟩
  · have h3:=h1.2 F _ w' F _ _ w' (hR.put (d:=some t) hod (v:=.own 0 g (l++l2).length) (u:=.slice (some ⟨b0,0,none⟩) ((l.map enc).length+(l2.map enc).length) o.cap) (by
      simp only[Ac];exact⟨_,rfl,qU _,⟨_,_,_,rfl⟩,λ_=>⟨by simp,.inr ⟨b0,rfl,by simp⟩⟩⟩)) (Ext.refl _ _ _ _)
    refine Um (λc a'' w'' hp=>?_) (λhl=>?_) (λa'' w'' hp=>?_) _ h3
    · obtain⟨_,_,_,h4,_⟩:=hp;exact nomatch h4.1
    · obtain⟨_,_,h4,_⟩:=hl;exact nomatch h4
    obtain⟨s',F',os',⟨h4,h5⟩,h6,h7⟩:=hp;obtain⟨s2,F2,os2,h8,h9,h10⟩:=ie (Q:=λe s=>e=.normal/\Q e s) hpp uj LU hnF hT ⟨s',F',os',⟨h5.1,h4,h5.2⟩,h6,h7⟩ hr.HO;exact⟨s2,F2,os2,h8,h9,he0.trans h10⟩
  · refine h2.2 F0 os0 w0 F _ _ w' ?_ (he0.trans hE);have hlen:xS.length=zQ.length:=by
      have:=hr.st;simp only[qj,sT]at this;rw[<- this.2,qc]
    refine hR.put (d:=some t) hod (v:=.own (zQ.length+1) 0 (l++l2).length) ?_;simp only[Ac];exact⟨⟨⟨0,el,size,l.map enc++l2.map enc⟩,some w.heap.size,cap,Ga⟩,by rw[<- hlen];simp,qU _,⟨_,_,_,rfl⟩,λ_=>⟨by simp,.inr ⟨_,rfl,by simp⟩⟩⟩
end
section
variable {P : Program} {ds : List (Option Tmp)} {r : List Oper} {KS : St -> Prop} {n : Nat} {e : Nat -> AV} {st : List Row} {ty : TypeId} {ps : String} {ed : Array Edge} {t : Tmp} {gd : Option (Nat × Bool)} {α : Type} {l l' : List α} {enc : α -> List AV} {x : Operand} {size bytes : Nat} {el T : TypeId} {zz : List AV}
theorem fM {lo hi:Option Operand}{i j:Int}(hg:GO ds gd e)(he:DR P T=some ⟨el,size,bytes,zz⟩)(hx:St.ev ⟨n,e,st⟩ x=.sl (l.map enc))(h1:Vi (lo.map (St.ev ⟨n,e,st⟩)) 0=some i)(h2:Vi (hi.map (St.ev ⟨n,e,st⟩)) l.length=some j)(hs :∀a,(enc a).length=size)(hl:Sh.sl l i j=some l')
    (hk:Dp P (ds++[some t]) r KS ⟨n,Dr e t (.sl (l'.map enc)),st⟩):Dp P ds (⟨some t,.slice T x lo hi none,ty,ps,ed,gd⟩::r) KS ⟨n,e,st⟩:=by
  refine eW hg rfl (λs0 e1 e2 hd k F os a w hr next Q hn=>?_) hk;refine Mo (k:=k) (K:=(·=s0.put (some t) (.sl (l'.map enc)))) hr hd ?_ hn;show W1 P s0.st T (s0.ev x) (lo.map s0.ev) (hi.map s0.ev) (Option.map s0.ev none) (λv st=>({ s0 with st:=st }:St).put (some t) v=s0.put (some t) (.sl (l'.map enc)));have ex:s0.ev x=St.ev ⟨n,e,st⟩ x:=e2 x (by simp[Op.operands]);have elo:lo.map s0.ev=lo.map (St.ev ⟨n,e,st⟩):=by
    cases lo with
    | none=>rfl
    | some y=>simp only[qx];rw[e2 y (by simp[Op.operands])]
  have ehi:hi.map s0.ev=hi.map (St.ev ⟨n,e,st⟩):=by
    cases hi with
    | none=>rfl
    | some y=>simp only[qx];rw[e2 y (by simp[Op.operands])]
  rw[ex,elo,ehi,hx];unfold Sh.sl at hl;split at hl
  · rename_i h;simp only[pz]at hl;subst hl;refine An _ he (An _ h1 (An _ (by rw[qc];exact h2) ⟨h.1,h.2.1,by simpa using h.2.2,λz hz=>?_,?_⟩))
    · obtain⟨q,_,rfl⟩:=qT.1 hz;exact hs q
    · rw[List.map_drop,List.map_take]
  · cases hl
theorem XZ {f:FuncId}{vf:Array Operand}{ts:Array TypeId}{args vV:List AV}{rowsP rows0 rows1 rows1':List Row}{v v':AV}(sel:List Nat)(hg:GO ds gd e)(hb:Cr P f=true)(hc:BS P f vV rows0 λr st=>r=v/\st=rows1)(ha:vf.toList.map (St.ev ⟨n,e,st⟩)++[]=args)(wc:sel.Nodup)(vS:sel.all (·<st.length)=true)
    (hp:CD st sel=rowsP) (hs:SR sel rowsP rows0) (hf:args.map (Jx sel)=vV) (hlen:rows1.length=sel.length) (h1:UN sel st.length rows1 rows1') (hv:SU sel st.length v=v') (xK:Fc sel rows1' 0 st=st)
    (hk:Dp P (ds++[some t]) r KS ⟨n,Dr e t v',st⟩):Dp P ds (⟨some t,.call ⟨.value (.func f),vf,ts⟩,ty,ps,ed,gd⟩::r) KS ⟨n,e,st⟩:=by
  subst ha;subst hv;subst hp;refine eW hg rfl (λs0 e1 e2 hd k F os a w hr next Q hn=>?_) hk;refine Mo (k:=k) (K:=(·=s0.put (some t) (SU sel st.length v))) hr hd ?_ hn;show Cr P f=true/\callThen P k s0 f (vf.toList.map s0.ev++[]) (some t) _;rw[Uv e2];refine⟨hb,MO λhle=>?_⟩;subst e1;obtain⟨e1,e3⟩:=hs.spec (st0:=s0.st) hle (λrow uj=>by
    obtain⟨i,_,hi⟩:=rQ.1 uj;exact pt hi)
  refine NO (rows2:=[]) sel (by simpa using hc) wc (λi hi=>by simpa using qC.1 vS i hi) e1 e3 hf hlen (λrow uj=>by
    rw[rY]at uj;exact h1.leaf row uj) λ_=>?_
  simp only[h1.spec,rf,rY,xK]
end
end Go.Abs
namespace Go.Abs
open Go
section
variable {P : Program} {k : Nat} {ops : Array Oper} {Q : Exit -> St -> Prop} {ds : List (Option Tmp)} {r : List Oper} {n : Nat} {e : Nat -> AV} {st st' : List Row} {ty : TypeId} {p : String} {ed : Array Edge} {t : Tmp} {x y : Operand} {size bytes m : Nat} {el T Tn : TypeId} {zz : List AV} {α : Type} {enc : α -> List AV} {u : α} {l' : List α} {kk : IntKind} {j : Int} {v : AV} {o : Oper}
theorem ab (hn:o.guard=none)(h :∀F os a w,Rel F os ⟨n,e,st⟩ a w->∃z w' F' os',(execOp a.eval o).run P w=.ok (.value z) w'/\Rel F' os' ⟨n,e,st'⟩ a w'/\Ac F' w' os' v z/\Ext F os w F' os' w' k)
  (hk:AO P k ops Q (ds++[o.dst]) r (St.put ⟨n,e,st'⟩ o.dst v)):AO P k ops Q ds (o::r) ⟨n,e,st⟩:=by
 intro hl zE vu F os a w hr Q' hQ;have ho:ops[ds.length]?=some o:=by have:=hl 0;simpa using this.symm
 have hod:DG n o.dst=true:=vu o (by have:=pt (l:=ops.toList) (i:=ds.length) (by simpa using ho);exact this);have yk :∀(j:Nat),r[j]?=ops[(ds++[o.dst]).length+j]?:=λj=>by
  have:=hl (j+1);simp only[qq]at this;rw[this];congr 1;simp;omega
 have zV :∀(j:Nat) d,(ds++[o.dst])[j]?=some d->(ops[j]?).map (·.dst)=some d:=λj d hj=>by
  rcases rb j ds.length with h1|h1|h1
  ·rw[qK h1]at hj;exact zE j d hj
  ·subst h1;rw[KU,pz]at hj;rw[ho];simp[hj]
  ·rw[rR (by simp;omega)]at hj;cases hj
 obtain⟨z,w',F',os',h1,h2,h3,h4⟩:=h F os a w hr;unfold wpList;rw[qF (by unfold Region.wanted;rw[hn])];refine .inl ?_;unfold Oper.wp;rw[h1];simp only[Oper.upon];refine hk yk zV (by cases o.dst<;>exact vu) F' os' _ w' (h2.put hod h3) Q' λ_ _ _ hp=>hQ _ _ _ (hp.trans h4)
theorem dS (hs:DB P T=true)(hx:St.ev ⟨n,e,st⟩ x=.zc)(hk:AO P k ops Q (ds++[some t]) r ⟨n,Dr e t (i64 0),st⟩):
  AO P k ops Q ds (⟨some t,.call ⟨.builtin .cap,#[x],#[T]⟩,ty,p,ed,none⟩::r) ⟨n,e,st⟩:=by
 refine ab rfl (st':=st) (v:=i64 0) (λF os a w hr=>?_) hk;have h1:=hr.ev x;rw[hx]at h1;simp only[Ac]at h1;obtain⟨ad,h1⟩:=h1;unfold DB at hs;split at hs
 case h_2=>cases hs
 rename_i el hu;refine⟨.int .i64 0,w,F,os,?_,hr,by simp[Ac],Ext.refl _ _ _ _⟩;simp only[execOp,resolve,invoke,builtin,qs,rH,qp,th,qj,rf,h1,Builtin.cap_];simp[rD hu,goInt]
theorem lh {hi:Option Operand}(he:DR P T=some ⟨el,size,bytes,zz⟩)(hx:St.ev ⟨n,e,st⟩ x=.zc)(h2:Vi (hi.map (St.ev ⟨n,e,st⟩)) 0=some 0)
  (hk:AO P k ops Q (ds++[some t]) r ⟨n,Dr e t .zc,st⟩):AO P k ops Q ds (⟨some t,.slice T x none hi none,ty,p,ed,none⟩::r) ⟨n,e,st⟩:=by
 refine PX AT ?_;rw[VC];simp only[tq];rw[hx];exact An _ he (An _ rfl (An _ h2 ⟨rfl,rfl,hk⟩))
theorem jq {kn:IntKind}(he:DR P T=some ⟨el,size,bytes,zz⟩)(hn:P.underlying Tn=some (.int kn))(hx:St.ev ⟨n,e,st⟩ x=.zc)(hy:St.ev ⟨n,e,st⟩ y=.int kk j)(h0:decide (0<j)=true)(hz:enc u=zz)(hj:Sh.mk u j bytes=some l')(hm:st.length=m)(vX:st++[⟨0,el,size,l'.map enc⟩]=st')
  (hk:AO P k ops Q (ds++[some t]) r ⟨n,Dr e t (.own m 0 l'.length),st'⟩):AO P k ops Q ds (⟨some t,.call ⟨.builtin .append,#[x,y],#[T,Tn]⟩,ty,p,ed,none⟩::r) ⟨n,e,st⟩:=by
 subst hm;subst vX;subst hz;unfold Sh.mk at hj;split at hj
 case isFalse=>cases hj
 rename_i hbd;simp only[pz]at hj;subst hj;refine ab rfl (st':=st++[(⟨0,el,size,(List.replicate j.toNat u).map enc⟩:Row)]) (v:=.own st.length 0 (List.replicate j.toNat u).length) (λF os a w hr=>?_) hk;have h1:=hr.ev x;rw[hx]at h1;simp only[Ac]at h1;obtain⟨ad,h1⟩:=h1;have h2:=hr.ev y;rw[hy]at h2;simp only[Ac]at h2;obtain⟨inf,z,hu,hi,hz,xh,ve,vY,hby,hzz,vw⟩:=Ii he;dsimp only at hu hi xh ve vY hby hzz vw;have hj0:0<j:=rV h0;obtain⟨q,rfl⟩:=qu (Int.le_of_lt hj0);rw[rv];have hq0:0<q:=by omega
 have hq48:q*inf.bytes<=281474976710656:=by
  have h9:((q*bytes:Nat):Int)<=281474976710656:=by rw[sq];exact hbd.2.1
  rw[<- hby];omega
 have hold:(Builtin.firstCells inf.size 0 (.slice ad 0 0)).run P w.drew=.ok ([]:List Value).toArray w.drew:=by
  cases ad with
  | none=>exact run_firstCells_none w.drew inf.size 0 0 0
  | some ad=>exact run_firstCells_some w.drew inf.size 0 ad 0 0 [] (by simp) (by simp)
 have wh:Builtin.nextslicecap (0+q) 0*inf.bytes<=281474976710656:=by rw[rT,nextslicecap_zero hq0];exact hq48
 have vT:=Lib.run_append_grow_zeros (P:=P) w T Tn ty el inf z kk kn hu hn hi hz ad 0 0 [] hold q hq0 (by omega) (by omega) (by omega) hq48 wh;rw[rT]at vT;have yn:=grownCap_ge w q 0 el;have hle:=sx w q 0 el (by unfold maxLen;omega);have hzc:∀i,i<z.cells.size->∃c',z.cells[i]?=some c':=λi hi=>⟨_,rU hi⟩;have xT:=hr.Pa (k:=k) (.inr rfl) (cur:=([]:List Value).toArray++Builtin.zeroCells z.cells q++Builtin.zeroCells z.cells (grownCap w q 0 el-q)) (e:=el) (size:=size) (cap:=grownCap w q 0 el) (xs:=(List.replicate q u).map enc)
  (by omega) (λx hx=>by
   rw[tT]at hx;rw[List.eq_of_mem_replicate hx,hzz];refine⟨by simp[xh,vY],λc hc=>vw c (by rw[hzz];exact hc)⟩)
  (by
   simp only[Array.size_append,sY,qt,size_zeroCells,xh,vY,rT,<- qn];congr 1;omega)
  (by rw[qc,List.length_replicate];omega) hle (λi x hx jj c hc=>by
   rw[tT]at hx;have hi:i<q:=by
    have:=(px.1 hx).1;simpa using this
   have ym:x=enc u:=List.eq_of_mem_replicate (pt hx);subst ym;rw[hzz]at hc;simp only[qA,qB,ry]at hc;obtain⟨c',hc1,rfl⟩:=hc;have zB:jj<z.cells.size:=(qv.1 hc1).1;refine⟨c',?_,OI F w os c'⟩;have vS:i*size+jj<q*size:=by
    have:(i+1)*size<=q*size:=qo _ hi;rw[qn]at this;omega
   rw[Array.append_assoc,show (([]:List Value).toArray++(Builtin.zeroCells z.cells q++Builtin.zeroCells z.cells (grownCap w q 0 el-q)))=(Builtin.zeroCells z.cells q++Builtin.zeroCells z.cells (grownCap w q 0 el-q)) by simp];rw[ru (by rw[size_zeroCells,xh,<- vY];exact vS)];unfold Builtin.zeroCells;rw[Array.getElem?_map,Array.getElem?_range];rw[qF (by rw[xh,<- vY];exact vS)];simp only[qx,pz];have zT:(i*size+jj) % z.cells.size=jj:=by
    rw[xh,<- vY,tO,Nat.mul_add_mod];exact sf (by omega)
   rw[zT];simp[Array.getElem!_eq_getD,Array.getD,zB,(qv.1 hc1).2])
 refine⟨.slice (some ⟨w.heap.size,0,none⟩) q (grownCap w q 0 el),_,F,_,?_,xT.1,?_,xT.2.1⟩
 ·simp only[execOp,resolve,invoke,builtin,qs,rH,qp,th,qj,rf,h1,h2];rw[vT];simp
 ·simp only[Ac];have hlen:st.length=os.length:=hr.len;exact⟨_,by rw[hlen];exact KU _ _,qU _,⟨_,_,_,rfl⟩,λ_=>⟨by simp,.inr ⟨_,rfl,by simp⟩⟩⟩
end
section
variable {P : Program} {ds : List (Option Tmp)} {r : List Oper} {KS : St -> Prop} {n : Nat} {e : Nat -> AV} {st : List Row} {ty : TypeId} {ps : String} {ed : Array Edge} {t : Tmp} {gd : Option (Nat × Bool)} {α : Type} {l : List α} {enc : α -> List AV} {u : α} {x y : Operand} {size bytes : Nat} {el T : TypeId} {zz : List AV} {kk yr : IntKind} {j : Int}
theorem ml (hg:GO ds gd e)(he:DR P T=some ⟨el,size,bytes,zz⟩)(hx:St.ev ⟨n,e,st⟩ x=.int kk j)(hy:St.ev ⟨n,e,st⟩ y=.int yr j)(hz:enc u=zz)(hl:Sh.mk u j bytes=some l)(hpu:D0 (l.map enc))
  (hk:Dp P (ds++[some t]) r KS ⟨n,Dr e t (.sl (l.map enc)),st⟩):Dp P ds (⟨some t,.makeSlice T x y,ty,ps,ed,gd⟩::r) KS ⟨n,e,st⟩:=by
 subst hz;refine eW hg rfl (λs0 e1 e2 hd k F os a w hr next Q hn=>?_) hk;have ex:s0.ev x=.int kk j:=(e2 x (by simp[Op.operands])).trans hx;have ey:s0.ev y=.int yr j:=(e2 y (by simp[Op.operands])).trans hy;have hxr:=hr.ev x;have hyr:=hr.ev y;rw[ex]at hxr;rw[ey]at hyr;unfold Sh.mk at hl;split at hl
 case isFalse=>cases hl
 rename_i h;simp only[pz]at hl;subst hl;have h9:Iu P 0 F [] ⟨s0.n,λ_=>.FZ,[]⟩ a w (Instr.makeSlice T (a.eval x) (a.eval y)) (λz st=>z=.own 0 0 (List.replicate j.toNat u).length/\st=[⟨0,el,size,(List.replicate j.toNat u).map enc⟩]):=by
  refine ZN (l:=.int kk j) (c:=.int yr j) hr.bare (An _ he ⟨rfl,h.1,h.2.1,h.2.2,?_⟩) (Fu (x:=.int kk j) rfl [] hxr) (Fu (x:=.int yr j) rfl [] hyr);simp
 obtain⟨u',w',F',g1,g2,g3,g4⟩:=Mu (k:=k) hr h9 (Tu hpu) rfl;unfold Oper.wp;simp only[execOp,qs,g1,qp,rH,Oper.upon];exact hn _ _ (Od (st':=s0.st) hd rfl g2 g3 g4)
end
theorem JN {row:Row}{zQ:List Row}(h:D0 row.xs)(g :∀q∈zQ,D0 q.xs):∀q∈row::zQ,D0 q.xs:=λq hq=>by
 rcases qH.1 hq with rfl|hq
 ·exact h
 ·exact g q hq
section
variable {P : Program} {k : Nat} {ops : Array Oper} {Q : Exit -> St -> Prop} {ds : List (Option Tmp)} {r : List Oper} {n : Nat} {e : Nat -> AV} {st st' : List Row} {ty : TypeId} {p : String} {ed : Array Edge} {t : Tmp} {x y : Operand} {size bytes m : Nat} {el T : TypeId} {zz : List AV} {kk yr : IntKind} {c : Nat}
theorem iP (he:DR P T=some ⟨el,size,bytes,zz⟩)(hx:St.ev ⟨n,e,st⟩ x=.int kk 0)(hy:St.ev ⟨n,e,st⟩ y=.int yr (c:Int))(hc:decide (c*bytes<=281474976710656/\c<=9223372036854775807)=true)(hm:st.length=m)(vX:st++[⟨0,el,size,[]⟩]=st')
  (hk:AO P k ops Q (ds++[some t]) r ⟨n,Dr e t (.own m 0 0),st'⟩):AO P k ops Q ds (⟨some t,.makeSlice T x y,ty,p,ed,none⟩::r) ⟨n,e,st⟩:=by
 subst hm;subst vX;have hbd:=rV hc;refine ab rfl (st':=st++[(⟨0,el,size,[]⟩:Row)]) (v:=.own st.length 0 0) (λF os a w hr=>?_) hk;have h1:=hr.ev x;rw[hx]at h1;simp only[Ac]at h1;have h2:=hr.ev y;rw[hy]at h2;simp only[Ac]at h2;obtain⟨inf,z,hu,hi,hz,xh,ve,vY,hby,hzz,vw⟩:=Ii he;dsimp only at hu hi xh ve vY hby hzz vw;have vT:=run_make (P:=P) w T el inf z hu hi hz kk yr 0 (c:Int) (by omega) (by omega) (by rw[<- hby,<- sq,tO];omega) (by omega);have xT:=hr.Pa (k:=k) (.inl rfl) (cur:=madeCells z.cells (c*inf.size)) (e:=el) (size:=size) (cap:=c) (xs:=[]) (by omega) (by simp) (by rw[size_madeCells,vY]) (by simp) (by simp[maxLen];omega) (by simp);refine⟨.slice (some ⟨w.heap.size,0,none⟩) 0 c,_,F,_,?_,xT.1,?_,xT.2.1⟩
 ·simp only[execOp,qs,rH,qp,h1,h2];rw[vT];simp
 ·simp only[Ac];have hlen:st.length=os.length:=hr.len;exact⟨_,by rw[hlen];exact KU _ _,qU _,⟨_,_,_,rfl⟩,λ_=>⟨by simp,.inr ⟨_,rfl,by simp⟩⟩⟩
theorem fS {α:Type}{u:α}{l':List α}{j:Int}(he:DR P T=some ⟨el,size,bytes,zz⟩)(hx:St.ev ⟨n,e,st⟩ x=.int kk 0)(hy:St.ev ⟨n,e,st⟩ y=.int yr j)(hj:Sh.mk u j bytes=some l')(hm:st.length=m)(vX:st++[⟨0,el,size,[]⟩]=st')
  (hk:AO P k ops Q (ds++[some t]) r ⟨n,Dr e t (.own m 0 0),st'⟩):AO P k ops Q ds (⟨some t,.makeSlice T x y,ty,p,ed,none⟩::r) ⟨n,e,st⟩:=by
 subst hm;subst vX;unfold Sh.mk at hj;split at hj
 case isFalse=>cases hj
 rename_i hb0;obtain⟨c,rfl⟩:=qu hb0.1;have hbd:c*bytes<=281474976710656/\c<=9223372036854775807:=by
  have h9:((c*bytes:Nat):Int)<=281474976710656:=by rw[sq];exact hb0.2.1
  have h8:=hb0.2.2;omega
 refine ab rfl (st':=st++[(⟨0,el,size,[]⟩:Row)]) (v:=.own st.length 0 0) (λF os a w hr=>?_) hk;have h1:=hr.ev x;rw[hx]at h1;simp only[Ac]at h1;have h2:=hr.ev y;rw[hy]at h2;simp only[Ac]at h2;obtain⟨inf,z,hu,hi,hz,xh,ve,vY,hby,hzz,vw⟩:=Ii he;dsimp only at hu hi xh ve vY hby hzz vw;have vT:=run_make (P:=P) w T el inf z hu hi hz kk yr 0 (c:Int) (by omega) (by omega) (by rw[<- hby,<- sq,tO];omega) (by omega);have xT:=hr.Pa (k:=k) (.inl rfl) (cur:=madeCells z.cells (c*inf.size)) (e:=el) (size:=size) (cap:=c) (xs:=[]) (by omega) (by simp) (by rw[size_madeCells,vY]) (by simp) (by simp[maxLen];omega) (by simp);refine⟨.slice (some ⟨w.heap.size,0,none⟩) 0 c,_,F,_,?_,xT.1,?_,xT.2.1⟩
 ·simp only[execOp,qs,rH,qp,h1,h2];rw[vT];simp
 ·simp only[Ac];have hlen:st.length=os.length:=hr.len;exact⟨_,by rw[hlen];exact KU _ _,qU _,⟨_,_,_,rfl⟩,λ_=>⟨by simp,.inr ⟨_,rfl,by simp⟩⟩⟩
end
end Go.Abs
namespace Go.Abs
open Go
variable {P : Program} {n : Nat} {e : Nat -> AV} {st : List Row} {t : Tmp} {ty : TypeId} {ps : String} {ed : Array Edge} {x : Operand}
theorem Kr {id g i off yc el size j f:Nat}{tt:TypeId}{xs:List (List AV)}(hf:HH P tt f=some j)(h:St.ev ⟨n,e,st⟩ x=.ptr id g i off)(uj:st[id]?=some ⟨g,el,size,xs⟩)(hl:off+j<=size)(ho:off+j=yc):N0 P ⟨n,e,st⟩ ⟨some t,.fieldAddr tt x f,ty,ps,ed,none⟩ (.ptr id g i yc):=
 ⟨rfl,λF os a w hr=>by
  subst ho;have h1:=hr.ev x;rw[h]at h1;unfold HH at hf;split at hf<;>try (cases hf;done)
  rename_i fs hu;split at hf<;>try (cases hf;done)
  rename_i g1 hg;split at hf<;>try (cases hf;done)
  rename_i i1 hi;split at hf
  ·cases hf
  rename_i hz;simp only[pz]at hf;have vT:∀b off w',(Instr.fieldAt tt (.pointer (some ⟨b,off,none⟩)) f).run P w'=.ok (.pointer (some ⟨b,off+j,none⟩)) w':=λb off w'=>by
   simp[Instr.fieldAt,rD hu,hg,Instr.sureAddr,fieldPlace,sizeOf,typeInfo,hi,hz,Db,hf]
  obtain⟨ow,how,hrw⟩:=hr.row uj;simp only[Ac]at h1;obtain⟨o',vc,yn,_,hv⟩:=h1;rw[how]at vc;cases vc;have hgg:ow.row.gen=g:=by rw[hrw]
  obtain⟨h2,h3,b,hb,e2⟩:=hv hgg;refine⟨.pointer (some ⟨b,i*ow.row.size+off+j,none⟩),λw'=>?_,?_⟩
  ·simp[execOp,e2,vT]
  ·simp only[Ac];exact⟨ow,how,yn,⟨_,rfl⟩,λ_=>⟨h2,by rw[hrw];exact hl,b,hb,by rw[rF]⟩⟩⟩
end Go.Abs
namespace Go.Abs
open Go
def SF (F:Nat->Prop)(w:World):World->Prop:=λw'=>∀b,F b->w'.heap[b]?=w.heap[b]?
section
variable {P : Program} {k : Nat} {ops : Array Oper} {Q : Exit -> St -> Prop} {N f i : Nat} {uU listed' : Array Bool} {s s' : St} {o : Oper}
def AY (P:Program)(k:Nat)(ops:Array Oper)(Q:Exit->St->Prop)(N f:Nat)(uU:Array Bool)(s:St):Prop:=
 s.n=N/\∀F0 os0 w0 F os a w,Rel F os s a w->Ext F0 os0 w0 F os w k->wpAnyH P .any ops (Qo k Q F0 os0 w0) (SF F0 w0) f uU a w
def bk (P:Program)(k:Nat)(ops:Array Oper)(Q:Exit->St->Prop)(N f:Nat)(uU:Array Bool)(s:St)(i:Nat):Prop:=
 ∀F0 os0 w0 F os a w,Rel F os s a w->Ext F0 os0 w0 F os w k->wpOp P ops (Qo k Q F0 os0 w0) i (λa' w'=>SF F0 w0 w'/\wpAnyH P .any ops (Qo k Q F0 os0 w0) (SF F0 w0) f (uU.setIfInBounds i true) a' w') a w
def ir (P:Program)(k:Nat)(ops:Array Oper)(Q:Exit->St->Prop)(N f:Nat)(uU:Array Bool)(s:St):List Nat->Prop
 | []=>True
 | i::r=>bk P k ops Q N f uU s i/\ir P k ops Q N f uU s r
theorem ir.get:∀{l:List Nat},ir P k ops Q N f uU s l->∀i∈l,bk P k ops Q N f uU s i
 | j::r,h,i,hi=>by
  rcases qH.1 hi with rfl|hi
  ·exact h.1
  ·exact ir.get h.2 i hi
theorem AY.all (rs:List Nat)(hn:s.n=N)(hr:Region.ready .any ops uU=rs)(vZ:rs≠[])(h:ir P k ops Q N f uU s rs):AY P k ops Q N (f+1) uU s:=
 ⟨hn,λF0 os0 w0 F os a w vb he=>wpAnyH_all hr vZ λi hi=>h.get i hi F0 os0 w0 F os a w vb he⟩
theorem Kf (hn:s.n=N)(hr:Region.ready .any ops uU=[])(h:Q .normal s):AY P k ops Q N f uU s:=
 ⟨hn,λ_ _ _ F os a w vb he=>wpAnyH_done hr ⟨s,F,os,⟨rfl,h⟩,vb,he⟩ f⟩
theorem AY.weaken (hw:Wk k s s')(h:AY P k ops Q N f uU s')(hn:s.n=N):AY P k ops Q N f uU s:=
 ⟨hn,λF0 os0 w0 F os a w vb he=>by
  obtain⟨F1,vo,h1,e1⟩:=hw F os a w vb;exact h.2 F0 os0 w0 F1 vo a w h1 (he.trans e1)⟩
theorem AY.pX (h:uU=listed')(ha:AY P k ops Q N f uU s):AY P k ops Q N f listed' s:=h▸ha
theorem L9 (h :∀A:Nat->Array Bool->St->Prop,(∀f l s,A f l s↔AY P k ops Q N f l s)->A f uU s):AY P k ops Q N f uU s:=
 h (AY P k ops Q N) (λ_ _ _=>Iff.rfl)
theorem bk.of (ho:ops[i]?=some o)(hg:QB o i=true)(hd:(ops.toList.all λo=>DG s.n o.dst)=true)
  (h:AO P k (ops.extract 0 (i+1)) (λe s'=>e=.normal/\AY P k ops Q N f (uU.setIfInBounds i true) s') ((ops.toList.take i).map (·.dst)) [o] s):bk P k ops Q N f uU s i:=by
 intro F0 os0 w0 F os a w vb he;have hi:i<ops.size:=(qv.1 ho).1;have hex:∀j,(ops.extract 0 (i+1))[j]?=if j<i+1 then ops[j]? else none:=λj=>by
  rw[Array.getElem?_extract];split<;>split<;>simp_all<;>omega
 have h1:=h (λj=>by
   have hlen:((ops.toList.take i).map (·.dst)).length=i:=by simp;omega
   rw[hlen,hex];cases j with
   | zero=>simp[ho]
   | succ j=>rw[qG (by omega)];simp) (λj d hj=>by
   simp only[qA,ql]at hj;split at hj
   ·rw[hex,qF (by omega)];simpa using hj
   ·cases hj) (λo' vc=>by
   obtain⟨j,hj⟩:=qf.1 vc;rw[ry,hex]at hj;split at hj
   ·exact qC.1 hd o' (pt (i:=j) (by simpa using hj))
   ·cases hj) F os a w vb (λe a' w'=>e=.normal/\SF F0 w0 w'/\wpAnyH P .any ops (Qo k Q F0 os0 w0) (SF F0 w0) f (uU.setIfInBounds i true) a' w') (by
   rintro e a' w' ⟨s',F',os',⟨rfl,hax⟩,wS,he'⟩;exact⟨rfl,(he.trans he').KX,hax.2 F0 os0 w0 F' os' a' w' wS (he.trans he')⟩)
 have hy:Region.wanted o (yielded (ops.extract 0 (i+1)) a.tmps)=Region.wanted o (yielded ops a.tmps):=by
  unfold Region.wanted;unfold QB at hg;cases hgd:o.guard with
  | none=>rfl
  | some p=>
   obtain⟨j,want⟩:=p;rw[hgd]at hg;simp only[qJ]at hg;simp only[yielded,hex,qF hg]
 unfold wpList at h1;unfold wpOp;simp only[ho];rw[hy]at h1;split at h1
 ·rename_i hw;rw[qF hw];rcases h1 with h1|⟨_,a1,w1,h1,_⟩
  ·refine .inl (Oper.wp_mono (λa' w' h'=>?_) (Qh (λc a' w' h'=>?_) (λh'=>?_) h1))
   ·exact h'.2
   ·exact nomatch h'.1
   ·obtain⟨_,_,h2,_⟩:=h';exact nomatch h2
  ·exact nomatch h1
 ·rename_i hw;rw[qG hw];exact h1.2
theorem Rm (i:Nat){v:AV}(hn:s.n=N)(ho:ops[i]?=some o)(hs:Region.noSelect ops=true)(hf:Region.free .any ops uU i=true)(hr:(Region.ready .any ops uU).contains i=true)(hd:DG s.n o.dst=true)(hh:N0 P s o v)
  (h:AY P k ops Q N f (uU.setIfInBounds i true) (s.put o.dst v)):AY P k ops Q N (f+1) uU s:=
 ⟨hn,λF0 os0 w0 F os a w vb he=>by
  obtain⟨hg,hh⟩:=hh;obtain⟨u,hu,hv⟩:=hh F os a w vb;refine wpAnyH_take ho hs hf hr (λc a w ⟨_,_,_,hp,_⟩=>nomatch hp.1) (.inl ⟨by unfold Region.wanted;rw[hg],λw' _=>hu w'⟩) he.KX ?_;exact h.2 F0 os0 w0 F os _ w (vb.put hd hv) he⟩
def AZ (P:Program)(k:Nat)(ops:Array Oper)(Q:Exit->St->Prop)(N f:Nat)(uU:Array Bool)(s:St):Prop:=
 s.n=N/\∀F os a w,Rel F os s a w->wpAnyH P .any ops (Qo k Q F os w) (SF F w) f uU a w
theorem NY {f':Nat}(hf:f=f')(hl:uU=listed')(h:AZ P k ops Q N f' listed' s):AZ P k ops Q N f uU s:=hf▸hl▸h
theorem NU (h:AY P k ops Q N f uU s):AZ P k ops Q N f uU s:=
 ⟨h.1,λF os a w hr=>h.2 F os w F os a w hr (Ext.refl F os w k)⟩
theorem JX {id:Nat}(hm:P.follows .mixedOrders=true)(h:AZ P k ops Q s.n ops.size (Array.replicate ops.size false) s):AW P k (.region id ops true) Q s:=by
 intro F os a w hr;obtain⟨hr1,he1⟩:=hr.drew (k:=k);refine tu (wp_region_held hm (h.2 F os a w.drew hr1)) ?_;rintro e a' w' ⟨s',F',os',⟨rfl,hq⟩,h1,h2⟩;exact⟨s',F',os',hq,h1,he1.trans h2⟩
def Qm (P:Program)(s:St)(o:Oper)(v:AV):Prop:=
 o.guard=none/\∀F os a w,Rel F os s a w->∃u,(∀w',SF F w w'->(execOp a.eval o).run P w'=.ok (.value u) w')/\Ac F w os v u
theorem CH {v:AV}(h:N0 P s o v):Qm P s o v:=⟨h.1,λF os a w hr=>let ⟨u,h1,h2⟩:=h.2 F os a w hr;⟨u,λw' _=>h1 w',h2⟩⟩
theorem AZ.hoist (i:Nat){v:AV}(hn:s.n=N)(ho:ops[i]?=some o)(hs:Region.noSelect ops=true)(hf:Region.free .any ops uU i=true)(hr:(Region.ready .any ops uU).contains i=true)(hd:DG s.n o.dst=true)(hh:Qm P s o v)
  (h:AZ P k ops Q N f (uU.setIfInBounds i true) (s.put o.dst v)):AZ P k ops Q N (f+1) uU s:=
 ⟨hn,λF os a w vb=>by
  obtain⟨hg,hh⟩:=hh;obtain⟨u,hu,hv⟩:=hh F os a w vb;refine wpAnyH_take ho hs hf hr (λc a w ⟨_,_,_,hp,_⟩=>nomatch hp.1) (.inl ⟨by unfold Region.wanted;rw[hg],hu⟩) (λ_ _=>rfl) ?_;exact h.2 F os _ w (vb.put hd hv)⟩
end
section
variable {P : Program} {n : Nat} {e : Nat -> AV} {st : List Row} {t : Tmp} {ty : TypeId} {ps : String} {ed : Array Edge} {x : Operand}
theorem NL {off yc j f:Nat}{tt:TypeId}{cs:List AV}(hf:HH P tt f=some j)(h:St.ev ⟨n,e,st⟩ x=.CT cs off)(ho:off+j=yc):N0 P ⟨n,e,st⟩ ⟨some t,.fieldAddr tt x f,ty,ps,ed,none⟩ (.CT cs yc):=
 ⟨rfl,λF os a w hr=>by
  subst ho;have h1:=hr.ev x;rw[h]at h1;unfold HH at hf;split at hf<;>try (cases hf;done)
  rename_i fs hu;split at hf<;>try (cases hf;done)
  rename_i g1 hg;split at hf<;>try (cases hf;done)
  rename_i i1 hi;split at hf
  ·cases hf
  rename_i hz;simp only[pz]at hf;have vT:∀b off w',(Instr.fieldAt tt (.pointer (some ⟨b,off,none⟩)) f).run P w'=.ok (.pointer (some ⟨b,off+j,none⟩)) w':=λb off w'=>by
   simp[Instr.fieldAt,rD hu,hg,Instr.sureAddr,fieldPlace,sizeOf,typeInfo,hi,hz,Db,hf]
  simp only[Ac]at h1;obtain⟨b,o',e2,hb,hc⟩:=h1;refine⟨.pointer (some ⟨b,o'+off+j,none⟩),λw'=>?_,?_⟩
  ·simp[execOp,e2,vT]
  ·simp only[Ac];exact⟨b,o',by rw[rF],hb,hc⟩⟩
theorem OW {off sz:Nat}{tt:TypeId}{cs:List AV}{c:AV}(hti:De P tt=some (false,sz))(h:St.ev ⟨n,e,st⟩ x=.CT cs off)(hc:cs[off]?=some c):Qm P ⟨n,e,st⟩ ⟨some t,.load tt x,ty,ps,ed,none⟩ c:=
 ⟨rfl,λF os a w hr=>by
  have h1:=hr.ev x;rw[h]at h1;simp only[Ac]at h1;obtain⟨b,o',e2,hb,xV⟩:=h1;obtain⟨d,i,hud,hi,e1,e3⟩:=Kd hti;obtain⟨u,hu1,xg,hu3⟩:=NN (os:=os) xV off c hc;refine⟨u,λw' hw'=>?_,hu3⟩;have yC:=Mp (w:=w') hud;rw[<- e1]at yC;have vn:w'.cell? ⟨b,o'+off,none⟩=some u:=by rw[<- hu1];exact sP (hw' b hb)
  simp[execOp,e2,Instr.loadAt,Instr.sureAddr,loadVar,yC,vn]⟩
theorem MB {off sz:Nat}{tt:TypeId}{cs:List AV}{c:AV}(hti:De P tt=some (true,sz))(h:St.ev ⟨n,e,st⟩ x=.CT cs off)(hl:off+sz<=cs.length)(hc:.agg ((cs.drop off).take sz)=c):Qm P ⟨n,e,st⟩ ⟨some t,.load tt x,ty,ps,ed,none⟩ c:=
 ⟨rfl,λF os a w hr=>by
  subst hc;have h1:=hr.ev x;rw[h]at h1;simp only[Ac]at h1;obtain⟨b,o',e2,hb,xV⟩:=h1;obtain⟨d,i,hud,hi,e1,e3⟩:=Kd hti;have hx:=NN (os:=os) xV;have hch:∃f:Nat->Value,∀j,j<sz->w.cell? ((⟨b,o'+off,none⟩:Addr).add j)=some (f j)/\∀c,cs[off+j]?=some c->Ac F w os c (f j):=
   ⟨λj=>(w.cell? ((⟨b,o'+off,none⟩:Addr).add j)).getD undef,λj hj=>by
    have vS:off+j<cs.length:=by omega
    obtain⟨u,hu1,_,xg⟩:=hx (off+j) cs[off+j] (qD vS);have hu1':w.cell? ((⟨b,o'+off,none⟩:Addr).add j)=some u:=by rw[Db,<- hu1,rF]
    simp only[hu1',sN];refine⟨pw,λc hc=>?_⟩;rw[qD vS,pz]at hc;exact hc▸xg⟩
  obtain⟨f,hf⟩:=hch;refine⟨.agg ((List.range sz).map f).toArray,λw' hw'=>?_,?_⟩
  ·have yC:=Mp (w:=w') hud;rw[<- e1]at yC;have vY:(sizeOf tt).run P w'=.ok i.size w':=by simp[sizeOf,typeInfo,hi]
   have hlc:=run_loadCells (P:=P) w' ⟨b,o'+off,none⟩ sz f (λj hj=>by
    rw[<- (hf j hj).1,Db];exact sP (hw' b hb))
   simp only at e3;simp[execOp,e2,Instr.loadAt,Instr.sureAddr,loadVar,yC,vY,<- e3,hlc]
  ·simp only[Ac];refine⟨_,rfl,Df (by simp;omega) λj c u hc hu=>?_⟩;simp only[ql,qy]at hc;split at hc
   ·rename_i hj;simp only[qA,sH hj,qx,pz]at hu;subst hu;exact (hf j hj).2 c hc
   ·cases hc⟩
end
section
variable {P : Program} {k : Nat} {α : Type} {l : List α} {enc : α -> List AV}
variable {ops : Array Oper} {Q : Exit -> St -> Prop} {ds : List (Option Tmp)} {r : List Oper} {n : Nat} {e : Nat -> AV} {st st' : List Row} {ty : TypeId} {ps : String} {ed : Array Edge} {v : AV} {gd : Option (Nat × Bool)} {T : TypeId} {x y : Operand} {ag : Bool} {sz id g size off : Nat} {el : TypeId} {cs cs' : List AV} {c : α} {i : Int}
end
end Go.Abs
namespace Go.Abs
open Go
theorem Wk.move {k n:Nat}{e:Nat->AV}{st st':List Row}{id p j g m el size g2 el2 size2:Nat}{xs:List (List AV)}{cs:List AV}(uj:st[id]?=some ⟨g,el,size,xs⟩)(hp:st[p]?=some ⟨g2,el2,size2,[cs]⟩)(hpi:p≠id)(hc:cs[j]?=some (.own id g m))
  (vX:(st.set id ⟨g+1,el,size,[]⟩).set p ⟨g2,el2,size2,[cs.set j (.own st.length 0 m)]⟩++[⟨0,el,size,xs⟩]=st'):Wk k ⟨n,e,st⟩ ⟨n,e,st'⟩:=λF os a w hr=>by
 subst vX;obtain⟨o,ho,hor⟩:=hr.row uj;obtain⟨q,hq,hqr⟩:=hr.row hp;have vF:=hr.rows id o ho;have hqk:=hr.rows p q hq;have hlen:os.length=st.length:=by have:=rC List.length hr.st;simpa using this
 have wz:=(px.1 ho).1;have zD:=(px.1 hq).1
 let o1:Own:=⟨{ o.row with gen:=o.row.gen+1,xs:=[] },none,0,Ga⟩
 let q1:Own:=⟨{ q.row with xs:=[cs.set j (.own st.length 0 m)] },q.GB,q.cap,q.more⟩
 let o2:Own:=⟨{ o.row with gen:=0 },o.GB,o.cap,o.more⟩
 have vJ:∀(i:Nat) (oi:Own),(((os.set id o1).set p q1)++[o2])[i]?=some oi->(i≠id/\i≠p/\os[i]?=some oi)∨(i=id/\oi=o1)∨(i=p/\oi=q1)∨(i=os.length/\oi=o2):=λi oi hi=>by
  by_cases h1:i<os.length
  ·rw[qK (by simpa using h1)]at hi;by_cases h2:i=p
   ·subst h2;rw[qI (by simpa using zD)]at hi;exact .inr (.inr (.inl ⟨rfl,by simpa using hi.symm⟩))
   ·rw[qZ (rX h2)]at hi;by_cases h3:i=id
    ·subst h3;rw[qI wz]at hi;exact .inr (.inl ⟨rfl,by simpa using hi.symm⟩)
    ·rw[qZ (rX h3)]at hi;exact .inl ⟨h3,h2,hi⟩
  ·rw[qS (by simp;omega)]at hi;simp only[tp]at hi;have:i-os.length<1:=(px.1 hi).1;have h4:i=os.length:=by omega
   subst h4;simp only[sK,qg,pz]at hi;exact .inr (.inr (.inr ⟨rfl,hi.symm⟩))
 have hnew:(((os.set id o1).set p q1)++[o2])[st.length]?=some o2:=by rw[<- hlen,qS (by simp)];simp
 have hqx:q.row.xs=[cs]:=by rw[hqr]
 have vq:F8 os (((os.set id o1).set p q1)++[o2]):=λi oi hi=>by
  have hl:=(px.1 hi).1;rw[qK (by simpa using hl)];by_cases h2:i=p
  ·subst h2;rw[hq]at hi;cases hi;exact⟨q1,by rw[qI (by simpa using zD)],qU _,rfl,λ_=>⟨rfl,rfl,by simp[q1,hqx]⟩⟩
  ·rw[qZ (rX h2)];by_cases h3:i=id
   ·subst h3;rw[ho]at hi;cases hi;exact⟨o1,by rw[qI wz],by simp[o1],rfl,λe=>by simp[o1]at e⟩
   ·rw[qZ (rX h3)];exact⟨oi,hi,qU _,rfl,λ_=>⟨rfl,rfl,rfl⟩⟩
 have vL:∀x v,Ac F w os x v->Ac F w (((os.set id o1).set p q1)++[o2]) x v:=λx v h=>Ds (λ_ h=>h) (λ_ _=>rfl) os _ vq x v h;have hog:o.row.gen=g:=by rw[hor]
 have zZ:∀(i:Nat) (oi:Own) b,(((os.set id o1).set p q1)++[o2])[i]?=some oi->oi.owns b->∃(i':Nat) (oi':Own),os[i']?=some oi'/\oi'.owns b/\((i'=id/\i=os.length)∨(i'≠id/\i=i')):=λi oi b hi hb=>by
  rcases vJ i oi hi with ⟨h1,h2,h3⟩|⟨rfl,rfl⟩|⟨rfl,rfl⟩|⟨rfl,rfl⟩
  ·exact⟨i,oi,h3,hb,.inr ⟨h1,rfl⟩⟩
  ·rcases hb with hb|hb
   ·simp[o1]at hb
   ·exact hb.elim
  ·exact⟨i,q,hq,hb,.inr ⟨hpi,rfl⟩⟩
  ·exact⟨id,o,ho,hb,.inl ⟨rfl,rfl⟩⟩
 have h:=hr.Z2 (k:=k) (Iy.refl w none) (by simp) vq (λi oi hi=>by
   rcases vJ i oi hi with ⟨h1,h2,h3⟩|⟨rfl,rfl⟩|⟨rfl,rfl⟩|⟨rfl,rfl⟩
   ·exact .inl ⟨h3,by simp⟩
   ·exact .inr ⟨vF.pos,by simp[o1],by simp[o1],by simp[o1],λb hb=>hb.elim,E7 (by simp[o1])⟩
   ·refine .inr ⟨hqk.pos,λx hx=>?_,λe=>?_,λb hb=>?_,hqk.mo,hqk.deep.keep rfl (λ_ h=>h) rfl (λ_ _=>rfl) (λi' x j' e' s' ys h1 h2=>?_)⟩
    ·simp only[q1,qO]at hx;subst hx;have h5:=hqk.lens cs (by rw[hqx];simp);refine⟨by simpa using h5.1,λc xH=>?_⟩;rcases rB xH with h6|rfl
     ·exact h5.2 c h6
     ·rfl
    ·have h5:=(hqk.none e).1;rw[hqx]at h5;cases h5
    ·obtain⟨e1,cur,e2,e3,e4,e5,e6⟩:=hqk.some b hb;refine⟨e1,cur,e2,e3,by simpa [q1,hqx] using e4,e5,λi' x hx j' c hcj=>?_⟩;have h6:i'<1:=by have:=(px.1 hx).1;simpa [q1] using this
     obtain rfl:i'=0:=by omega
     simp only[q1,qg,pz]at hx;subst hx;by_cases h7:j'=j
     ·subst h7;rw[qI (px.1 hc).1,pz]at hcj;subst hcj;obtain⟨u,f1,f2⟩:=e6 0 cs (by rw[hqx];rfl) j' _ hc;refine⟨u,f1,?_⟩;simp only[Ac]at f2⊢;obtain⟨o',vc,_,hsh,f3⟩:=f2;rw[ho]at vc;cases vc;obtain⟨f4,f5⟩:=f3 hog;exact⟨o2,hnew,qU _,hsh,λ_=>⟨f4,f5⟩⟩
     ·rw[qZ (rX h7)]at hcj;obtain⟨u,f1,f2⟩:=e6 0 cs (by rw[hqx];rfl) j' c hcj;exact⟨u,f1,vL _ _ f2⟩
    ·have h6:i'<1:=by have:=(px.1 h1).1;simpa [q1] using this
     obtain rfl:i'=0:=by omega
     simp only[q1,qg,pz]at h1;subst h1;by_cases h7:j'=j
     ·subst h7;rw[qI (px.1 hc).1,pz]at h2;cases h2
     ·rw[qZ (rX h7)]at h2;exact⟨cs,by rw[hqx];rfl,h2⟩
   ·refine .inr ⟨vF.pos,vF.lens,vF.none,λb hb=>?_,vF.mo,vF.deep.keep rfl (λ_ h=>h) rfl (λ_ _=>rfl) (λi' x j' e' s' ys h1 h2=>⟨x,h1,h2⟩)⟩;obtain⟨e1,cur,e2,e3,e4,e5,e6⟩:=vF.some b hb;exact⟨e1,cur,e2,e3,e4,e5,λi' x hx j' c hcj=>by obtain⟨u,f1,f2⟩:=e6 i' x hx j' c hcj;exact⟨u,f1,vL _ _ f2⟩⟩)
  (λi j' oi oj b hi hj wP xC=>by
   obtain⟨i',oi',e1,e2,e3⟩:=zZ i oi b hi wP;obtain⟨j'',oj',f1,f2,f3⟩:=zZ j' oj b hj xC;have:=hr.inj i' j'' oi' oj' b e1 f1 e2 f2;subst this;omega)
  (λo' vc b hb=>by
   obtain⟨i,hi⟩:=qf.1 vc;obtain⟨i',oi',e1,e2,_⟩:=zZ i o' b hi hb;exact .inr ⟨oi',pt e1,e2⟩)
  (by simp)
 refine⟨F,_,?_,h.2.1⟩;have h1:=h.1;have e1:o1.row=⟨g+1,el,size,[]⟩:=by simp only[o1,hor]
 have e2:q1.row=⟨g2,el2,size2,[cs.set j (.own st.length 0 m)]⟩:=by simp only[q1,hqr]
 have e3:o2.row=⟨0,el,size,xs⟩:=by simp only[o2,hor]
 rw[rM,rh,rh,hr.st,qj,rf,e1,e2,e3]at h1;exact h1
end Go.Abs
namespace Go.Abs
open Go
def VS (size:Nat):Nat->List (Nat×AV)->List (List AV)->Prop
 | _,[],[]=>True
 | k,(i,v)::r,c::cs=>i=k/\Lo v=some c/\c.length=size/\VS size (k+1) r cs
 | _,_,_=>False
theorem VS.len {size:Nat}:∀{k:Nat} {pv:List (Nat×AV)} {css:List (List AV)},VS size k pv css->pv.length=css.length/\∀c∈css,c.length=size
 | _,[],[],_=>⟨rfl,by simp⟩
 | k,(i,v)::r,c::cs,h=>by
  obtain⟨h1,h2⟩:=VS.len h.2.2.2;refine⟨by simp[h1],λx hx=>?_⟩;rcases qH.1 hx with rfl|hx
  ·exact h.2.2.1
  ·exact h2 x hx
theorem WO {size:Nat}:∀(pv:List (Nat×AV)) (css:List (List AV)) (k:Nat) (pre rest:List AV),pre.length=k*size->rest.length=pv.length*size->VS size k pv css->NF (λi=>some (i*size,size)) (pre++rest) pv=some (pre++css.flatten)
 | [],[],k,pre,rest,_,h2,_=>by
  have:rest=[]:=qV (by simpa using h2);subst this;rfl
 | (i,v)::r,c::cs,k,pre,rest,h1,h2,h=>by
  obtain⟨rfl,hv,hc,hr⟩:=h;rw[qa,qn,Nat.one_mul]at h2;have vS:size<=rest.length:=by omega
  unfold NF;simp only[hv];rw[qF ⟨hc,by rw[qQ];omega⟩];have hs:IK (pre++rest) (i*size) c=(pre++c)++rest.drop size:=by
   unfold IK;rw[<- h1,List.take_left,hc,List.drop_append,sJ (by omega),rN,show pre.length+size-pre.length=size by omega]
  rw[hs,WO r cs (i+1) (pre++c) (rest.drop size) (by rw[qQ,qn];omega) (by rw[sB];omega) hr];simp
theorem Vy {size:Nat}:∀(css:List (List AV)),(∀c∈css,c.length=size)->chunk size css.length css.flatten=css
 | [],_=>rfl
 | c::cs,h=>by
  have hc:=h c (by simp);show (c++cs.flatten).take size::chunk size cs.length ((c++cs.flatten).drop size)=_;rw[<- hc,List.take_left,List.drop_left,hc,Vy cs λx hx=>h x (by simp[hx])]
theorem Wk.pk {k n:Nat}{e:Nat->AV}{st st':List Row}{L:List (Nat×AV)}(sel:List Nat)(hk:sel.take k=List.range k)(wc:sel.Nodup)(vS:sel.all (·<st.length)=true)(hp:CD st sel=st')(hs:SR sel st' st')(h:ME (λt=>Jx sel (e t)) L):
  Wk k ⟨n,e,st⟩ ⟨n,AL L,st'⟩:=SJ sel hk wc vS hp hs h
section
variable {P : Program} {k : Nat} {α : Type} {l : List α} {enc : α -> List AV} {ops : Array Oper} {Q : Exit -> St -> Prop} {ds : List (Option Tmp)} {r : List Oper} {n : Nat} {e : Nat -> AV} {st st' : List Row} {ty : TypeId} {ps : String} {ed : Array Edge} {t : Tmp} {gd : Option (Nat × Bool)} {T : TypeId} {bytes size m : Nat} {el : TypeId} {zz : List AV}
theorem ll {len:Nat}{parts:Array (Nat×Operand)}{pv:List (Nat×AV)}(hg:GO ds gd e)(he:DR P T=some ⟨el,size,bytes,zz⟩)(hle:len*size<=16777216)(hp:(parts.toList.map λp=>(p.1,St.ev ⟨n,e,st⟩ p.2))=pv)
  (hz:zz.length=size) (hf:VS size 0 pv (l.map enc)) (hln:len=l.length) (hm:st.length=m) (vX:st++[⟨0,el,size,l.map enc⟩]=st') (hk:AO P k ops Q (ds++[some t]) r ⟨n,Dr e t (.own m 0 l.length),st'⟩) :
  AO P k ops Q ds (⟨some t,.buildSlice T len parts,ty,ps,ed,gd⟩::r) ⟨n,e,st⟩:=by
 obtain⟨h1,h2⟩:=hf.len;have hl:(l.map enc).length=len:=by rw[qc,hln]
 have ha:=WO pv (l.map enc) 0 [] (List.replicate len zz).flatten (by simp) (by rw[h1,hl];simp[hz]) hf;rw[rN,rN]at ha;refine MN (cs:=(l.map enc).flatten) hg he hle hp ha ?_ hln hm vX hk;rw[<- hl];exact Vy _ h2
end
end Go.Abs
namespace Go.Abs
open Go
section
variable {P : Program} {k : Nat} {ops : Array Oper} {Q : Exit -> St -> Prop} {ds : List (Option Tmp)} {r : List Oper} {n : Nat} {e : Nat -> AV} {st st' : List Row} {ty : TypeId} {ps : String} {ed : Array Edge} {gd : Option (Nat × Bool)} {T : TypeId} {x y : Operand} {size id g sz : Nat} {el : TypeId} {α : Type} {l : List α} {enc : α -> List AV} {c : α} {i : Int} {v : AV} {cs x0 : List AV} {ag : Bool}
end
end Go.Abs
namespace Go.Abs
open Go
structure MS where
 n:Nat
 e:Nat->AV
 x:Row
 z:List Row
def MS.st (R:List Row)(m:MS):St:=⟨m.n,m.e,m.x::(R++m.z)⟩
def MS.put (m:MS)(d:Option Tmp)(v:AV):MS:=match d with
 | some d=>{ m with e:=Dr m.e d v }
 | none=>m
theorem Qn (R:List Row)(m:MS)(d:Option Tmp)(v:AV):(m.put d v).st R=(m.st R).put d v:=by cases d<;>rfl
theorem PY (m:MS)(d:Option Tmp)(v:AV):(m.put d v).x=m.x:=by cases d<;>rfl
theorem PS (m:MS)(d:Option Tmp)(v:AV):(m.put d v).z=m.z:=by cases d<;>rfl
theorem PM (m:MS)(d:Option Tmp)(v:AV):(m.put d v).n=m.n:=by cases d<;>rfl
def MS.ev (m:MS)(x:Operand):AV:=St.ev ⟨m.n,m.e,[]⟩ x
theorem V6 (R:List Row)(m:MS)(x:Operand):(m.st R).ev x=m.ev x:=by cases x<;>rfl
inductive Kind where
 | q
 | l (x y:Row)
 | a (row:Row)
def Kind.D:Kind->Row->List Row->Prop
 | .q,_,_=>True
 | .l x0 _,x,_=>x=x0
 | .a _,_,z=>z=[]
def Kind.fx:Kind->Row->Row
 | .l _ y,_=>y
 | _,x=>x
def Kind.fz:Kind->List Row->List Row
 | .a row,_=>[row]
 | _,z=>z
def WV (o:Oper):Bool:=match o.op with
 | .call ⟨.value _,_,_⟩=>true
 | _=>false
def V4 (o:Oper):Bool:=match o.op with
 | .alloc _=>true
 | _=>false
def Kind.fits:Kind->Oper->Prop
 | .q,_=>True
 | .l ..,o=>WV o=true
 | .a _,o=>V4 o=true
def MS.go (m:MS)(kd:Kind):MS:=⟨m.n,m.e,kd.fx m.x,kd.fz m.z⟩
section
variable {P : Program} {k : Nat} {ops : Array Oper} {md : Region.Mode} {R : List Row}
def pV (P:Program)(k:Nat)(o:Oper)(s s':St):Prop:=
 ∀(F:Nat->Prop) (os:List Own) (a:Act) (w:World),Rel F os s a w->∀(next:Act->World->Prop) (Q:Exit->Act->World->Prop),
  (∀a' w',Step k s.n F os w (·=s') a' w'->next a' w')->o.wp P a w next Q
def gh (P:Program)(k:Nat)(R:List Row)(o:Oper)(n:Nat)(ev:Operand->AV)(kd:Kind)(v:AV):Prop:=
 ∀x z e,kd.D x z->(∀y∈o.op.operands,MS.ev ⟨n,e,x,z⟩ y=ev y)->DG n o.dst=true->pV P k o (MS.st R ⟨n,e,x,z⟩) (MS.st R ((MS.go ⟨n,e,x,z⟩ kd).put o.dst v))
def oh (P:Program)(k:Nat)(R:List Row)(o:Oper)(m m':MS):Prop:=
 ∃kd v,Kind.fits kd o/\kd.D m.x m.z/\m'=(m.go kd).put o.dst v/\gh P k R o m.n m.ev kd v
def MT (P:Program)(k:Nat)(R:List Row)(ops:Array Oper)(o:Oper)(m m':MS):Prop:=
 (GS ops o (m.st R)=some true/\oh P k R o m m')∨(GS ops o (m.st R)=some false/\m'=m.put o.dst .un)
def XH (P:Program)(k:Nat)(R:List Row)(ops:Array Oper)(i:Nat)(K:MS->Prop)(m:MS):Prop:=
 match ops[i]? with
 | none=>K m
 | some o=>∃m',MT P k R ops o m m'/\K m'
theorem XI {m:MS}{d:Option Tmp}{v:AV}{x:Operand}(h :∀t,d=some t->x≠.tmp t):(m.put d v).ev x=m.ev x:=by
 cases d with
 | none=>rfl
 | some d=>
  cases x with
  | tmp t=>
   have vZ:t≠d:=λe=>h d rfl (e▸rfl);simp[MS.ev,MS.put,St.ev,Dr,vZ]
  | _=>rfl
theorem OF (m:MS){x y:Option Tmp}(v u:AV)(h :∀d,x=some d->y≠some d):(m.put x v).put y u=(m.put y u).put x v:=by
 cases x with
 | none=>rfl
 | some d=>
  cases y with
  | none=>rfl
  | some e=>
   have vZ:d≠e:=λhe=>h d rfl (he▸rfl);simp only[MS.put,MS.mk.injEq,true_and,and_true];funext t;simp only[Dr];by_cases h1:t=d
   ·subst h1;simp[vZ]
   ·by_cases h2:t=e
    ·subst h2;simp[h1]
    ·simp[h1,h2]
theorem W2 (m:MS)(kd:Kind)(d:Option Tmp)(v:AV):(m.put d v).go kd=(m.go kd).put d v:=by cases d<;>rfl
theorem XN {o:Oper}{m:MS}:GS ops o (m.st R)=GS ops o ⟨m.n,m.e,[]⟩:=rfl
theorem Im {oi:Oper}{m:MS}{d:Option Tmp}{u:AV}{kd:Kind}(hd :∀t,d=some t->t ∉ oi.looksAt ops):GS ops oi (((m.go kd).put d u).st R)=GS ops oi (m.st R):=by
 rw[XN,XN];unfold GS;cases hg:oi.guard with
 | none=>rfl
 | some p=>
  obtain⟨j,want⟩:=p;dsimp only;cases ht:(ops[j]?).bind (·.dst) with
  | none=>rfl
  | some t=>
   dsimp only;have:((m.go kd).put d u).e t=m.e t:=XI (m:=m.go kd) (x:=.tmp t) λt' ht' e=>hd t' ht' (by
    cases e;exact sO _ (by simp[hg,ht]))
   rw[this]
theorem NM {oi:Oper}{m:MS}{d:Option Tmp}{u:AV}(hd :∀t,d=some t->t ∉ oi.looksAt ops):∀x∈oi.op.operands,(m.put d u).ev x=m.ev x:=λx hx=>
 XI λt ht hxt=>hd t ht (by
  subst hxt;exact rE _ (rQ.2 ⟨.tmp t,by simpa using hx,rfl⟩))
theorem gh.congr {o:Oper}{n:Nat}{ev ev':Operand->AV}{kd:Kind}{v:AV}(h:gh P k R o n ev kd v)(he :∀y∈o.op.operands,ev' y=ev y):gh P k R o n ev' kd v:=
 λx z e hD ho hd=>h x z e hD (λy hy=>(ho y hy).trans (he y hy)) hd
theorem ff {ki kj:Kind}{oi oj:Oper}(hi:ki.fits oi)(hj:kj.fits oj)(hf:¬ (WV oi=true/\WV oj=true))(ha:¬ (V4 oi=true/\V4 oj=true)){x:Row}{z:List Row}(h1:ki.D x z)(h2:kj.D (ki.fx x) (ki.fz z)):
  kj.D x z/\ki.D (kj.fx x) (kj.fz z)/\ki.fx (kj.fx x)=kj.fx (ki.fx x)/\ki.fz (kj.fz z)=kj.fz (ki.fz z):=by
 cases ki with
 | q=>exact⟨h2,pw,rfl,rfl⟩
 | l x0 y=>
  cases kj with
  | q=>exact⟨pw,h1,rfl,rfl⟩
  | l x1 y1=>exact absurd ⟨hi,hj⟩ hf
  | a row=>exact⟨h2,h1,rfl,rfl⟩
 | a row=>
  cases kj with
  | q=>exact⟨pw,h1,rfl,rfl⟩
  | l x1 y1=>exact⟨h2,h1,rfl,rfl⟩
  | a row1=>exact absurd ⟨hi,hj⟩ ha
theorem ky {oi oj:Oper}{m mi mij:MS}(hap:oi.apart ops oj=true)(hf:¬ (WV oi=true/\WV oj=true))(ha:¬ (V4 oi=true/\V4 oj=true))(hi:MT P k R ops oi m mi)(hj:MT P k R ops oj mi mij):
  ∃mj,MT P k R ops oj m mj/\MT P k R ops oi mj mij:=by
 obtain⟨h1,h2,h3⟩:=Oper.apart_spec hap;have hq:∀(m:MS),m.go .q=m:=λm=>rfl;rcases hi with ⟨wi,ki,vi,fi,di,rfl,gi⟩|⟨wi,rfl⟩<;>rcases hj with ⟨wj,kj,vj,fj,dj,rfl,gj⟩|⟨wj,rfl⟩
 ·rw[Im h1]at wj;rw[PY,PS]at dj;obtain⟨e1,e2,e3,e4⟩:=ff fi fj hf ha di dj;refine⟨(m.go kj).put oj.dst vj,.inl ⟨wj,kj,vj,fj,e1,rfl,?_⟩,.inl ⟨by rw[Im h3];exact wi,ki,vi,fi,by rw[PY,PS];exact e2,?_,?_⟩⟩
  ·rw[PM]at gj;exact gj.congr λy hy=>(NM (m:=m.go ki) (u:=vi) h1 y hy).symm
  ·rw[W2,W2,<- OF _ vi vj h2];congr 2;simp only[MS.go,e3,e4]
  ·rw[PM];exact gi.congr λy hy=>NM (m:=m.go kj) h3 y hy
 ·rw[Im h1]at wj;refine⟨m.put oj.dst .un,.inr ⟨wj,rfl⟩,.inl ⟨by have:=Im (R:=R) (m:=m) (kd:=.q) (u:=.un) h3;rw[hq]at this;rw[this];exact wi,ki,vi,fi,by rw[PY,PS];exact di,?_,?_⟩⟩
  ·rw[W2,<- OF _ vi .un h2]
  ·rw[PM];exact gi.congr λy hy=>NM h3 y hy
 ·have h5:=Im (R:=R) (m:=m) (kd:=.q) (u:=.un) h1;rw[hq]at h5;rw[h5]at wj;rw[PY,PS]at dj;refine⟨(m.go kj).put oj.dst vj,.inl ⟨wj,kj,vj,fj,dj,rfl,?_⟩,.inr ⟨by rw[Im h3];exact wi,?_⟩⟩
  ·rw[PM]at gj;exact gj.congr λy hy=>(NM h1 y hy).symm
  ·rw[W2,<- OF _ .un vj h2]
 ·have h5:=Im (R:=R) (m:=m) (kd:=.q) (u:=.un) h1;have h6:=Im (R:=R) (m:=m) (kd:=.q) (u:=.un) h3;rw[hq]at h5 h6;rw[h5]at wj;exact⟨m.put oj.dst .un,.inr ⟨wj,rfl⟩,.inr ⟨by rw[h6];exact wi,by rw[<- OF _ .un .un h2]⟩⟩
def anyM (P:Program)(k:Nat)(R:List Row)(md:Region.Mode)(ops:Array Oper)(n:Nat)(L:Array Bool->MS->Prop):Nat->Array Bool->MS->Prop
 | 0,uU,s=>L uU s
 | f+1,uU,s=>Region.ready md ops uU≠[]/\∀i∈Region.ready md ops uU,i<n/\XH P k R ops i (anyM P k R md ops n L f (uU.setIfInBounds i true)) s
theorem Y3 {F:Nat->Prop}{os:List Own}{a:Act}{w:World}{i:Nat}{K:MS->Prop}{m:MS}(vu :∀o∈ops.toList,DG m.n o.dst=true)(hr:Rel F os (m.st R) a w)(h:XH P k R ops i K m){next:Act->World->Prop}{Q:Exit->Act->World->Prop}
  (hn :∀a' w',Step k m.n F os w (λs=>∃m',s=m'.st R/\K m') a' w'->next a' w'):wpOp P ops Q i next a w:=by
 unfold XH at h;unfold wpOp;split
 ·rename_i ho;simp only[ho]at h;exact hn a w ⟨m.st R,F,os,rfl,⟨m,rfl,h⟩,hr,Ext.refl _ _ _ _⟩
 ·rename_i o ho;simp only[ho]at h;obtain⟨m',hy,hK⟩:=h;have hod:=vu o (by have:=pt (l:=ops.toList) (i:=i) (by simpa using ho);exact this);rcases hy with ⟨hw,kd,v,_,hD,rfl,hg⟩|⟨hw,rfl⟩
  ·rw[qF (PN hr vu hw)];refine .inl (hg m.x m.z m.e hD (λ_ _=>rfl) hod F os a w hr next Q ?_);rintro a' w' ⟨s',F',os',h1,rfl,h3,h4⟩;exact hn a' w' ⟨_,F',os',h1,⟨_,rfl,hK⟩,h3,h4⟩
  ·rw[qG (by rw[PN hr vu hw];simp)];exact hn _ w ⟨_,F,os,by rw[Qn];cases o.dst<;>rfl,⟨_,rfl,hK⟩,by rw[Qn];exact hr.un hod,Ext.refl _ _ _ _⟩
theorem SG {n g N:Nat}{L:Array Bool->MS->Prop}{Q':Exit->Act->World->Prop}{F0:Nat->Prop}{os0:List Own}{w0:World}(vu :∀o∈ops.toList,DG N o.dst=true)
  (hL :∀uU (m:MS) F os a w,m.n=N->L uU m->Rel F os (m.st R) a w->Ext F0 os0 w0 F os w k->wpAny P md ops Q' g uU a w) :
  ∀(f:Nat) (uU:Array Bool) (m:MS) F os a w,m.n=N->anyM P k R md ops n L f uU m->Rel F os (m.st R) a w->Ext F0 os0 w0 F os w k->wpAny P md ops Q' (f+g) uU a w
 | 0,uU,s,F,os,a,w,hn,h,hr,he=>by rw[rT];exact hL _ _ _ _ _ _ hn h hr he
 | f+1,uU,s,F,os,a,w,hn,h,hr,he=>by
  rw[show f+1+g=(f+g)+1 by omega];refine⟨λh0=>absurd h0 h.1,λi hi=>?_⟩;refine Y3 (k:=k) (by rw[hn];exact vu) hr (h.2 i hi).2 ?_;rintro a' w' ⟨s',F',os',h1,⟨m',rfl,h2⟩,h3,h4⟩;exact SG vu hL f _ m' F' os' a' w' (by rw[<- hn];exact h1) h2 h3 (he.trans h4)
def KG (ops:Array Oper)(i:Nat):Bool:=match ops[i]? with|some o=>WV o|none=>false
def Sp (ops:Array Oper)(i:Nat):Bool:=match ops[i]? with|some o=>V4 o|none=>false
def lB (md:Region.Mode)(ops:Array Oper)(j i:Nat):Bool:=match ops[j]? with|some o=>o.after.any λe=>Region.binds md e&&e.on==i|none=>false
def Tr (md:Region.Mode)(ops:Array Oper)(n:Nat):Bool:=
 (List.range n).all λj=>(List.range j).all λi=>(!(Sp ops i&&Sp ops j))&&(!(KG ops i&&KG ops j) || ((List.range j).any λm=>decide (i<m)&&KG ops m) || lB md ops j i)
theorem SP {n:Nat}(h:Tr md ops n=true){i j:Nat}(hij:i<j)(hj:j<n):¬ (Sp ops i=true/\Sp ops j=true)/\
  (KG ops i=true->KG ops j=true->(∃m,i<m/\m<j/\KG ops m=true)∨∀oj,ops[j]?=some oj->∃e∈oj.after,Region.binds md e=true/\e.on=i):=by
 unfold Tr at h;have h1:=qC.1 (qC.1 h j (rm.2 hj)) i (rm.2 hij);rw[qP]at h1;refine⟨λ⟨a,b⟩=>?_,λa b=>?_⟩
 ·simp[a,b]at h1
 ·have h2:=h1.2;simp only[a,b,sU,rA,Bool.false_or,tK,sd,rm,qP,qJ]at h2;rcases h2 with ⟨m,hm,h3,h4⟩|h2
  ·exact .inl ⟨m,h3,hm,h4⟩
  ·refine .inr λoj xl=>?_;simp only[lB,xl,Array.any_eq_true']at h2;obtain⟨e,he,hb⟩:=h2;simp only[qP,beq_iff_eq]at hb;exact⟨e,he,hb⟩
theorem aj {n:Nat}(h:Tr md ops n=true){uU:Array Bool}(inv:HeadInv md ops n uU):∀(d i j:Nat),j-i=d->i<j->j<n->KG ops i=true->KG ops j=true->
  uU.getD j false=true->uU.getD i false=true:=by
 intro d
 induction d using Nat.strongRecOn with
 | _ d ih=>
  intro i j hd hij hj hi hfj hl;rcases (SP h hij hj).2 hi hfj with ⟨m,h1,h2,h3⟩|h1
  ·have hm:=ih (j-m) (by omega) m j rfl h2 hj h3 hfj hl;exact ih (m-i) (by omega) i m rfl h1 (by omega) hi h3 hm
  ·obtain⟨oj,xl⟩ :∃oj,ops[j]?=some oj:=by
    unfold KG at hfj;split at hfj
    ·rename_i o ho;exact⟨o,ho⟩
    ·cases hfj
   obtain⟨e,he,hb,rfl⟩:=h1 oj xl;exact inv.closed j oj xl hl e he hb
theorem cO {n:Nat}(h:Tr md ops n=true){uU:Array Bool}(inv:HeadInv md ops n uU){i j:Nat}(hij:i<j)(hj:j<n)(hi:KG ops i=true)(hfj:KG ops j=true)
  (hr:j∈Region.ready md ops uU):uU.getD i false=true:=by
 obtain⟨_,oj,xl,wY⟩:=si.1 hr;have key:∀(d i:Nat),j-i=d->i<j->KG ops i=true->uU.getD i false=true:=by
  intro d
  induction d using Nat.strongRecOn with
  | _ d ih=>
   intro i hd hij hi;rcases (SP h hij hj).2 hi hfj with ⟨m,h1,h2,h3⟩|h1
   ·exact aj h inv _ i m rfl h1 (by omega) hi h3 (ih (j-m) (by omega) m rfl h2 h3)
   ·obtain⟨e,he,hb,rfl⟩:=h1 oj xl;exact wY e he hb
 exact key _ i rfl hij hi
theorem cd {n i:Nat}{oi:Oper}{L:Array Bool->MS->Prop}(hwt:Tr md ops n=true)(hi:ops[i]?=some oi)
  (wo :∀uU,HeadInv md ops n uU->∀i,i<n->uU.getD i true=false->∀t,n<=t->t ∉ Region.ready md ops uU) (wE:i<n)
  (hdone :∀uU s,L uU s->∀j∈Region.ready md ops uU,n<=j) :
  ∀(f:Nat) (uU:Array Bool) (m mi:MS),HeadInv md ops n uU->(∀j,j<i->uU.getD j true=true)->
   (∀j oj,ops[j]?=some oj->j≠i->uU.getD j true=false->(∀e∈oj.after,Region.binds md e=true->e.on≠i)->oi.apart ops oj=true)->
   i∈Region.ready md ops uU->MT P k R ops oi m mi->
   anyM P k R md ops n L f (uU.setIfInBounds i true) mi->anyM P k R md ops n L (f+1) uU m:=by
 have yE:∀{K:MS->Prop} {m mi:MS},MT P k R ops oi m mi->K mi->XH P k R ops i K m:=λ{K m mi} hy h=>by
  unfold XH;simp only[hi];exact⟨mi,hy,h⟩
 intro f
 induction f with
 | zero=>
  intro uU m mi inv hlow _ hr hy H;have xR:=(si.1 hr).1;refine⟨λh=>(by rw[h]at hr;cases hr),λj hj=>?_⟩;have hjn:j<n:=by
   rcases rn j n with h|h
   ·exact h
   ·exact absurd hj (wo _ inv i wE xR j h)
  refine⟨hjn,?_⟩;by_cases xN:j=i
  ·subst xN;exact yE hy H
  ·have:=hdone _ _ H j (sc hj xN);omega
 | succ f ih=>
  intro uU m mi inv hlow xk hr hy H;have xR:=(si.1 hr).1;refine⟨λh=>(by rw[h]at hr;cases hr),λj hj=>?_⟩;have hjn:j<n:=by
   rcases rn j n with h|h
   ·exact h
   ·exact absurd hj (wo _ inv i wE xR j h)
  refine⟨hjn,?_⟩;by_cases xN:j=i
  ·subst xN;exact yE hy H
  ·have h1:=(H.2 j (sc hj xN)).2;obtain⟨yZ,oj,xl,wY⟩:=si.1 hj;have hnot:∀e∈oj.after,Region.binds md e=true->e.on≠i:=λe he hb heq=>by
    have h1:=wY e he hb;rw[heq,getD_both xR]at h1;cases h1
   have vS:i<j:=by
    rcases rb i j with h|h|h
    ·exact h
    ·exact absurd h.symm xN
    ·have:=hlow j h;rw[yZ]at this;cases this
   have hfn:¬ (WV oi=true/\WV oj=true):=λ⟨h1,h2⟩=>by
    have:=cO hwt inv vS hjn (by simp[KG,hi,h1]) (by simp[KG,xl,h2]) hj;rw[getD_both xR]at this;cases this
   have zR:¬ (V4 oi=true/\V4 oj=true):=λ⟨h1,h2⟩=>
    (SP hwt vS hjn).1 ⟨by simp[Sp,hi,h1],by simp[Sp,xl,h2]⟩
   unfold XH at h1;simp only[xl]at h1;obtain⟨mij,hmt,hK⟩:=h1;obtain⟨mj,g1,g2⟩:=ky (xk j oj xl xN yZ hnot) hfn zR hy hmt;unfold XH;simp only[xl];refine⟨mj,g1,ih (uU.setIfInBounds j true) mj mij (inv.set hj hjn) (λq hq=>?_) ?_ (sc hr (rX xN)) g2 ?_⟩
   ·rw[tJ true (by omega)];exact hlow q hq
   ·intro k ok hk xO xR hno;refine xk k ok hk xO ?_ hno;by_cases hjk:j=k
    ·subst hjk;exact yZ
    ·rw[tJ true hjk]at xR;exact xR
   ·rw[sm _ _ xN];exact hK
def KE (P:Program)(k:Nat)(R:List Row):List (Option Tmp)->List Oper->(MS->Prop)->MS->Prop
 | _,[],K,m=>K m
 | ds,o::r,K,m=>KL ds o (m.st R) (∃m',oh P k R o m m'/\KE P k R (ds++[o.dst]) r K m') (KE P k R (ds++[o.dst]) r K (m.put o.dst .un))
theorem Zr {n g:Nat}{K:MS->Prop}(hwt:Tr md ops n=true)(wo :∀uU,HeadInv md ops n uU->∀i,i<n->uU.getD i true=false->∀t,n<=t->t ∉ Region.ready md ops uU):
  ∀(l:List Oper) (ds:List (Option Tmp)) (uU:Array Bool) (m:MS),(∀(j:Nat),j<l.length->l[j]?=ops[ds.length+j]?)->(∀(j:Nat) d,ds[j]?=some d->(ops[j]?).map (·.dst)=some d)->ds.length+l.length=n->HeadInv md ops n uU->
  (∀j,j<ds.length->uU.getD j true=true)->
  Region.lexHead md ops g l.length ds.length uU=true->KE P k R ds l K m->
  anyM P k R md ops n (λlisted' s'=>Region.seqB md ops g n listed'=true/\K s') l.length uU m
 | [],ds,uU,s,_,_,hk,_,_,hB,h=>by
  have:ds.length=n:=by simpa using hk
  subst this;exact⟨by simpa [Region.lexHead] using hB,h⟩
 | o::l,ds,uU,s,hl,zE,hk,inv,hlow,hB,h=>by
  have h0:ops[ds.length]?=some o:=by simpa using (hl 0 (by simp)).symm
  simp only[qa,Region.lexHead,qP]at hB;obtain⟨⟨hr,hf⟩,hB'⟩:=hB;have hkn:ds.length<n:=by simp only[qa]at hk;omega
  have wS:ds.length∈Region.ready md ops uU:=by simpa using hr
  have zV :∀(j:Nat) d,(ds++[o.dst])[j]?=some d->(ops[j]?).map (·.dst)=some d:=λj d hj=>by
   rcases rb j ds.length with h1|h1|h1
   ·rw[qK h1]at hj;exact zE j d hj
   ·subst h1;rw[KU,pz]at hj;rw[h0];simp[hj]
   ·rw[rR (by simp;omega)]at hj;cases hj
  have hlow' :∀j,j<(ds++[o.dst]).length->(uU.setIfInBounds ds.length true).getD j true=true:=λj hj=>by
   simp only[qQ,qa,qt]at hj;by_cases hjd:ds.length=j
   ·subst hjd;rcases rn ds.length uU.size with h5|h5
    ·simp[h5]
    ·simp[sy h5]
   ·rw[tJ true hjd];exact hlow j (by omega)
  have wF:∀s',KE P k R (ds++[o.dst]) l K s'->anyM P k R md ops n (λlisted' s'=>Region.seqB md ops g n listed'=true/\K s') l.length (uU.setIfInBounds ds.length true) s':=λs' zw=>
   Zr hwt wo l (ds++[o.dst]) _ s' (λj hj=>by
    have:=hl (j+1) (by simp;omega);simp only[qq]at this;rw[this];congr 1;simp;omega) zV (by simp only[qa,qQ,qt]at hk⊢;omega) (inv.set wS hkn) hlow' (by simpa using hB') zw
  have yF:∀m',MT P k R ops o s m'->KE P k R (ds++[o.dst]) l K m'->anyM P k R md ops n (λlisted' s'=>Region.seqB md ops g n listed'=true/\K s') (l.length+1) uU s:=λm' hy hK=>
   cd hwt h0 wo hkn (λlisted' s' hL=>seqB_ready hL.1) l.length uU s m' inv hlow (tj h0 hf) wS hy (wF _ hK)
  simp only[KE]at h;rcases YW zE h with ⟨hw,m',h1,h2⟩|⟨hw,h1⟩
  ·exact yF m' (.inl ⟨hw,h1⟩) h2
  ·exact yF _ (.inr ⟨hw,rfl⟩) h1
theorem Bh {id n:Nat}{e:Nat->AV}{x:Row}{Q:Exit->St->Prop}(R:List Row)(m:Nat)(hm:P.follows .mixedOrders=true)(hB:Region.lexTailB .any ops m=true)(hw:Tr .any ops m=true)(hd:(ops.toList.all λo=>DG n o.dst)=true)
  (h:KE P k R [] (ops.toList.take m) (λs'=>AO P k ops Q ((ops.toList.take m).map (·.dst)) (ops.toList.drop m) (s'.st R)) ⟨n,e,x,[]⟩):AW P k (.region id ops true) Q ⟨n,e,x::R⟩:=by
 simp only[Region.lexTailB,qP,qJ]at hB;obtain⟨⟨⟨⟨_,hn⟩,hs⟩,hc⟩,hlex⟩:=hB;intro F os a w hr;have hr0:Rel F os (MS.st R ⟨n,e,x,[]⟩) a w:=by simpa [MS.st] using hr
 obtain⟨hr1,he1⟩:=hr0.drew (k:=k);refine td hm ?_;have zP:(ops.toList.take m).length=m:=by simp;omega
 have hdl:(ops.toList.drop m).length=ops.size-m:=by simp
 have H:=Zr (md:=.any) (ops:=ops) (n:=m) (g:=ops.size-m) (k:=k) (R:=R) (P:=P) (K:=λs'=>AO P k ops Q ((ops.toList.take m).map (·.dst)) (ops.toList.drop m) (s'.st R)) hw
  (λuU inv i hi xR t ht=>tail_waits hs hc hn inv _ i rfl hi xR t ht) (ops.toList.take m) [] _ _ (λj hj=>by
   rw[zP]at hj;rw[ql,qF hj];simp) (by simp) (by simpa using zP) (VZ _) (by simp) (by rw[zP];exact hlex) h
 have:=SG (k:=k) (g:=ops.size-m) (N:=n) (R:=R) (Q':=Mk k Q F os w) (F0:=F) (os0:=os) (w0:=w) (λo ho=>qC.1 hd o ho) (λuU s' F' os' a' w' hn' hL wS he=>by
  have h1:=hL.2 (λj=>by
    rw[qc,zP,qy];simp) (λj d hj=>by
    simp only[qA,ql]at hj;split at hj
    ·simpa using hj
    ·cases hj) (by show∀o∈ops.toList,DG s'.n o.dst=true;rw[hn'];exact λo ho=>qC.1 hd o ho) F' os' a' w' wS (Mk k Q F os w) λ_ _ _ hp=>Mk.trans he hp
  have h2:=wpAny_of_seq (md:=.any) (Q':=Mk k Q F os w) (ops.toList.drop m) m uU a' w' (λj=>by simp[qy]) (by rw[hdl];exact hL.1) h1;rwa [hdl]at h2) _ _ _ F os a w.drew rfl H hr1 he1
 rw[zP,show m+(ops.size-m)=ops.size by omega]at this;exact this
end
section
variable {P : Program} {k : Nat} {R : List Row} {ds : List (Option Tmp)} {r : List Oper} {K : MS -> Prop} {n : Nat} {e : Nat -> AV} {x0 : Row} {z0 : List Row} {t : Tmp} {op : Op} {ty : TypeId} {ps : String} {ed : Array Edge} {gd : Option (Nat × Bool)} {v : AV}
theorem GO.elim {o:Oper}{A B:Prop}{s:St}(hg:GO ds gd s.env)(ho:o.guard=gd)(h:KL ds o s A B):A:=by
 unfold KL at h;rw[ho]at h;cases gd with
 | none=>exact h
 | some q=>
  obtain⟨jj,want⟩:=q;obtain⟨tg,hj,ht⟩:=hg;simp only[hj,ht,dD]at h;exact h.1 rfl
theorem GA (hg:GO ds gd e)(h :∀x z,Dp P ds [⟨some t,op,ty,ps,ed,gd⟩] (λs'=>s'.env t=v) ⟨n,e,x::(R++z)⟩)(hk:KE P k R (ds++[some t]) r K ⟨n,Dr e t v,x0,z0⟩):
  KE P k R ds (⟨some t,op,ty,ps,ed,gd⟩::r) K ⟨n,e,x0,z0⟩:=by
 refine GO.guard (e:=e) hg ⟨_,⟨.q,v,pw,pw,rfl,?_⟩,hk⟩;intro x z e' _ ho hd F os a w hr next Q hn
 have h1:=h x z;unfold Dp at h1;have h2:=GO.elim (s:=⟨n,e,x::(R++z)⟩) hg rfl h1;obtain⟨v',hv,h3⟩:=Xi h2;have hvv:v'=v:=by simpa [Dp,St.put,Dr] using hv
 subst hvv;have h4:My P ⟨some t,op,ty,ps,ed,gd⟩ (MS.st R ⟨n,e',x,z⟩) (·=v'):=Qu (s:=⟨n,e,x::(R++z)⟩) rfl (λy hy=>by
  have:=ho y hy;rw[V6,this];cases y<;>rfl) h3
 exact Zp (k:=k) hr hd h4 (by rw[Qn]at hn;exact hn)
theorem FV {K':St->Prop}{st:List Row}(vX:x0::(R++z0)=st)(h:K' ⟨n,e,st⟩):KE P k R ds [] (λm=>K' (m.st R)) ⟨n,e,x0,z0⟩:=by
 subst vX;exact h
theorem cx {T:TypeId}{zz:List AV}{m:Nat}(hz:HN P T=some zz)(hm:R.length+1=m)(hk:KE P k R (ds++[some t]) r K ⟨n,Dr e t (.ptr m 0 0 0),x0,[⟨0,T,zz.length,[zz]⟩]⟩):
  KE P k R ds (⟨some t,.alloc T,ty,ps,ed,none⟩::r) K ⟨n,e,x0,[]⟩:=by
 subst hm;refine⟨_,⟨.a ⟨0,T,zz.length,[zz]⟩,.ptr (R.length+1) 0 0 0,rfl,rfl,rfl,?_⟩,hk⟩;intro x z e' hz0 ho hd F os a w hr next Q hn
 have hz0:z=[]:=hz0;subst hz0;refine Mo (k:=k) (K:=(·=MS.st R ((MS.go ⟨n,e',x,[]⟩ (.a ⟨0,T,zz.length,[zz]⟩)).put (some t) (.ptr (R.length+1) 0 0 0)))) hr hd ?_ hn;refine An _ hz ?_;simp[MS.st,MS.go,MS.put,St.put,Kind.fx,Kind.fz]
theorem Ve {sel:List Nat}{A z:List Row}(h:sel.all (·<A.length)=true):CD (A++z) sel=CD A sel:=by
 unfold CD
 induction sel with
 | nil=>rfl
 | cons i l ih=>
  simp only[sL,qP,qJ]at h;rw[rl,rl,qK h.1,ih h.2]
theorem Wr {sel:List Nat}{rs A z:List Row}(h:sel.all (·<A.length)=true):Fc sel rs 0 (A++z)=Fc sel rs 0 A++z:=by
 apply sX;intro i;rw[OC,rT];by_cases hi:i<A.length
 ·rw[qK hi,qK (by rw[Ln];exact hi),OC,rT]
 ·rw[qS (by omega),qS (by rw[Ln];omega),Ln];have hx:idx sel i=none:=by
   cases hx:idx sel i with
   | none=>rfl
   | some p=>
    have:=pt (QP hx);have:=qC.1 h i this;simp at this;omega
  rw[hx];cases z[i-A.length]?<;>rfl
theorem jv {f:FuncId}{vf:Array Operand}{ts:Array TypeId}{args vV:List AV}{rowsP rows0 rows1 rows1':List Row}{v v':AV}{y0:Row}(sel:List Nat)(hg:GO ds gd e)(hb:Cr P f=true)(hc:BS P f vV rows0 λr st=>r=v/\st=rows1)(ha:vf.toList.map (St.ev ⟨n,e,[]⟩)++[]=args)(wc:sel.Nodup)(vS:sel.all (·<R.length+1)=true)
  (hp:CD (x0::R) sel=rowsP) (hs:SR sel rowsP rows0) (hf:args.map (Jx sel)=vV) (hlen:rows1.length=sel.length) (h1 :∀N,UN sel N rows1 rows1') (hv :∀N,SU sel N v=v') (xK:Fc sel rows1' 0 (x0::R)=y0::R)
  (hk:KE P k R (ds++[some t]) r K ⟨n,Dr e t v',y0,z0⟩):KE P k R ds (⟨some t,.call ⟨.value (.func f),vf,ts⟩,ty,ps,ed,gd⟩::r) K ⟨n,e,x0,z0⟩:=by
 subst ha;subst hp;refine GO.guard (e:=e) hg ⟨_,⟨.l x0 y0,v',rfl,rfl,rfl,?_⟩,hk⟩;intro x z e' hx ho hd F os a w hr next Q hn
 have hx:x=x0:=hx;subst hx;refine Mo (k:=k) (K:=(·=MS.st R ((MS.go ⟨n,e',x,z⟩ (.l x y0)).put (some t) v'))) hr hd ?_ hn;show Cr P f=true/\callThen P k (MS.st R ⟨n,e',x,z⟩) f (vf.toList.map (MS.st R ⟨n,e',x,z⟩).ev++[]) (some t) _;have hev:vf.toList.map (MS.st R ⟨n,e',x,z⟩).ev=vf.toList.map (St.ev ⟨n,e,[]⟩):=Uv (f:=f) (ts:=ts) (s0:=MS.st R ⟨n,e',x,z⟩) (s1:=⟨n,e,[]⟩) λy hy=>by rw[V6];exact ho y hy
 rw[hev];refine⟨hb,MO λhle=>?_⟩;have yK:(MS.st R ⟨n,e',x,z⟩).st=(x::R)++z:=rfl;have hlt':sel.all (·<(x::R).length)=true:=by simpa using vS
 have hpick:CD (MS.st R ⟨n,e',x,z⟩).st sel=CD (x::R) sel:=by rw[yK];exact Ve hlt'
 obtain⟨e1,e3⟩:=hs.spec (st0:=(MS.st R ⟨n,e',x,z⟩).st) hle (λrow uj=>by
  rw[<- hpick]at uj;obtain⟨i,_,hi⟩:=rQ.1 uj;exact pt hi)
 refine NO (rows2:=[]) sel (by simpa using hc) wc (λi hi=>by
   have:=qC.1 hlt' i hi;rw[yK,qQ];simp only[qJ]at this;omega) (by rw[hpick];exact e1) e3 hf hlen (λrow uj=>by
  rw[rY]at uj;exact (h1 _).leaf row uj) λ_=>?_
 rw[(h1 _).spec,hv,yK,Wr hlt',xK];simp[MS.st,MS.go,MS.put,St.put,Kind.fx,Kind.fz]
end
end Go.Abs
namespace Go.Abs
open Go
def nr (e:Nat->AV):List (Nat×AV)->List AV
 | []=>[]
 | (t,_)::r=>e t::nr e r
def oE:List (Nat×AV)->List AV
 | []=>[]
 | (_,v)::r=>v::oE r
theorem ME.same {e:Nat->AV}:∀{L:List (Nat×AV)},nr e L=oE L->ME e L
 | [],_=>trivial
 | (t,v)::r,h=>by
  simp only[nr,oE,sT]at h;obtain⟨h1,h2⟩:=h;subst h1;exact⟨.rfl,ME.same h2⟩
section
variable {P : Program} {k : Nat} {R : List Row} {ds : List (Option Tmp)} {r : List Oper} {K : MS -> Prop} {n : Nat} {e : Nat -> AV} {x0 : Row} {z0 : List Row} {t : Tmp} {op : Op} {ty : TypeId} {ps : String} {ed : Array Edge} {gd : Option (Nat × Bool)}
theorem BL (v:AV)(hg:GO ds gd e)(hl:Kx op=false)(hq :∀x z,AQ P ⟨n,e,x::(R++z)⟩ op v)(hk:KE P k R (ds++[some t]) r K ⟨n,Dr e t v,x0,z0⟩):
  KE P k R ds (⟨some t,op,ty,ps,ed,gd⟩::r) K ⟨n,e,x0,z0⟩:=
 GA hg (λx z=>I7 hg hl (hq x z) (Ao (by simp[Dr]))) hk
theorem oe {f:FuncId}{vf:Array Operand}{ts:Array TypeId}{args vV:List AV}{rows0 rows1:List Row}{v v':AV}{y0:Row}(sel:List Nat)(hg:GO ds gd e)(hb:Cr P f=true)(hc:BS P f vV rows0 λr st=>r=v/\st=rows1)(ha:vf.toList.map (St.ev ⟨n,e,[]⟩)++[]=args)(wc:sel.Nodup)(vS:sel.all (·<R.length+1)=true)
  (hp:CD (x0::R) sel=rows0) (hs:SR sel rows0 rows0) (hf:args.map (Jx sel)=vV) (hlen:rows1.length=sel.length) (h1 :∀N,UN sel N rows1 rows1) (hv :∀N,SU sel N v=v') (xK:Fc sel rows1 0 (x0::R)=y0::R)
  (hk:KE P k R (ds++[some t]) r K ⟨n,Dr e t v',y0,z0⟩):KE P k R ds (⟨some t,.call ⟨.value (.func f),vf,ts⟩,ty,ps,ed,gd⟩::r) K ⟨n,e,x0,z0⟩:=
 jv sel hg hb hc ha wc vS hp hs hf hlen h1 hv xK hk
end
section
variable {P : Program} {k : Nat} {s : St} {ops : Array Oper} {Q : Exit -> St -> Prop} {ds : List (Option Tmp)} {r : List Oper} {n : Nat} {e : Nat -> AV} {st st' : List Row} {ty : TypeId} {ps : String} {ed : Array Edge} {d : Option Tmp} {v v' : AV} {gd : Option (Nat × Bool)}
variable {f : FuncId} {vf : Array Operand} {ts : Array TypeId} {args vV : List AV} {rows0 rows1 : List Row}
theorem Vp (sel:List Nat)(hg:GO ds gd e)(hb:Cr P f=true)(hc:BS P f vV rows0 λr st=>r=v/\st=rows1)(ha:vf.toList.map (St.ev ⟨n,e,st⟩)++[]=args)(wc:sel.Nodup)(vS:sel.all (·<st.length)=true)
  (hp:CD st sel=rows0) (hs:SR sel rows0 rows0) (hf:args.map (Jx sel)=vV) (hlen:rows1.length=sel.length) (h1:UN sel st.length rows1 rows1) (h2:UN sel st.length [] []) (hv:SU sel st.length v=v') (xK:Fc sel rows1 0 st=st')
  (hk:AO P k ops Q (ds++[d]) r (St.put ⟨n,e,st'⟩ d v')):AO P k ops Q ds (⟨d,.call ⟨.value (.func f),vf,ts⟩,ty,ps,ed,gd⟩::r) ⟨n,e,st⟩:=
 DX (rows2:=[]) (rows2':=[]) sel hg hb (by simpa using hc) ha wc vS hp hs hf hlen h1 h2 hv (by simpa using xK) hk
end
def pI:Nat->Nat->List Bool
 | 0,_=>[]
 | n+1,m=>(m % 2==1)::pI n (m / 2)
def bm (n m:Nat):Array Bool:=⟨pI n m⟩
end Go.Abs
