import Derived.Test.YtihdgoiebmfapaaGreatAbsV
namespace Go.Abs
open Go
section
variable {P : Program} {ds : List (Option Tmp)} {r : List Oper} {n : Nat} {e : Nat -> AV} {st : List Row} {ty : TypeId} {ps : String} {ed : Array Edge} {t : Tmp} {gd : Option (Nat × Bool)} {KS : St -> Prop}
variable {α : Type} {l : List α} {enc : α -> List AV} {el T : TypeId} {size bytes : Nat} {zz cs : List AV}
end
end Go.Abs
namespace Go.Abs
open Go
section
variable {F : Nat -> Prop} {os : List Own} {s : St} {a : Act} {w : World} {k : Nat}
theorem Rel.Z8 (hr:Rel F os s a w){id:Nat}{o:Own}(ho:os[id]?=some o){cs cs':List AV}(hx:o.row.xs=[cs])(hlen:cs'.length=cs.length)(rK :∀c∈cs',c.leaf=true)
  (hm :∀(j:Nat) c c' u,cs[j]?=some c->cs'[j]?=some c'->Ae F w os c u->Ae F w os c' u) :
  Rel F (os.set id ⟨{ o.row with xs:=[cs'] },o.Fk,o.cap,o.more⟩) { s with st:=(os.set id ⟨{ o.row with xs:=[cs'] },o.Fk,o.cap,o.more⟩).map Own.row } a w/\Ext F os w F (os.set id ⟨{ o.row with xs:=[cs'] },o.Fk,o.cap,o.more⟩) w k:=by
 have qu:=(lV.1 ho).1;have rS:FN os (os.set id ⟨{ o.row with xs:=[cs'] },o.Fk,o.cap,o.more⟩):=FN.set ho (ll _) rfl λ_=>⟨rfl,rfl,by simp[hx]⟩;have qg:∀(i:Nat) (oi:Own),(os.set id ⟨{ o.row with xs:=[cs'] },o.Fk,o.cap,o.more⟩)[i]?=some oi->(i≠id/\os[i]?=some oi)∨(i=id/\oi=⟨{ o.row with xs:=[cs'] },o.Fk,o.cap,o.more⟩):=λi oi hi=>by
  by_cases e:i=id
  ·subst e;rw[lp qu]at hi;exact .inr ⟨rfl,by simpa using hi.symm⟩
  ·rw[mG (nK e)]at hi;exact .inl ⟨e,hi⟩
 have qd:=hr.rows id o ho;have h:=hr.Xu (k:=k) (Hr.refl w none) (by simp) rS (λi oi hi=>by
   rcases qg i oi hi with ⟨_,h⟩|⟨_,rfl⟩
   ·exact .inl ⟨h,by simp⟩
   ·refine .inr ⟨qd.pos,λx tc=>?_,λhb=>?_,λb hb=>?_,qd.mo,Ew λx tc=>by
     simp only[lu]at tc;subst tc;exact rK⟩
    ·simp only[lu]at tc;subst tc;exact⟨hlen.trans (qd.lens cs (by rw[hx];simp)).1,λc hc=>D4 (rK c hc)⟩
    ·have:=(qd.none hb).1;rw[hx]at this;cases this
    ·obtain⟨h1,cur,h2,h3,h4,h5,h6⟩:=qd.some b hb;refine⟨h1,cur,h2,h3,by rw[hx]at h4;exact h4,h5,λi x hxi j c hc=>?_⟩;cases i with
     | succ i=>simp at hxi
     | zero=>
      simp only[mI,lX]at hxi;subst hxi;have hj:j<cs.length:=by rw[<- hlen];exact (lV.1 hc).1
      obtain⟨u,e1,e2⟩:=h6 0 cs (by rw[hx];rfl) j _ (lZ hj);exact⟨u,e1,DW (λ_ h=>h) (λ_ _=>rfl) os _ rS c u (hm j _ c u (lZ hj) hc e2)⟩)
  (λi j oi oj g hi hj vM vN=>by
   rcases qg i oi hi with ⟨h,h'⟩|⟨rfl,rfl⟩<;>rcases qg j oj hj with ⟨g1,g2⟩|⟨g1,rfl⟩
   ·exact hr.inj i j oi oj g h' g2 vM vN
   ·subst g1;exact absurd (hr.inj i j oi o g h' ho vM vN) h
   ·exact absurd (hr.inj i j o oj g ho g2 vM vN).symm g1
   ·exact g1.symm)
  (λo' rF g hg=>by
   obtain⟨i,hi⟩:=List.getElem?_of_mem rF;rcases qg i o' hi with ⟨_,h⟩|⟨_,rfl⟩
   ·exact .inr ⟨o',lT h,hg⟩
   ·exact .inr ⟨o,lT ho,hg⟩)
  (by simp)
 exact⟨h.1,h.2.1⟩
theorem Yw.get:∀{xs ys:List AV},Yw xs ys->xs.length=ys.length/\∀(j:Nat) x y,xs[j]?=some x->ys[j]?=some y->le x y
 | [],[],_=>⟨rfl,λj x y h=>by simp at h⟩
 | x::xs,y::ys,h=>by
  obtain⟨h1,h2⟩:=Yw.get h.2;refine⟨by simp[h1],λj a b ha hb=>?_⟩;cases j with
  | zero=>simp at ha hb;subst ha;subst hb;exact h.1
  | succ j=>exact h2 j a b (by simpa using ha) (by simpa using hb)
theorem Gr {id g size:Nat}{el:TypeId}{cs cs':List AV}{n:Nat}{e:Nat->AV}{st st':List Row}(qa:st[id]?=some ⟨g,el,size,[cs]⟩)(hl:Yw cs cs')(rZ:cs'.all AV.leaf=true)(qx:st.set id ⟨g,el,size,[cs']⟩=st'):Wk k ⟨n,e,st⟩ ⟨n,e,st'⟩:=λF os a w hr=>by
 subst qx;obtain⟨o,ho,uK⟩:=hr.row qa;obtain⟨h1,h2⟩:=hl.get;obtain⟨g1,g2⟩:=hr.Z8 (k:=k) ho (cs:=cs) (cs':=cs') (by rw[uK]) h1.symm (λc hc=>lh.1 rZ c hc) λj c c' u hc tl hu=>h2 j c c' hc tl F w os u hu;refine⟨F,_,?_,g2⟩;have e1:(os.set id ⟨{ o.row with xs:=[cs'] },o.Fk,o.cap,o.more⟩).map Own.row=st.set id ⟨g,el,size,[cs']⟩:=by
  rw[nj,uK,show os.map Own.row=st from hr.st]
 rw[e1]at g1;exact g1
theorem Jb {id g size m:Nat}{el:TypeId}{cs cs':List AV}{n j:Nat}{e:Nat->AV}{st st':List Row}(qa:st[id]?=some ⟨g,el,size,[cs]⟩)(hj:cs[j]?=some .zc)(e':TypeId){size':Nat}(rO:0<size')(hm:st.length=m)(sY:cs.set j (.own m 0 0)=cs')
  (rZ:cs.all AV.leaf=true) (qx:st.set id ⟨g,el,size,[cs']⟩++[⟨0,e',size',[]⟩]=st'):Wk k ⟨n,e,st⟩ ⟨n,e,st'⟩:=λF os a w hr=>by
 subst qx;subst sY;subst hm;obtain⟨o,ho,uK⟩:=hr.row qa;obtain⟨h1,h2,_⟩:=hr.Vy (k:=k) (e:=e') rO;have qu:=(lV.1 ho).1;have qx:os.map Own.row=st:=hr.st;have hol:os.length=st.length:=by rw[<- qx];simp
 have vJ:(os++[(⟨⟨0,e',size',[]⟩,none,0,Fc⟩:Own)])[id]?=some o:=by rw[lj qu];exact ho
 obtain⟨g1,g2⟩:=h1.Z8 (k:=k) vJ (cs:=cs) (cs':=cs.set j (.own st.length 0 0)) (by rw[uK]) (by simp) (λc hc=>by
   rcases mg hc with h|rfl
   ·exact lh.1 rZ c h
   ·rfl) λi c c' u hc tl hu=>by
  by_cases e:i=j
  ·subst e;rw[hj]at hc;cases hc;rw[lp (lV.1 hj).1]at tl;cases tl;simp only[Ae]at hu⊢;obtain⟨ad,rfl⟩:=hu;exact⟨⟨⟨0,e',size',[]⟩,none,0,Fc⟩,by rw[<- hol];exact Jz _ _,ll _,⟨_,_,_,rfl⟩,λ_=>⟨mB _,.inl ⟨rfl,ad,rfl⟩⟩⟩
  ·rw[mG (nK e),hc]at tl;cases tl;exact hu
 refine⟨F,_,?_,h2.trans g2⟩;have e1:((os++[(⟨⟨0,e',size',[]⟩,none,0,Fc⟩:Own)]).set id ⟨{ o.row with xs:=[cs.set j (.own st.length 0 0)] },o.Fk,o.cap,o.more⟩).map Own.row=st.set id ⟨g,el,size,[cs.set j (.own st.length 0 0)]⟩++[⟨0,e',size',[]⟩]:=by
  rw[nj,nI,qx,uK,List.set_append_left]
  ·rfl
  ·have:id<st.length:=by rw[<- hol];exact qu
   exact this
 rw[e1]at g1;exact g1
end
end Go.Abs
