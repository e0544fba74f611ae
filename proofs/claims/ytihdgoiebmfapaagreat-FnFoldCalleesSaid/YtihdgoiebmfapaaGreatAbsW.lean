import Derived.Test.YtihdgoiebmfapaaGreatAbsV
set_option linter.all false
namespace Go.Abs
open Go
section
variable {P : Program} {ds : List (Option Tmp)} {r : List Oper} {n : Nat} {e : Nat -> AV} {st : List Row} {ty : TypeId} {ps : String} {ed : Array Edge} {t : Tmp} {gd : Option (Nat × Bool)} {KS : St -> Prop}
variable {α : Type} {l : List α} {enc : α -> List AV} {el T : TypeId} {size bytes : Nat} {zz cs : List AV}
end
end Go.Abs
namespace Go.Abs
open Go
section
variable {F : Nat -> Prop} {os : List Own} {s : St} {a : Act} {w : World} {k : Nat}
theorem Rel.Zm (hr:Rel F os s a w){id:Nat}{o:Own}(ho:os[id]?=some o){cs cs':List AV}(hx:o.row.xs=[cs])(hlen:cs'.length=cs.length)(rM :∀c∈cs',c.leaf=true)
  (hm :∀(j:Nat) c c' u,cs[j]?=some c->cs'[j]?=some c'->Ae F w os c u->Ae F w os c' u) :
  Rel F (os.set id ⟨{ o.row with xs:=[cs'] },o.Fk,o.cap,o.more⟩) { s with st:=(os.set id ⟨{ o.row with xs:=[cs'] },o.Fk,o.cap,o.more⟩).map Own.row } a w/\Ext F os w F (os.set id ⟨{ o.row with xs:=[cs'] },o.Fk,o.cap,o.more⟩) w k:=by
 have qw:=(lV.1 ho).1;have rU:FK os (os.set id ⟨{ o.row with xs:=[cs'] },o.Fk,o.cap,o.more⟩):=FK.set ho (ll _) rfl λ_=>⟨rfl,rfl,by simp[hx]⟩;have qi:∀(i:Nat) (oi:Own),(os.set id ⟨{ o.row with xs:=[cs'] },o.Fk,o.cap,o.more⟩)[i]?=some oi->(i≠id/\os[i]?=some oi)∨(i=id/\oi=⟨{ o.row with xs:=[cs'] },o.Fk,o.cap,o.more⟩):=λi oi hi=>by
  by_cases e:i=id
  ·subst e;rw[lp qw]at hi;exact .inr ⟨rfl,by simpa using hi.symm⟩
  ·rw[mG (nK e)]at hi;exact .inl ⟨e,hi⟩
 have qf:=hr.rows id o ho;have h:=hr.YE (k:=k) (Hl.refl w none) (by simp) rU (λi oi hi=>by
   rcases qi i oi hi with ⟨_,h⟩|⟨_,rfl⟩
   ·exact .inl ⟨h,by simp⟩
   ·refine .inr ⟨qf.pos,λx te=>?_,λhb=>?_,λb hb=>?_,qf.mo,Et λx te=>by
     simp only[lu]at te;subst te;exact rM⟩
    ·simp only[lu]at te;subst te;exact⟨hlen.trans (qf.lens cs (by rw[hx];simp)).1,λc hc=>D3 (rM c hc)⟩
    ·have:=(qf.none hb).1;rw[hx]at this;cases this
    ·obtain⟨h1,cur,h2,h3,h4,h5,h6⟩:=qf.some b hb;refine⟨h1,cur,h2,h3,by rw[hx]at h4;exact h4,h5,λi x hxi j c hc=>?_⟩;cases i with
     | succ i=>simp at hxi
     | zero=>
      simp only[mI,lX]at hxi;subst hxi;have hj:j<cs.length:=by rw[<- hlen];exact (lV.1 hc).1
      obtain⟨u,e1,e2⟩:=h6 0 cs (by rw[hx];rfl) j _ (lZ hj);exact⟨u,e1,DV (λ_ h=>h) (λ_ _=>rfl) os _ rU c u (hm j _ c u (lZ hj) hc e2)⟩)
  (λi j oi oj g hi hj vO vP=>by
   rcases qi i oi hi with ⟨h,h'⟩|⟨rfl,rfl⟩<;>rcases qi j oj hj with ⟨g1,g2⟩|⟨g1,rfl⟩
   ·exact hr.inj i j oi oj g h' g2 vO vP
   ·subst g1;exact absurd (hr.inj i j oi o g h' ho vO vP) h
   ·exact absurd (hr.inj i j o oj g ho g2 vO vP).symm g1
   ·exact g1.symm)
  (λo' rH g hg=>by
   obtain⟨i,hi⟩:=List.getElem?_of_mem rH;rcases qi i o' hi with ⟨_,h⟩|⟨_,rfl⟩
   ·exact .inr ⟨o',lT h,hg⟩
   ·exact .inr ⟨o,lT ho,hg⟩)
  (by simp)
 exact⟨h.1,h.2.1⟩
theorem ZB.get:∀{xs ys:List AV},ZB xs ys->xs.length=ys.length/\∀(j:Nat) x y,xs[j]?=some x->ys[j]?=some y->le x y
 | [],[],_=>⟨rfl,λj x y h=>by simp at h⟩
 | x::xs,y::ys,h=>by
  obtain⟨h1,h2⟩:=ZB.get h.2;refine⟨by simp[h1],λj a b ha hb=>?_⟩;cases j with
  | zero=>simp at ha hb;subst ha;subst hb;exact h.1
  | succ j=>exact h2 j a b (by simpa using ha) (by simpa using hb)
theorem Gq {id g size:Nat}{el:TypeId}{cs cs':List AV}{n:Nat}{e:Nat->AV}{st st':List Row}(qc:st[id]?=some ⟨g,el,size,[cs]⟩)(hl:ZB cs cs')(rf:cs'.all AV.leaf=true)(qz:st.set id ⟨g,el,size,[cs']⟩=st'):Wk k ⟨n,e,st⟩ ⟨n,e,st'⟩:=λF os a w hr=>by
 subst qz;obtain⟨o,ho,uM⟩:=hr.row qc;obtain⟨h1,h2⟩:=hl.get;obtain⟨g1,g2⟩:=hr.Zm (k:=k) ho (cs:=cs) (cs':=cs') (by rw[uM]) h1.symm (λc hc=>lh.1 rf c hc) λj c c' u hc tn hu=>h2 j c c' hc tn F w os u hu;refine⟨F,_,?_,g2⟩;have e1:(os.set id ⟨{ o.row with xs:=[cs'] },o.Fk,o.cap,o.more⟩).map Own.row=st.set id ⟨g,el,size,[cs']⟩:=by
  rw[nj,uM,show os.map Own.row=st from hr.st]
 rw[e1]at g1;exact g1
theorem Jj {id g size m:Nat}{el:TypeId}{cs cs':List AV}{n j:Nat}{e:Nat->AV}{st st':List Row}(qc:st[id]?=some ⟨g,el,size,[cs]⟩)(hj:cs[j]?=some .zc)(e':TypeId){size':Nat}(rQ:0<size')(hm:st.length=m)(sa:cs.set j (.own m 0 0)=cs')
  (rf:cs.all AV.leaf=true) (qz:st.set id ⟨g,el,size,[cs']⟩++[⟨0,e',size',[]⟩]=st'):Wk k ⟨n,e,st⟩ ⟨n,e,st'⟩:=λF os a w hr=>by
 subst qz;subst sa;subst hm;obtain⟨o,ho,uM⟩:=hr.row qc;obtain⟨h1,h2,_⟩:=hr.WD (k:=k) (e:=e') rQ;have qw:=(lV.1 ho).1;have qz:os.map Own.row=st:=hr.st;have hol:os.length=st.length:=by rw[<- qz];simp
 have vL:(os++[(⟨⟨0,e',size',[]⟩,none,0,Fe⟩:Own)])[id]?=some o:=by rw[lj qw];exact ho
 obtain⟨g1,g2⟩:=h1.Zm (k:=k) vL (cs:=cs) (cs':=cs.set j (.own st.length 0 0)) (by rw[uM]) (by simp) (λc hc=>by
   rcases mg hc with h|rfl
   ·exact lh.1 rf c h
   ·rfl) λi c c' u hc tn hu=>by
  by_cases e:i=j
  ·subst e;rw[hj]at hc;cases hc;rw[lp (lV.1 hj).1]at tn;cases tn;simp only[Ae]at hu⊢;obtain⟨ad,rfl⟩:=hu;exact⟨⟨⟨0,e',size',[]⟩,none,0,Fe⟩,by rw[<- hol];exact J0 _ _,ll _,⟨_,_,_,rfl⟩,λ_=>⟨mB _,.inl ⟨rfl,ad,rfl⟩⟩⟩
  ·rw[mG (nK e),hc]at tn;cases tn;exact hu
 refine⟨F,_,?_,h2.trans g2⟩;have e1:((os++[(⟨⟨0,e',size',[]⟩,none,0,Fe⟩:Own)]).set id ⟨{ o.row with xs:=[cs.set j (.own st.length 0 0)] },o.Fk,o.cap,o.more⟩).map Own.row=st.set id ⟨g,el,size,[cs.set j (.own st.length 0 0)]⟩++[⟨0,e',size',[]⟩]:=by
  rw[nj,nI,qz,uM,List.set_append_left]
  ·rfl
  ·have:id<st.length:=by rw[<- hol];exact qw
   exact this
 rw[e1]at g1;exact g1
end
end Go.Abs
