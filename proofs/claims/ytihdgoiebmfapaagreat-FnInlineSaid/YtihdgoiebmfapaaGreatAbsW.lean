import Derived.Test.YtihdgoiebmfapaaGreatAbsV
set_option linter.all false
namespace Go.Abs
open Go
section
variable {P : Program} {ds : List (Option Tmp)} {r : List Oper} {n : Nat} {e : Nat -> AV} {st : List Row} {ty : TypeId} {ps : String} {ed : Array Edge} {t : Tmp} {gd : Option (Nat × Bool)} {KS : St -> Prop}
variable {α : Type} {l : List α} {enc : α -> List AV} {el T : TypeId} {size bytes : Nat} {zz cs : List AV}
end
end Go.Abs
namespace Go.Abs
open Go
section
variable {F : Nat -> Prop} {os : List Own} {s : St} {a : Act} {w : World} {k : Nat}
theorem Rel.cj (hr:Rel F os s a w){id:Nat}{o:Own}(ho:os[id]?=some o){cs cs':List AV}(hx:o.row.xs=[cs])(hlen:cs'.length=cs.length)(vF :∀c∈cs',c.leaf=true)
  (hm :∀(j:Nat) c c' u,cs[j]?=some c->cs'[j]?=some c'->Ab F w os c u->Ab F w os c' u) :
  Rel F (os.set id ⟨{ o.row with xs:=[cs'] },o.GC,o.cap,o.more⟩) { s with st:=(os.set id ⟨{ o.row with xs:=[cs'] },o.GC,o.cap,o.more⟩).map Own.row } a w/\Ext F os w F (os.set id ⟨{ o.row with xs:=[cs'] },o.GC,o.cap,o.more⟩) w k:=by
 have uV:=(pB.1 ho).1;have vQ:Fv os (os.set id ⟨{ o.row with xs:=[cs'] },o.GC,o.cap,o.more⟩):=Fv.set ho (pM _) rfl λ_=>⟨rfl,rfl,by simp[hx]⟩;have uF:∀(i:Nat) (oi:Own),(os.set id ⟨{ o.row with xs:=[cs'] },o.GC,o.cap,o.more⟩)[i]?=some oi->(i≠id/\os[i]?=some oi)∨(i=id/\oi=⟨{ o.row with xs:=[cs'] },o.GC,o.cap,o.more⟩):=λi oi hi=>by
  by_cases e:i=id
  .subst e;rw[pP uV]at hi;exact .inr ⟨rfl,by simpa using hi.symm⟩
  .rw[pf (qw e)]at hi;exact .inl ⟨e,hi⟩
 have uA:=hr.rows id o ho;have h:=hr.Zt (k:=k) (HF.refl w none) (by simp) vQ (λi oi hi=>by
   rcases uF i oi hi with ⟨_,h⟩|⟨_,rfl⟩
   .exact .inl ⟨h,by simp⟩
   .refine .inr ⟨uA.pos,λx vx=>?_,λhb=>?_,λb hb=>?_,uA.mo,EK λx vx=>by
     simp only[pU]at vx;subst vx;exact vF⟩
    .simp only[pU]at vx;subst vx;exact⟨hlen.trans (uA.lens cs (by rw[hx];simp)).1,λc hc=>Di (vF c hc)⟩
    .have:=(uA.none hb).1;rw[hx]at this;cases this
    .obtain⟨h1,cur,h2,h3,h4,h5,h6⟩:=uA.some b hb;refine⟨h1,cur,h2,h3,by rw[hx]at h4;exact h4,h5,λi x hxi j c hc=>?_⟩;cases i with
     |succ i=>simp at hxi
     |zero=>
      simp only[pj,pD]at hxi;subst hxi;have hj:j<cs.length:=by rw[<- hlen];exact (pB.1 hc).1
      obtain⟨u,e1,e2⟩:=h6 0 cs (by rw[hx];rfl) j _ (pG hj);exact⟨u,e1,DW (λ_ h=>h) (λ_ _=>rfl) os _ vQ c u (hm j _ c u (pG hj) hc e2)⟩)
  (λi j oi oj g hi hj zO zP=>by
   rcases uF i oi hi with ⟨h,h'⟩|⟨rfl,rfl⟩<;>rcases uF j oj hj with ⟨g1,g2⟩|⟨g1,rfl⟩
   .exact hr.inj i j oi oj g h' g2 zO zP
   .subst g1;exact absurd (hr.inj i j oi o g h' ho zO zP) h
   .exact absurd (hr.inj i j o oj g ho g2 zO zP).symm g1
   .exact g1.symm)
  (λo' uz g hg=>by
   obtain⟨i,hi⟩:=List.getElem?_of_mem uz;rcases uF i o' hi with ⟨_,h⟩|⟨_,rfl⟩
   .exact .inr ⟨o',oz h,hg⟩
   .exact .inr ⟨o,oz ho,hg⟩)
  (by simp)
 exact⟨h.1,h.2.1⟩
theorem aQ.get:∀{xs ys:List AV},aQ xs ys->xs.length=ys.length/\∀(j:Nat) x y,xs[j]?=some x->ys[j]?=some y->le x y
 | [],[],_=>⟨rfl,λj x y h=>by simp at h⟩
 |x::xs,y::ys,h=>by
  obtain⟨h1,h2⟩:=aQ.get h.2;refine⟨by simp[h1],λj a b ha hb=>?_⟩;cases j with
  |zero=>simp at ha hb;subst ha;subst hb;exact h.1
  |succ j=>exact h2 j a b (by simpa using ha) (by simpa using hb)
theorem HP {id g size:Nat}{el:TypeId}{cs cs':List AV}{n:Nat}{e:Nat->AV}{st st':List Row}(tw:st[id]?=some ⟨g,el,size,[cs]⟩)(hl:aQ cs cs')(vT:cs'.all AV.leaf=true)(uW:st.set id ⟨g,el,size,[cs']⟩=st'):Wk k ⟨n,e,st⟩ ⟨n,e,st'⟩:=λF os a w hr=>by
 subst uW;obtain⟨o,ho,hor⟩:=hr.row tw;obtain⟨h1,h2⟩:=hl.get;obtain⟨g1,g2⟩:=hr.cj (k:=k) ho (cs:=cs) (cs':=cs') (by rw[hor]) h1.symm (λc hc=>pH.1 vT c hc) λj c c' u hc yA hu=>h2 j c c' hc yA F w os u hu;refine⟨F,_,?_,g2⟩;have e1:(os.set id ⟨{ o.row with xs:=[cs'] },o.GC,o.cap,o.more⟩).map Own.row=st.set id ⟨g,el,size,[cs']⟩:=by
  rw[rO,hor,show os.map Own.row=st from hr.st]
 rw[e1]at g1;exact g1
theorem LH {id g size m:Nat}{el:TypeId}{cs cs':List AV}{n j:Nat}{e:Nat->AV}{st st':List Row}(tw:st[id]?=some ⟨g,el,size,[cs]⟩)(hj:cs[j]?=some .zc)(e':TypeId){size':Nat}(vA:0<size')(hm:st.length=m)(vp:cs.set j (.own m 0 0)=cs')
  (vT:cs.all AV.leaf=true) (uW:st.set id ⟨g,el,size,[cs']⟩++[⟨0,e',size',[]⟩]=st'):Wk k ⟨n,e,st⟩ ⟨n,e,st'⟩:=λF os a w hr=>by
 subst uW;subst vp;subst hm;obtain⟨o,ho,hor⟩:=hr.row tw;obtain⟨h1,h2,_⟩:=hr.YK (k:=k) (e:=e') vA;have uV:=(pB.1 ho).1;have uW:os.map Own.row=st:=hr.st;have hol:os.length=st.length:=by rw[<- uW];simp
 have zK:(os++[(⟨⟨0,e',size',[]⟩,none,0,GG⟩:Own)])[id]?=some o:=by rw[pN uV];exact ho
 obtain⟨g1,g2⟩:=h1.cj (k:=k) zK (cs:=cs) (cs':=cs.set j (.own st.length 0 0)) (by rw[hor]) (by simp) (λc hc=>by
   rcases qV hc with h|rfl
   .exact pH.1 vT c h
   .rfl) λi c c' u hc yA hu=>by
  by_cases e:i=j
  .subst e;rw[hj]at hc;cases hc;rw[pP (pB.1 hj).1]at yA;cases yA;simp only[Ab]at hu⊢;obtain⟨ad,rfl⟩:=hu;exact⟨⟨⟨0,e',size',[]⟩,none,0,GG⟩,by rw[<- hol];exact J1 _ _,pM _,⟨_,_,_,rfl⟩,λ_=>⟨pT _,.inl ⟨rfl,ad,rfl⟩⟩⟩
  .rw[pf (qw e),hc]at yA;cases yA;exact hu
 refine⟨F,_,?_,h2.trans g2⟩;have e1:((os++[(⟨⟨0,e',size',[]⟩,none,0,GG⟩:Own)]).set id ⟨{ o.row with xs:=[cs.set j (.own st.length 0 0)] },o.GC,o.cap,o.more⟩).map Own.row=st.set id ⟨g,el,size,[cs.set j (.own st.length 0 0)]⟩++[⟨0,e',size',[]⟩]:=by
  rw[rO,qv,uW,hor,List.set_append_left]
  .rfl
  .have:id<st.length:=by rw[<- hol];exact uV
   exact this
 rw[e1]at g1;exact g1
end
end Go.Abs
