import Derived.Test.YtihdgoiebmfapaaGreatAbsV
set_option linter.all false
namespace Go.Abs
open Go
section
variable {P : Program} {ds : List (Option Tmp)} {r : List Oper} {n : Nat} {e : Nat -> AV} {st : List Row} {ty : TypeId} {ps : String} {ed : Array Edge} {t : Tmp} {gd : Option (Nat × Bool)} {KS : St -> Prop}
variable {α : Type} {l : List α} {enc : α -> List AV} {el T : TypeId} {size bytes : Nat} {zz cs : List AV}
end
end Go.Abs
namespace Go.Abs
open Go
section
variable {F : Nat -> Prop} {os : List Own} {s : St} {a : Act} {w : World} {k : Nat}
theorem Rel.bQ (hr:Rel F os s a w){id:Nat}{o:Own}(ho:os[id]?=some o){cs cs':List AV}(hx:o.row.xs=[cs])(hlen:cs'.length=cs.length)(vE :∀c∈cs',c.leaf=true)
  (hm :∀(j:Nat) c c' u,cs[j]?=some c->cs'[j]?=some c'->Ab F w os c u->Ab F w os c' u) :
  Rel F (os.set id ⟨{ o.row with xs:=[cs'] },o.GA,o.cap,o.more⟩) { s with st:=(os.set id ⟨{ o.row with xs:=[cs'] },o.GA,o.cap,o.more⟩).map Own.row } a w/\Ext F os w F (os.set id ⟨{ o.row with xs:=[cs'] },o.GA,o.cap,o.more⟩) w k:=by
 have uU:=(pA.1 ho).1;have vP:Fp os (os.set id ⟨{ o.row with xs:=[cs'] },o.GA,o.cap,o.more⟩):=Fp.set ho (pL _) rfl λ_=>⟨rfl,rfl,by simp[hx]⟩;have uD:∀(i:Nat) (oi:Own),(os.set id ⟨{ o.row with xs:=[cs'] },o.GA,o.cap,o.more⟩)[i]?=some oi->(i≠id/\os[i]?=some oi)∨(i=id/\oi=⟨{ o.row with xs:=[cs'] },o.GA,o.cap,o.more⟩):=λi oi hi=>by
  by_cases e:i=id
  .subst e;rw[pO uU]at hi;exact .inr ⟨rfl,by simpa using hi.symm⟩
  .rw[pd (qv e)]at hi;exact .inl ⟨e,hi⟩
 have tz:=hr.rows id o ho;have h:=hr.Zt (k:=k) (HA.refl w none) (by simp) vP (λi oi hi=>by
   rcases uD i oi hi with ⟨_,h⟩|⟨_,rfl⟩
   .exact .inl ⟨h,by simp⟩
   .refine .inr ⟨tz.pos,λx vy=>?_,λhb=>?_,λb hb=>?_,tz.mo,EJ λx vy=>by
     simp only[pS]at vy;subst vy;exact vE⟩
    .simp only[pS]at vy;subst vy;exact⟨hlen.trans (tz.lens cs (by rw[hx];simp)).1,λc hc=>Dg (vE c hc)⟩
    .have:=(tz.none hb).1;rw[hx]at this;cases this
    .obtain⟨h1,cur,h2,h3,h4,h5,h6⟩:=tz.some b hb;refine⟨h1,cur,h2,h3,by rw[hx]at h4;exact h4,h5,λi x hxi j c hc=>?_⟩;cases i with
     |succ i=>simp at hxi
     |zero=>
      simp only[ph,pC]at hxi;subst hxi;have hj:j<cs.length:=by rw[<- hlen];exact (pA.1 hc).1
      obtain⟨u,e1,e2⟩:=h6 0 cs (by rw[hx];rfl) j _ (pF hj);exact⟨u,e1,DW (λ_ h=>h) (λ_ _=>rfl) os _ vP c u (hm j _ c u (pF hj) hc e2)⟩)
  (λi j oi oj g hi hj zN zO=>by
   rcases uD i oi hi with ⟨h,h'⟩|⟨rfl,rfl⟩<;>rcases uD j oj hj with ⟨g1,g2⟩|⟨g1,rfl⟩
   .exact hr.inj i j oi oj g h' g2 zN zO
   .subst g1;exact absurd (hr.inj i j oi o g h' ho zN zO) h
   .exact absurd (hr.inj i j o oj g ho g2 zN zO).symm g1
   .exact g1.symm)
  (λo' uw g hg=>by
   obtain⟨i,hi⟩:=List.getElem?_of_mem uw;rcases uD i o' hi with ⟨_,h⟩|⟨_,rfl⟩
   .exact .inr ⟨o',ov h,hg⟩
   .exact .inr ⟨o,ov ho,hg⟩)
  (by simp)
 exact⟨h.1,h.2.1⟩
theorem aO.get:∀{xs ys:List AV},aO xs ys->xs.length=ys.length/\∀(j:Nat) x y,xs[j]?=some x->ys[j]?=some y->le x y
 | [],[],_=>⟨rfl,λj x y h=>by simp at h⟩
 |x::xs,y::ys,h=>by
  obtain⟨h1,h2⟩:=aO.get h.2;refine⟨by simp[h1],λj a b ha hb=>?_⟩;cases j with
  |zero=>simp at ha hb;subst ha;subst hb;exact h.1
  |succ j=>exact h2 j a b (by simpa using ha) (by simpa using hb)
theorem HN {id g size:Nat}{el:TypeId}{cs cs':List AV}{n:Nat}{e:Nat->AV}{st st':List Row}(tv:st[id]?=some ⟨g,el,size,[cs]⟩)(hl:aO cs cs')(vS:cs'.all AV.leaf=true)(uV:st.set id ⟨g,el,size,[cs']⟩=st'):Wk k ⟨n,e,st⟩ ⟨n,e,st'⟩:=λF os a w hr=>by
 subst uV;obtain⟨o,ho,hor⟩:=hr.row tv;obtain⟨h1,h2⟩:=hl.get;obtain⟨g1,g2⟩:=hr.bQ (k:=k) ho (cs:=cs) (cs':=cs') (by rw[hor]) h1.symm (λc hc=>pG.1 vS c hc) λj c c' u hc yA hu=>h2 j c c' hc yA F w os u hu;refine⟨F,_,?_,g2⟩;have e1:(os.set id ⟨{ o.row with xs:=[cs'] },o.GA,o.cap,o.more⟩).map Own.row=st.set id ⟨g,el,size,[cs']⟩:=by
  rw[rN,hor,show os.map Own.row=st from hr.st]
 rw[e1]at g1;exact g1
theorem LO {id g size m:Nat}{el:TypeId}{cs cs':List AV}{n j:Nat}{e:Nat->AV}{st st':List Row}(tv:st[id]?=some ⟨g,el,size,[cs]⟩)(hj:cs[j]?=some .zc)(e':TypeId){size':Nat}(uz:0<size')(hm:st.length=m)(vq:cs.set j (.own m 0 0)=cs')
  (vS:cs.all AV.leaf=true) (uV:st.set id ⟨g,el,size,[cs']⟩++[⟨0,e',size',[]⟩]=st'):Wk k ⟨n,e,st⟩ ⟨n,e,st'⟩:=λF os a w hr=>by
 subst uV;subst vq;subst hm;obtain⟨o,ho,hor⟩:=hr.row tv;obtain⟨h1,h2,_⟩:=hr.YT (k:=k) (e:=e') uz;have uU:=(pA.1 ho).1;have uV:os.map Own.row=st:=hr.st;have hol:os.length=st.length:=by rw[<- uV];simp
 have zJ:(os++[(⟨⟨0,e',size',[]⟩,none,0,GF⟩:Own)])[id]?=some o:=by rw[pM uU];exact ho
 obtain⟨g1,g2⟩:=h1.bQ (k:=k) zJ (cs:=cs) (cs':=cs.set j (.own st.length 0 0)) (by rw[hor]) (by simp) (λc hc=>by
   rcases qU hc with h|rfl
   .exact pG.1 vS c h
   .rfl) λi c c' u hc yA hu=>by
  by_cases e:i=j
  .subst e;rw[hj]at hc;cases hc;rw[pO (pA.1 hj).1]at yA;cases yA;simp only[Ab]at hu⊢;obtain⟨ad,rfl⟩:=hu;exact⟨⟨⟨0,e',size',[]⟩,none,0,GF⟩,by rw[<- hol];exact J1 _ _,pL _,⟨_,_,_,rfl⟩,λ_=>⟨pT _,.inl ⟨rfl,ad,rfl⟩⟩⟩
  .rw[pd (qv e),hc]at yA;cases yA;exact hu
 refine⟨F,_,?_,h2.trans g2⟩;have e1:((os++[(⟨⟨0,e',size',[]⟩,none,0,GF⟩:Own)]).set id ⟨{ o.row with xs:=[cs.set j (.own st.length 0 0)] },o.GA,o.cap,o.more⟩).map Own.row=st.set id ⟨g,el,size,[cs.set j (.own st.length 0 0)]⟩++[⟨0,e',size',[]⟩]:=by
  rw[rN,qu,uV,hor,List.set_append_left]
  .rfl
  .have:id<st.length:=by rw[<- hol];exact uU
   exact this
 rw[e1]at g1;exact g1
end
end Go.Abs
