import Derived.Test.YtihdgoiebmfapaaGreatAbsV
set_option linter.all false
namespace Go.Abs
open Go
section
variable {P : Program} {ds : List (Option Tmp)} {r : List Oper} {n : Nat} {e : Nat -> AV} {st : List Row} {ty : TypeId} {ps : String} {ed : Array Edge} {t : Tmp} {gd : Option (Nat × Bool)} {KS : St -> Prop}
variable {α : Type} {l : List α} {enc : α -> List AV} {el T : TypeId} {size bytes : Nat} {zz cs : List AV}
end
end Go.Abs
namespace Go.Abs
open Go
section
variable {F : Nat -> Prop} {os : List Own} {s : St} {a : Act} {w : World} {k : Nat}
theorem Rel.W7 (hr:Rel F os s a w){id:Nat}{o:Own}(ho:os[id]?=some o){cs cs':List AV}(hx:o.row.xs=[cs])(hlen:cs'.length=cs.length)(mD :∀c∈cs',c.leaf=true)
  (hm :∀(j:Nat) c c' u,cs[j]?=some c->cs'[j]?=some c'->Ae F w os c u->Ae F w os c' u) :
  Rel F (os.set id ⟨{ o.row with xs:=[cs'] },o.Fa,o.cap,o.more⟩) { s with st:=(os.set id ⟨{ o.row with xs:=[cs'] },o.Fa,o.cap,o.more⟩).map Own.row } a w/\Ext F os w F (os.set id ⟨{ o.row with xs:=[cs'] },o.Fa,o.cap,o.more⟩) w k:=by
 have lh:=(fe.1 ho).1;have mK:FF os (os.set id ⟨{ o.row with xs:=[cs'] },o.Fa,o.cap,o.more⟩):=FF.set ho (gA _) rfl λ_=>⟨rfl,rfl,by simp[hx]⟩;have lW:∀(i:Nat) (oi:Own),(os.set id ⟨{ o.row with xs:=[cs'] },o.Fa,o.cap,o.more⟩)[i]?=some oi->(i≠id/\os[i]?=some oi)∨(i=id/\oi=⟨{ o.row with xs:=[cs'] },o.Fa,o.cap,o.more⟩):=λi oi hi=>by
  by_cases e:i=id
  ·subst e;rw[fv lh]at hi;exact .inr ⟨rfl,by simpa using hi.symm⟩
  ·rw[gJ (iT e)]at hi;exact .inl ⟨e,hi⟩
 have lU:=hr.rows id o ho;have h:=hr.Vd (k:=k) (HN.refl w none) (by simp) mK (λi oi hi=>by
   rcases lW i oi hi with ⟨_,h⟩|⟨_,rfl⟩
   ·exact .inl ⟨h,by simp⟩
   ·refine .inr ⟨lU.pos,λx pK=>?_,λhb=>?_,λb hb=>?_,lU.mo,Ef λx pK=>by
     simp only[gB]at pK;subst pK;exact mD⟩
    ·simp only[gB]at pK;subst pK;exact⟨hlen.trans (lU.lens cs (by rw[hx];simp)).1,λc hc=>Dr (mD c hc)⟩
    ·have:=(lU.none hb).1;rw[hx]at this;cases this
    ·obtain⟨h1,cur,h2,h3,h4,h5,h6⟩:=lU.some b hb;refine⟨h1,cur,h2,h3,by rw[hx]at h4;exact h4,h5,λi x xE j c hc=>?_⟩;cases i with
     | succ i=>simp at xE
     | zero=>
      simp only[gQ,ff]at xE;subst xE;have hj:j<cs.length:=by rw[<- hlen];exact (fe.1 hc).1
      obtain⟨u,e1,e2⟩:=h6 0 cs (by rw[hx];rfl) j _ (fm hj);exact⟨u,e1,Dc (λ_ h=>h) (λ_ _=>rfl) os _ mK c u (hm j _ c u (fm hj) hc e2)⟩)
  (λi j oi oj g hi hj pk pn=>by
   rcases lW i oi hi with ⟨h,h'⟩|⟨rfl,rfl⟩<;>rcases lW j oj hj with ⟨g1,g2⟩|⟨g1,rfl⟩
   ·exact hr.inj i j oi oj g h' g2 pk pn
   ·subst g1;exact absurd (hr.inj i j oi o g h' ho pk pn) h
   ·exact absurd (hr.inj i j o oj g ho g2 pk pn).symm g1
   ·exact g1.symm)
  (λo' lz g hg=>by
   obtain⟨i,hi⟩:=List.getElem?_of_mem lz;rcases lW i o' hi with ⟨_,h⟩|⟨_,rfl⟩
   ·exact .inr ⟨o',fc h,hg⟩
   ·exact .inr ⟨o,fc ho,hg⟩)
  (by simp)
 exact⟨h.1,h.2.1⟩
theorem WV.get:∀{xs ys:List AV},WV xs ys->xs.length=ys.length/\∀(j:Nat) x y,xs[j]?=some x->ys[j]?=some y->le x y
 | [],[],_=>⟨rfl,λj x y h=>by simp at h⟩
 | x::xs,y::ys,h=>by
  obtain⟨h1,h2⟩:=WV.get h.2;refine⟨by simp[h1],λj a b ha hb=>?_⟩;cases j with
  | zero=>simp at ha hb;subst ha;subst hb;exact h.1
  | succ j=>exact h2 j a b (by simpa using ha) (by simpa using hb)
theorem GX {id g size:Nat}{el:TypeId}{cs cs':List AV}{n:Nat}{e:Nat->AV}{st st':List Row}(lQ:st[id]?=some ⟨g,el,size,[cs]⟩)(hl:WV cs cs')(mQ:cs'.all AV.leaf=true)(lp:st.set id ⟨g,el,size,[cs']⟩=st'):Wk k ⟨n,e,st⟩ ⟨n,e,st'⟩:=λF os a w hr=>by
 subst lp;obtain⟨o,ho,hor⟩:=hr.row lQ;obtain⟨h1,h2⟩:=hl.get;obtain⟨g1,g2⟩:=hr.W7 (k:=k) ho (cs:=cs) (cs':=cs') (by rw[hor]) h1.symm (λc hc=>fk.1 mQ c hc) λj c c' u hc oV hu=>h2 j c c' hc oV F w os u hu;refine⟨F,_,?_,g2⟩;have e1:(os.set id ⟨{ o.row with xs:=[cs'] },o.Fa,o.cap,o.more⟩).map Own.row=st.set id ⟨g,el,size,[cs']⟩:=by
  rw[iX,hor,show os.map Own.row=st from hr.st]
 rw[e1]at g1;exact g1
theorem J9 {id g size m:Nat}{el:TypeId}{cs cs':List AV}{n j:Nat}{e:Nat->AV}{st st':List Row}(lQ:st[id]?=some ⟨g,el,size,[cs]⟩)(hj:cs[j]?=some .zc)(e':TypeId){size':Nat}(mH:0<size')(hm:st.length=m)(nP:cs.set j (.own m 0 0)=cs')
  (mQ:cs.all AV.leaf=true) (lp:st.set id ⟨g,el,size,[cs']⟩++[⟨0,e',size',[]⟩]=st'):Wk k ⟨n,e,st⟩ ⟨n,e,st'⟩:=λF os a w hr=>by
 subst lp;subst nP;subst hm;obtain⟨o,ho,hor⟩:=hr.row lQ;obtain⟨h1,h2,_⟩:=hr.UU (k:=k) (e:=e') mH;have lh:=(fe.1 ho).1;have lp:os.map Own.row=st:=hr.st;have hol:os.length=st.length:=by rw[<- lp];simp
 have pc:(os++[(⟨⟨0,e',size',[]⟩,none,0,FP⟩:Own)])[id]?=some o:=by rw[ft lh];exact ho
 obtain⟨g1,g2⟩:=h1.W7 (k:=k) pc (cs:=cs) (cs':=cs.set j (.own st.length 0 0)) (by rw[hor]) (by simp) (λc hc=>by
   rcases gp hc with h|rfl
   ·exact fk.1 mQ c h
   ·rfl) λi c c' u hc oV hu=>by
  by_cases e:i=j
  ·subst e;rw[hj]at hc;cases hc;rw[fv (fe.1 hj).1]at oV;cases oV;simp only[Ae]at hu⊢;obtain⟨ad,rfl⟩:=hu;exact⟨⟨⟨0,e',size',[]⟩,none,0,FP⟩,by rw[<- hol];exact JR _ _,gA _,⟨_,_,_,rfl⟩,λ_=>⟨gK _,.inl ⟨rfl,ad,rfl⟩⟩⟩
  ·rw[gJ (iT e),hc]at oV;cases oV;exact hu
 refine⟨F,_,?_,h2.trans g2⟩;have e1:((os++[(⟨⟨0,e',size',[]⟩,none,0,FP⟩:Own)]).set id ⟨{ o.row with xs:=[cs.set j (.own st.length 0 0)] },o.Fa,o.cap,o.more⟩).map Own.row=st.set id ⟨g,el,size,[cs.set j (.own st.length 0 0)]⟩++[⟨0,e',size',[]⟩]:=by
  rw[iX,iD,lp,hor,List.set_append_left]
  ·rfl
  ·have:id<st.length:=by rw[<- hol];exact lh
   exact this
 rw[e1]at g1;exact g1
end
end Go.Abs
