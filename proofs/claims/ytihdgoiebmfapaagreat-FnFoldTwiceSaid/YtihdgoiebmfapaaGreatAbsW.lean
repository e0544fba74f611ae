import Derived.Test.YtihdgoiebmfapaaGreatAbsV
set_option linter.all false
namespace Go.Abs
open Go
section
variable {P : Program} {ds : List (Option Tmp)} {r : List Oper} {n : Nat} {e : Nat -> AV} {st : List Row} {ty : TypeId} {ps : String} {ed : Array Edge} {t : Tmp} {gd : Option (Nat × Bool)} {KS : St -> Prop}
variable {α : Type} {l : List α} {enc : α -> List AV} {el T : TypeId} {size bytes : Nat} {zz cs : List AV}
end
end Go.Abs
namespace Go.Abs
open Go
section
variable {F : Nat -> Prop} {os : List Own} {s : St} {a : Act} {w : World} {k : Nat}
theorem Rel.ZN (hr:Rel F os s a w){id:Nat}{o:Own}(ho:os[id]?=some o){cs cs':List AV}(hx:o.row.xs=[cs])(hlen:cs'.length=cs.length)(pV :∀c∈cs',c.leaf=true)
  (hm :∀(j:Nat) c c' u,cs[j]?=some c->cs'[j]?=some c'->Ae F w os c u->Ae F w os c' u) :
  Rel F (os.set id ⟨{ o.row with xs:=[cs'] },o.Fe,o.cap,o.more⟩) { s with st:=(os.set id ⟨{ o.row with xs:=[cs'] },o.Fe,o.cap,o.more⟩).map Own.row } a w/\Ext F os w F (os.set id ⟨{ o.row with xs:=[cs'] },o.Fe,o.cap,o.more⟩) w k:=by
 have pG:=(jg.1 ho).1;have pd:FH os (os.set id ⟨{ o.row with xs:=[cs'] },o.Fe,o.cap,o.more⟩):=FH.set ho (jv _) rfl λ_=>⟨rfl,rfl,by simp[hx]⟩;have oe:∀(i:Nat) (oi:Own),(os.set id ⟨{ o.row with xs:=[cs'] },o.Fe,o.cap,o.more⟩)[i]?=some oi->(i≠id/\os[i]?=some oi)∨(i=id/\oi=⟨{ o.row with xs:=[cs'] },o.Fe,o.cap,o.more⟩):=λi oi hi=>by
  by_cases e:i=id
  ·subst e;rw[ju pG]at hi;exact .inr ⟨rfl,by simpa using hi.symm⟩
  ·rw[kG (lK e)]at hi;exact .inl ⟨e,hi⟩
 have ob:=hr.rows id o ho;have h:=hr.Wq (k:=k) (Hb.refl w none) (by simp) pd (λi oi hi=>by
   rcases oe i oi hi with ⟨_,h⟩|⟨_,rfl⟩
   ·exact .inl ⟨h,by simp⟩
   ·refine .inr ⟨ob.pos,λx sm=>?_,λhb=>?_,λb hb=>?_,ob.mo,Er λx sm=>by
     simp only[jy]at sm;subst sm;exact pV⟩
    ·simp only[jy]at sm;subst sm;exact⟨hlen.trans (ob.lens cs (by rw[hx];simp)).1,λc hc=>Dz (pV c hc)⟩
    ·have:=(ob.none hb).1;rw[hx]at this;cases this
    ·obtain⟨h1,cur,h2,h3,h4,h5,h6⟩:=ob.some b hb;refine⟨h1,cur,h2,h3,by rw[hx]at h4;exact h4,h5,λi x hxi j c hc=>?_⟩;cases i with
     | succ i=>simp at hxi
     | zero=>
      simp only[kK,jh]at hxi;subst hxi;have hj:j<cs.length:=by rw[<- hlen];exact (jg.1 hc).1
      obtain⟨u,e1,e2⟩:=h6 0 cs (by rw[hx];rfl) j _ (jl hj);exact⟨u,e1,DU (λ_ h=>h) (λ_ _=>rfl) os _ pd c u (hm j _ c u (jl hj) hc e2)⟩)
  (λi j oi oj g hi hj tF tG=>by
   rcases oe i oi hi with ⟨h,h'⟩|⟨rfl,rfl⟩<;>rcases oe j oj hj with ⟨g1,g2⟩|⟨g1,rfl⟩
   ·exact hr.inj i j oi oj g h' g2 tF tG
   ·subst g1;exact absurd (hr.inj i j oi o g h' ho tF tG) h
   ·exact absurd (hr.inj i j o oj g ho g2 tF tG).symm g1
   ·exact g1.symm)
  (λo' pQ g hg=>by
   obtain⟨i,hi⟩:=List.getElem?_of_mem pQ;rcases oe i o' hi with ⟨_,h⟩|⟨_,rfl⟩
   ·exact .inr ⟨o',je h,hg⟩
   ·exact .inr ⟨o,je ho,hg⟩)
  (by simp)
 exact⟨h.1,h.2.1⟩
theorem Xx.get:∀{xs ys:List AV},Xx xs ys->xs.length=ys.length/\∀(j:Nat) x y,xs[j]?=some x->ys[j]?=some y->le x y
 | [],[],_=>⟨rfl,λj x y h=>by simp at h⟩
 | x::xs,y::ys,h=>by
  obtain⟨h1,h2⟩:=Xx.get h.2;refine⟨by simp[h1],λj a b ha hb=>?_⟩;cases j with
  | zero=>simp at ha hb;subst ha;subst hb;exact h.1
  | succ j=>exact h2 j a b (by simpa using ha) (by simpa using hb)
theorem Gg {id g size:Nat}{el:TypeId}{cs cs':List AV}{n:Nat}{e:Nat->AV}{st st':List Row}(oY:st[id]?=some ⟨g,el,size,[cs]⟩)(hl:Xx cs cs')(pn:cs'.all AV.leaf=true)(pI:st.set id ⟨g,el,size,[cs']⟩=st'):Wk k ⟨n,e,st⟩ ⟨n,e,st'⟩:=λF os a w hr=>by
 subst pI;obtain⟨o,ho,sL⟩:=hr.row oY;obtain⟨h1,h2⟩:=hl.get;obtain⟨g1,g2⟩:=hr.ZN (k:=k) ho (cs:=cs) (cs':=cs') (by rw[sL]) h1.symm (λc hc=>jq.1 pn c hc) λj c c' u hc rp hu=>h2 j c c' hc rp F w os u hu;refine⟨F,_,?_,g2⟩;have e1:(os.set id ⟨{ o.row with xs:=[cs'] },o.Fe,o.cap,o.more⟩).map Own.row=st.set id ⟨g,el,size,[cs']⟩:=by
  rw[ln,sL,show os.map Own.row=st from hr.st]
 rw[e1]at g1;exact g1
theorem JR {id g size m:Nat}{el:TypeId}{cs cs':List AV}{n j:Nat}{e:Nat->AV}{st st':List Row}(oY:st[id]?=some ⟨g,el,size,[cs]⟩)(hj:cs[j]?=some .zc)(e':TypeId){size':Nat}(pZ:0<size')(hm:st.length=m)(qk:cs.set j (.own m 0 0)=cs')
  (pn:cs.all AV.leaf=true) (pI:st.set id ⟨g,el,size,[cs']⟩++[⟨0,e',size',[]⟩]=st'):Wk k ⟨n,e,st⟩ ⟨n,e,st'⟩:=λF os a w hr=>by
 subst pI;subst qk;subst hm;obtain⟨o,ho,sL⟩:=hr.row oY;obtain⟨h1,h2,_⟩:=hr.Vm (k:=k) (e:=e') pZ;have pG:=(jg.1 ho).1;have pI:os.map Own.row=st:=hr.st;have hol:os.length=st.length:=by rw[<- pI];simp
 have tC:(os++[(⟨⟨0,e',size',[]⟩,none,0,FX⟩:Own)])[id]?=some o:=by rw[jr pG];exact ho
 obtain⟨g1,g2⟩:=h1.ZN (k:=k) tC (cs:=cs) (cs':=cs.set j (.own st.length 0 0)) (by rw[sL]) (by simp) (λc hc=>by
   rcases kp hc with h|rfl
   ·exact jq.1 pn c h
   ·rfl) λi c c' u hc rp hu=>by
  by_cases e:i=j
  ·subst e;rw[hj]at hc;cases hc;rw[ju (jg.1 hj).1]at rp;cases rp;simp only[Ae]at hu⊢;obtain⟨ad,rfl⟩:=hu;exact⟨⟨⟨0,e',size',[]⟩,none,0,FX⟩,by rw[<- hol];exact Jg _ _,jv _,⟨_,_,_,rfl⟩,λ_=>⟨kE _,.inl ⟨rfl,ad,rfl⟩⟩⟩
  ·rw[kG (lK e),hc]at rp;cases rp;exact hu
 refine⟨F,_,?_,h2.trans g2⟩;have e1:((os++[(⟨⟨0,e',size',[]⟩,none,0,FX⟩:Own)]).set id ⟨{ o.row with xs:=[cs.set j (.own st.length 0 0)] },o.Fe,o.cap,o.more⟩).map Own.row=st.set id ⟨g,el,size,[cs.set j (.own st.length 0 0)]⟩++[⟨0,e',size',[]⟩]:=by
  rw[ln,lJ,pI,sL,List.set_append_left]
  ·rfl
  ·have:id<st.length:=by rw[<- hol];exact pG
   exact this
 rw[e1]at g1;exact g1
end
end Go.Abs
