import Derived.Test.YtfkncfjpobjbjaaAbsV
set_option linter.all false
namespace Go.Abs
open Go
section
variable {P : Program} {ds : List (Option Tmp)} {r : List Oper} {n : Nat} {e : Nat -> AV} {st : List Row} {ty : TypeId} {ps : String} {ed : Array Edge} {t : Tmp} {gd : Option (Nat × Bool)} {KS : St -> Prop}
variable {α : Type} {l : List α} {enc : α -> List AV} {el T : TypeId} {size bytes : Nat} {zz cs : List AV}
end
end Go.Abs
namespace Go.Abs
open Go
section
variable {F : Nat -> Prop} {os : List Own} {s : St} {a : Act} {w : World} {k : Nat}
theorem Rel.O3 (hr:Rel F os s a w){id:Nat}{o:Own}(ho:os[id]?=some o){cs cs':List AV}(hx:o.row.xs=[cs])(ZY:cs.all AV.leaf=true)(hlen:cs'.length=cs.length)(UT :∀c∈cs',c.leaf=true)
  (hm :∀(j:Nat) c c' u,cs[j]?=some c->cs'[j]?=some c'->AF F w os c u->AF F w os c' u) :
  Rel F (os.set id ⟨{ o.row with xs:=[cs'] },o.BV,o.cap,o.more⟩) { s with st:=(os.set id ⟨{ o.row with xs:=[cs'] },o.BV,o.cap,o.more⟩).map Own.row } a w/\Ext F os w F (os.set id ⟨{ o.row with xs:=[cs'] },o.BV,o.cap,o.more⟩) w k:=by
 have T9:=(Rm.1 ho).1;have Ud:Bt os (os.set id ⟨{ o.row with xs:=[cs'] },o.BV,o.cap,o.more⟩):=Bt.set ho (Rz _) rfl λ_=>⟨rfl,rfl,by simp[hx]⟩;have T5:∀(i:Nat) (oi:Own),(os.set id ⟨{ o.row with xs:=[cs'] },o.BV,o.cap,o.more⟩)[i]?=some oi->(i≠id/\os[i]?=some oi)∨(i=id/\oi=⟨{ o.row with xs:=[cs'] },o.BV,o.cap,o.more⟩):=λi oi hi=>by
  by_cases e:i=id
  ·subst e;rw[Rs T9]at hi;exact .inr ⟨rfl,by simpa using hi.symm⟩
  ·rw[Rw (SY e)]at hi;exact .inl ⟨e,hi⟩
 have T2:=hr.rows id o ho;have h:=hr.JI (k:=k) (EC w none) (by simp) Ud (λi oi hi=>by
   rcases T5 i oi hi with ⟨_,h⟩|⟨_,rfl⟩
   ·exact .inl ⟨h,by simp⟩
   ·refine .inr ⟨T2.pos,λx WT=>?_,λhb=>?_,λb hb=>?_,T2.mo,B2 λx WT=>by
     simp only[R8]at WT;subst WT;exact UT⟩
    ·simp only[R8]at WT;subst WT;exact⟨hlen.trans (T2.lens cs (by rw[hx];simp)).1,λc hc=>Bd (UT c hc)⟩
    ·rcases (T2.none hb).1 with this|⟨_,_,this⟩
     ·rw[hx]at this;cases this
     ·rw[hx]at this;cases this;cases ZY
    ·obtain⟨h1,cur,h2,h3,h4,h5,h6⟩:=T2.some b hb;refine⟨h1,cur,h2,h3,by rw[hx]at h4;exact h4,h5,λi x cy j c hc=>?_⟩;cases i with
     | succ i=>simp at cy
     | zero=>
      simp only[R2,Rn]at cy;subst cy;have hj:j<cs.length:=by rw[<- hlen];exact (Rm.1 hc).1
      obtain⟨u,e1,e2⟩:=h6 0 cs (by rw[hx];rfl) j _ (Rp hj);exact⟨u,e1,A5 (λ_ h=>h) (λ_ _=>rfl) os _ Ud c u (hm j _ c u (Rp hj) hc e2)⟩)
  (λi j oi oj g hi hj WH WI=>by
   rcases T5 i oi hi with ⟨h,h'⟩|⟨rfl,rfl⟩<;>rcases T5 j oj hj with ⟨g1,g2⟩|⟨g1,rfl⟩
   ·exact hr.inj i j oi oj g h' g2 WH WI
   ·subst g1;exact absurd (hr.inj i j oi o g h' ho WH WI) h
   ·exact absurd (hr.inj i j o oj g ho g2 WH WI).symm g1
   ·exact g1.symm)
  (λo' UU g hg=>by
   obtain⟨i,hi⟩:=Ss UU;rcases T5 i o' hi with ⟨_,h⟩|⟨_,rfl⟩
   ·exact .inr ⟨o',Rk h,hg⟩
   ·exact .inr ⟨o,Rk ho,hg⟩)
  (by simp)
 exact⟨h.1,h.2.1⟩
theorem Hu {id g size m:Nat}{el:TypeId}{cs cs':List AV}{n j:Nat}{e:Nat->AV}{st st':List Row}(T0:st[id]?=some ⟨g,el,size,[cs]⟩)(hj:cs[j]?=some .zc)(e':TypeId){size':Nat}(Ue:0<size')(hm:st.length=m)(WJ:cs.set j (.own m 0 0)=cs')
  (Xq:cs.all AV.leaf=true) (T8:st.set id ⟨g,el,size,[cs']⟩++[⟨0,e',size',[]⟩]=st'):Wk k ⟨n,e,st⟩ ⟨n,e,st'⟩:=λF os a w hr=>by
 subst T8;subst WJ;subst hm;obtain⟨o,ho,hor⟩:=hr.row T0;obtain⟨h1,h2,_⟩:=hr.JB (k:=k) (e:=e') Ue;have T9:=(Rm.1 ho).1;have T8:os.map Own.row=st:=hr.st;have hol:os.length=st.length:=by rw[<- T8];simp
 have W0:(os++[(⟨⟨0,e',size',[]⟩,none,0,Cg⟩:Own)])[id]?=some o:=by rw[Rt T9];exact ho
 obtain⟨g1,g2⟩:=h1.O3 (k:=k) W0 (cs:=cs) (cs':=cs.set j (.own st.length 0 0)) (by rw[hor]) Xq (by simp) (λc hc=>by
   rcases SO hc with h|rfl
   ·exact Ru.1 Xq c h
   ·rfl) λi c c' u hc WW hu=>by
  by_cases e:i=j
  ·subst e;rw[hj]at hc;cases hc;rw[Rs (Rm.1 hj).1]at WW;cases WW;simp only[AF]at hu⊢;obtain⟨ad,rfl⟩:=hu;exact⟨⟨⟨0,e',size',[]⟩,none,0,Cg⟩,by rw[<- hol];exact Dv _ _,Rz _,⟨_,_,_,rfl⟩,λ_=>⟨R5 _,.inl ⟨rfl,rfl,ad,rfl⟩⟩⟩
  ·rw[Rw (SY e),hc]at WW;cases WW;exact hu
 refine⟨F,_,?_,h2.trans g2⟩;have e1:((os++[(⟨⟨0,e',size',[]⟩,none,0,Cg⟩:Own)]).set id ⟨{ o.row with xs:=[cs.set j (.own st.length 0 0)] },o.BV,o.cap,o.more⟩).map Own.row=st.set id ⟨g,el,size,[cs.set j (.own st.length 0 0)]⟩++[⟨0,e',size',[]⟩]:=by
  rw[Sb,Se,T8,hor,List.set_append_left]
  ·rfl
  ·have:id<st.length:=by rw[<- hol];exact T9
   exact this
 rw[e1]at g1;exact g1
end
end Go.Abs
