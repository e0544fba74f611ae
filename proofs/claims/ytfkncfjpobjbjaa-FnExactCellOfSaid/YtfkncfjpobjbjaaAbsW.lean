import Derived.Test.YtfkncfjpobjbjaaAbsV
set_option linter.all false
namespace Go.Abs
open Go
section
variable {P : Program} {ds : List (Option Tmp)} {r : List Oper} {n : Nat} {e : Nat -> AV} {st : List Row} {ty : TypeId} {ps : String} {ed : Array Edge} {t : Tmp} {gd : Option (Nat × Bool)} {KS : St -> Prop}
variable {α : Type} {l : List α} {enc : α -> List AV} {el T : TypeId} {size bytes : Nat} {zz cs : List AV}
end
end Go.Abs
namespace Go.Abs
open Go
section
variable {F : Nat -> Prop} {os : List Own} {s : St} {a : Act} {w : World} {k : Nat}
theorem Rel.PD (hr:Rel F os s a w){id:Nat}{o:Own}(ho:os[id]?=some o){cs cs':List AV}(hx:o.row.xs=[cs])(Zb:cs.all AV.leaf=true)(hlen:cs'.length=cs.length)(UY :∀c∈cs',c.leaf=true)
  (hm :∀(j:Nat) c c' u,cs[j]?=some c->cs'[j]?=some c'->AF F w os c u->AF F w os c' u) :
  Rel F (os.set id ⟨{ o.row with xs:=[cs'] },o.BW,o.cap,o.more⟩) { s with st:=(os.set id ⟨{ o.row with xs:=[cs'] },o.BW,o.cap,o.more⟩).map Own.row } a w/\Ext F os w F (os.set id ⟨{ o.row with xs:=[cs'] },o.BW,o.cap,o.more⟩) w k:=by
 have UM:=(Rq.1 ho).1;have Uh:Bz os (os.set id ⟨{ o.row with xs:=[cs'] },o.BW,o.cap,o.more⟩):=Bz.set ho (R3 _) rfl λ_=>⟨rfl,rfl,by simp[hx]⟩;have T9:∀(i:Nat) (oi:Own),(os.set id ⟨{ o.row with xs:=[cs'] },o.BW,o.cap,o.more⟩)[i]?=some oi->(i≠id/\os[i]?=some oi)∨(i=id/\oi=⟨{ o.row with xs:=[cs'] },o.BW,o.cap,o.more⟩):=λi oi hi=>by
  by_cases e:i=id
  ·subst e;rw[Rw UM]at hi;exact .inr ⟨rfl,by simpa using hi.symm⟩
  ·rw[R2 (Sc e)]at hi;exact .inl ⟨e,hi⟩
 have T6:=hr.rows id o ho;have h:=hr.Jl (k:=k) (EF w none) (by simp) Uh (λi oi hi=>by
   rcases T9 i oi hi with ⟨_,h⟩|⟨_,rfl⟩
   ·exact .inl ⟨h,by simp⟩
   ·refine .inr ⟨T6.pos,λx Wd=>?_,λhb=>?_,λb hb=>?_,T6.mo,B3 λx Wd=>by
     simp only[SC]at Wd;subst Wd;exact UY⟩
    ·simp only[SC]at Wd;subst Wd;exact⟨hlen.trans (T6.lens cs (by rw[hx];simp)).1,λc hc=>Bd (UY c hc)⟩
    ·rcases (T6.none hb).1 with this|⟨_,_,this⟩
     ·rw[hx]at this;cases this
     ·rw[hx]at this;cases this;cases Zb
    ·obtain⟨h1,cur,h2,h3,h4,h5,h6⟩:=T6.some b hb;refine⟨h1,cur,h2,h3,by rw[hx]at h4;exact h4,h5,λi x dF j c hc=>?_⟩;cases i with
     | succ i=>simp at dF
     | zero=>
      simp only[R6,Rr]at dF;subst dF;have hj:j<cs.length:=by rw[<- hlen];exact (Rq.1 hc).1
      obtain⟨u,e1,e2⟩:=h6 0 cs (by rw[hx];rfl) j _ (Rt hj);exact⟨u,e1,A8 (λ_ h=>h) (λ_ _=>rfl) os _ Uh c u (hm j _ c u (Rt hj) hc e2)⟩)
  (λi j oi oj g hi hj WL WM=>by
   rcases T9 i oi hi with ⟨h,h'⟩|⟨rfl,rfl⟩<;>rcases T9 j oj hj with ⟨g1,g2⟩|⟨g1,rfl⟩
   ·exact hr.inj i j oi oj g h' g2 WL WM
   ·subst g1;exact absurd (hr.inj i j oi o g h' ho WL WM) h
   ·exact absurd (hr.inj i j o oj g ho g2 WL WM).symm g1
   ·exact g1.symm)
  (λo' UZ g hg=>by
   obtain⟨i,hi⟩:=Sz UZ;rcases T9 i o' hi with ⟨_,h⟩|⟨_,rfl⟩
   ·exact .inr ⟨o',Ro h,hg⟩
   ·exact .inr ⟨o,Ro ho,hg⟩)
  (by simp)
 exact⟨h.1,h.2.1⟩
theorem Hf {id g size m:Nat}{el:TypeId}{cs cs':List AV}{n j:Nat}{e:Nat->AV}{st st':List Row}(T4:st[id]?=some ⟨g,el,size,[cs]⟩)(hj:cs[j]?=some .zc)(e':TypeId){size':Nat}(Ui:0<size')(hm:st.length=m)(WN:cs.set j (.own m 0 0)=cs')
  (Xv:cs.all AV.leaf=true) (UL:st.set id ⟨g,el,size,[cs']⟩++[⟨0,e',size',[]⟩]=st'):Wk k ⟨n,e,st⟩ ⟨n,e,st'⟩:=λF os a w hr=>by
 subst UL;subst WN;subst hm;obtain⟨o,ho,hor⟩:=hr.row T4;obtain⟨h1,h2,_⟩:=hr.Jc (k:=k) (e:=e') Ui;have UM:=(Rq.1 ho).1;have UL:os.map Own.row=st:=hr.st;have hol:os.length=st.length:=by rw[<- UL];simp
 have XA:(os++[(⟨⟨0,e',size',[]⟩,none,0,Cl⟩:Own)])[id]?=some o:=by rw[Rx UM];exact ho
 obtain⟨g1,g2⟩:=h1.PD (k:=k) XA (cs:=cs) (cs':=cs.set j (.own st.length 0 0)) (by rw[hor]) Xv (by simp) (λc hc=>by
   rcases SU hc with h|rfl
   ·exact Ry.1 Xv c h
   ·rfl) λi c c' u hc Wg hu=>by
  by_cases e:i=j
  ·subst e;rw[hj]at hc;cases hc;rw[Rw (Rq.1 hj).1]at Wg;cases Wg;simp only[AF]at hu⊢;obtain⟨ad,rfl⟩:=hu;exact⟨⟨⟨0,e',size',[]⟩,none,0,Cl⟩,by rw[<- hol];exact Ds _ _,R3 _,⟨_,_,_,rfl⟩,λ_=>⟨SA _,.inl ⟨rfl,rfl,ad,rfl⟩⟩⟩
  ·rw[R2 (Sc e),hc]at Wg;cases Wg;exact hu
 refine⟨F,_,?_,h2.trans g2⟩;have e1:((os++[(⟨⟨0,e',size',[]⟩,none,0,Cl⟩:Own)]).set id ⟨{ o.row with xs:=[cs.set j (.own st.length 0 0)] },o.BW,o.cap,o.more⟩).map Own.row=st.set id ⟨g,el,size,[cs.set j (.own st.length 0 0)]⟩++[⟨0,e',size',[]⟩]:=by
  rw[Sf,Sj,UL,hor,List.set_append_left]
  ·rfl
  ·have:id<st.length:=by rw[<- hol];exact UM
   exact this
 rw[e1]at g1;exact g1
end
end Go.Abs
