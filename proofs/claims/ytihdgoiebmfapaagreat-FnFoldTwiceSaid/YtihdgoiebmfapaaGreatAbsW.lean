import Derived.Test.YtihdgoiebmfapaaGreatAbsV
namespace Go.Abs
open Go
section
variable {P : Program} {ds : List (Option Tmp)} {r : List Oper} {n : Nat} {e : Nat -> AV} {st : List Row} {ty : TypeId} {ps : String} {ed : Array Edge} {t : Tmp} {gd : Option (Nat × Bool)} {KS : St -> Prop}
variable {α : Type} {l : List α} {enc : α -> List AV} {el T : TypeId} {size bytes : Nat} {zz cs : List AV}
end
end Go.Abs
namespace Go.Abs
open Go
section
variable {F : Nat -> Prop} {os : List Own} {s : St} {a : Act} {w : World} {k : Nat}
theorem Rel.YU (hr:Rel F os s a w){id:Nat}{o:Own}(ho:os[id]?=some o){cs cs':List AV}(hx:o.row.xs=[cs])(hlen:cs'.length=cs.length)(hleaf :∀c∈cs',c.leaf=true)
  (hm :∀(j:Nat) c c' u,cs[j]?=some c->cs'[j]?=some c'->Ae F w os c u->Ae F w os c' u) :
  Rel F (os.set id ⟨{ o.row with xs:=[cs'] },o.Fe,o.cap,o.more⟩) { s with st:=(os.set id ⟨{ o.row with xs:=[cs'] },o.Fe,o.cap,o.more⟩).map Own.row } a w/\Ext F os w F (os.set id ⟨{ o.row with xs:=[cs'] },o.Fe,o.cap,o.more⟩) w k:=by
 have hlt:=(jg.1 ho).1;have hos:FH os (os.set id ⟨{ o.row with xs:=[cs'] },o.Fe,o.cap,o.more⟩):=FH.set ho (jv _) rfl λ_=>⟨rfl,rfl,by simp[hx]⟩;have hget:∀(i:Nat) (oi:Own),(os.set id ⟨{ o.row with xs:=[cs'] },o.Fe,o.cap,o.more⟩)[i]?=some oi->(i≠id/\os[i]?=some oi)∨(i=id/\oi=⟨{ o.row with xs:=[cs'] },o.Fe,o.cap,o.more⟩):=λi oi hi=>by
  by_cases e:i=id
  ·subst e;rw[ju hlt]at hi;exact .inr ⟨rfl,by simpa using hi.symm⟩
  ·rw[kG (lK e)]at hi;exact .inl ⟨e,hi⟩
 have hok:=hr.rows id o ho;have h:=hr.Wz (k:=k) (HY.refl w none) (by simp) hos (λi oi hi=>by
   rcases hget i oi hi with ⟨_,h⟩|⟨_,rfl⟩
   ·exact .inl ⟨h,by simp⟩
   ·refine .inr ⟨hok.pos,λx hxm=>?_,λhb=>?_,λb hb=>?_,hok.mo,Et λx hxm=>by
     simp only[jy]at hxm;subst hxm;exact hleaf⟩
    ·simp only[jy]at hxm;subst hxm;exact⟨hlen.trans (hok.lens cs (by rw[hx];simp)).1,λc hc=>D0 (hleaf c hc)⟩
    ·have:=(hok.none hb).1;rw[hx]at this;cases this
    ·obtain⟨h1,cur,h2,h3,h4,h5,h6⟩:=hok.some b hb;refine⟨h1,cur,h2,h3,by rw[hx]at h4;exact h4,h5,λi x hxi j c hc=>?_⟩;cases i with
     | succ i=>simp at hxi
     | zero=>
      simp only[kK,jh]at hxi;subst hxi;have hj:j<cs.length:=by rw[<- hlen];exact (jg.1 hc).1
      obtain⟨u,e1,e2⟩:=h6 0 cs (by rw[hx];rfl) j _ (jl hj);exact⟨u,e1,DV (λ_ h=>h) (λ_ _=>rfl) os _ hos c u (hm j _ c u (jl hj) hc e2)⟩)
  (λi j oi oj g hi hj hgi hgj=>by
   rcases hget i oi hi with ⟨h,h'⟩|⟨rfl,rfl⟩<;>rcases hget j oj hj with ⟨g1,g2⟩|⟨g1,rfl⟩
   ·exact hr.inj i j oi oj g h' g2 hgi hgj
   ·subst g1;exact absurd (hr.inj i j oi o g h' ho hgi hgj) h
   ·exact absurd (hr.inj i j o oj g ho g2 hgi hgj).symm g1
   ·exact g1.symm)
  (λo' ho' g hg=>by
   obtain⟨i,hi⟩:=List.getElem?_of_mem ho';rcases hget i o' hi with ⟨_,h⟩|⟨_,rfl⟩
   ·exact .inr ⟨o',je h,hg⟩
   ·exact .inr ⟨o,je ho,hg⟩)
  (by simp)
 exact⟨h.1,h.2.1⟩
theorem XZ.get:∀{xs ys:List AV},XZ xs ys->xs.length=ys.length/\∀(j:Nat) x y,xs[j]?=some x->ys[j]?=some y->le x y
 | [],[],_=>⟨rfl,λj x y h=>by simp at h⟩
 | x::xs,y::ys,h=>by
  obtain⟨h1,h2⟩:=XZ.get h.2;refine⟨by simp[h1],λj a b ha hb=>?_⟩;cases j with
  | zero=>simp at ha hb;subst ha;subst hb;exact h.1
  | succ j=>exact h2 j a b (by simpa using ha) (by simpa using hb)
theorem Gg {id g size:Nat}{el:TypeId}{cs cs':List AV}{n:Nat}{e:Nat->AV}{st st':List Row}(hrow:st[id]?=some ⟨g,el,size,[cs]⟩)(hl:XZ cs cs')(hlf:cs'.all AV.leaf=true)(hst:st.set id ⟨g,el,size,[cs']⟩=st'):Wk k ⟨n,e,st⟩ ⟨n,e,st'⟩:=λF os a w hr=>by
 subst hst;obtain⟨o,ho,hor⟩:=hr.row hrow;obtain⟨h1,h2⟩:=hl.get;obtain⟨g1,g2⟩:=hr.YU (k:=k) ho (cs:=cs) (cs':=cs') (by rw[hor]) h1.symm (λc hc=>jq.1 hlf c hc) λj c c' u hc hc' hu=>h2 j c c' hc hc' F w os u hu;refine⟨F,_,?_,g2⟩;have e1:(os.set id ⟨{ o.row with xs:=[cs'] },o.Fe,o.cap,o.more⟩).map Own.row=st.set id ⟨g,el,size,[cs']⟩:=by
  rw[ln,hor,show os.map Own.row=st from hr.st]
 rw[e1]at g1;exact g1
theorem JX {id g size m:Nat}{el:TypeId}{cs cs':List AV}{n j:Nat}{e:Nat->AV}{st st':List Row}(hrow:st[id]?=some ⟨g,el,size,[cs]⟩)(hj:cs[j]?=some .zc)(e':TypeId){size':Nat}(hpos:0<size')(hm:st.length=m)(hcs:cs.set j (.own m 0 0)=cs')
  (hlf:cs.all AV.leaf=true) (hst:st.set id ⟨g,el,size,[cs']⟩++[⟨0,e',size',[]⟩]=st'):Wk k ⟨n,e,st⟩ ⟨n,e,st'⟩:=λF os a w hr=>by
 subst hst;subst hcs;subst hm;obtain⟨o,ho,hor⟩:=hr.row hrow;obtain⟨h1,h2,_⟩:=hr.Vj (k:=k) (e:=e') hpos;have hlt:=(jg.1 ho).1;have hst:os.map Own.row=st:=hr.st;have hol:os.length=st.length:=by rw[<- hst];simp
 have ho2:(os++[(⟨⟨0,e',size',[]⟩,none,0,FW⟩:Own)])[id]?=some o:=by rw[jr hlt];exact ho
 obtain⟨g1,g2⟩:=h1.YU (k:=k) ho2 (cs:=cs) (cs':=cs.set j (.own st.length 0 0)) (by rw[hor]) (by simp) (λc hc=>by
   rcases kp hc with h|rfl
   ·exact jq.1 hlf c h
   ·rfl) λi c c' u hc hc' hu=>by
  by_cases e:i=j
  ·subst e;rw[hj]at hc;cases hc;rw[ju (jg.1 hj).1]at hc';cases hc';simp only[Ae]at hu⊢;obtain⟨ad,rfl⟩:=hu;exact⟨⟨⟨0,e',size',[]⟩,none,0,FW⟩,by rw[<- hol];exact Jh _ _,jv _,⟨_,_,_,rfl⟩,λ_=>⟨kE _,.inl ⟨rfl,ad,rfl⟩⟩⟩
  ·rw[kG (lK e),hc]at hc';cases hc';exact hu
 refine⟨F,_,?_,h2.trans g2⟩;have e1:((os++[(⟨⟨0,e',size',[]⟩,none,0,FW⟩:Own)]).set id ⟨{ o.row with xs:=[cs.set j (.own st.length 0 0)] },o.Fe,o.cap,o.more⟩).map Own.row=st.set id ⟨g,el,size,[cs.set j (.own st.length 0 0)]⟩++[⟨0,e',size',[]⟩]:=by
  rw[ln,lJ,hst,hor,List.set_append_left]
  ·rfl
  ·have:id<st.length:=by rw[<- hol];exact hlt
   exact this
 rw[e1]at g1;exact g1
end
end Go.Abs
