import Derived.Test.YtfkncfjpobjbjaaAbsC
set_option linter.all false
namespace Go.Abs
open Go
variable {P : Program} {F : Nat -> Prop} {os : List Own} {s : St} {a : Act} {w : World} {k : Nat}
def Bt (os os':List Own):Prop:=
 ∀(i:Nat) (o:Own),os[i]?=some o->∃o':Own,os'[i]?=some o'/\o.row.gen<=o'.row.gen/\o'.row.size=o.row.size/\(o'.row.gen=o.row.gen->o'.BV=o.BV/\o'.cap=o.cap/\o'.row.xs.length=o.row.xs.length)
theorem Bz (os:List Own):Bt os os:=λ_ o h=>⟨o,h,Rz _,rfl,λ_=>⟨rfl,rfl,rfl⟩⟩
theorem Bt.append (os more:List Own):Bt os (os++more):=λi o h=>
 ⟨o,by rw[Rt (Rm.1 h).1];exact h,Rz _,rfl,λ_=>⟨rfl,rfl,rfl⟩⟩
theorem Bt.set {id:Nat}{o o':Own}(ho:os[id]?=some o)(h1:o.row.gen<=o'.row.gen)(h2:o'.row.size=o.row.size)
  (h3:o'.row.gen=o.row.gen->o'.BV=o.BV/\o'.cap=o.cap/\o'.row.xs.length=o.row.xs.length):Bt os (os.set id o'):=λi oi hi=>by
 by_cases e:i=id
 ·subst e;rw[ho]at hi;cases hi;exact⟨o',by rw[Rs (Rm.1 ho).1],h1,h2,h3⟩
 ·exact⟨oi,by rw[Rw (SY e)];exact hi,Rz _,rfl,λ_=>⟨rfl,rfl,rfl⟩⟩
structure Dx (w w':World) (b:Option Nat):Prop where
 sys:w'.os=w.os
 tape:w'.tape=w.tape
 output:w'.output=w.output
 size:w.heap.size<=w'.heap.size
 CL :∀i,i<w.heap.size->b≠some i->w'.heap[i]?=w.heap[i]?
theorem EC (w:World)(b:Option Nat):Dx w w b:=⟨rfl,rfl,rfl,Rz _,λ_ _ _=>rfl⟩
theorem Dx.alloc (w:World)(o:Obj)(b:Option Nat):Dx w (w.alloc o) b:=⟨rfl,rfl,rfl,by simp,λ_ hi _=>heap_alloc_old w o hi⟩
theorem Eg (w:World)(o:Obj)(b:Option Nat):Dx w (w.drew.alloc o) b:=⟨rfl,rfl,rfl,by simp,λ_ hi _=>heap_alloc_old w.drew o hi⟩
theorem Dx.setRow (w:World)(g:Nat)(cs:Array Value):Dx w (w.setRow g cs) (some g):=⟨rfl,rfl,rfl,by simp,λi _ hi=>setRow_other w g i cs (λe=>hi (by rw[e]))⟩
theorem Rel.JI (hr:Rel F os s a w){w':World}{b:Option Nat}(ht:Dx w w' b)(hb :∀i,b=some i->¬ F i){os':List Own}(Ud:Bt os os')
  (Us :∀(i:Nat) (o:Own),os'[i]?=some o->(os[i]?=some o/\∀g,o.owns g->b≠some g)∨Dr F w' os' o)
  (cR :∀(i j:Nat) (oi oj:Own) (g:Nat),os'[i]?=some oi->os'[j]?=some oj->oi.owns g->oj.owns g->i=j)
  (cS :∀o':Own,o'∈os'->∀g,o'.owns g->w.heap.size<=g∨∃o:Own,o∈os/\o.owns g)
  (Vy :∀g,b=some g->∃o:Own,o∈os/\o.owns g) :
  Rel F os' { s with st:=os'.map Own.row } a w'/\Ext F os w F os' w' k/\∀x v,AF F w os x v->AF F w' os' x v:=by
 have hF:∀g,F g->w'.heap[g]?=w.heap[g]?:=λg hg=>ht.CL g (hr.CL g hg) (λe=>hb g e hg);have T4:∀x v,AF F w os x v->AF F w' os' x v:=λx v h=>A5 (λ_ h=>h) hF os os' Ud x v h;refine⟨⟨rfl,λi=>T4 _ _ (hr.env i),hr.size,λi o ho=>?_,cR,λg hg=>Sd (hr.CL g hg) ht.size,hr.defers⟩,⟨ht.sys,ht.tape,ht.output,ht.size,λ_ h=>h,hF,λg hg h1 h2=>⟨?_,h1,λo' UU e=>?_⟩,λi o _ ho=>Ud i o ho⟩,T4⟩
 ·rcases Us i o ho with ⟨hold,UW⟩|h
  ·have T2:=hr.rows i o hold;refine⟨T2.pos,T2.lens,T2.none,λg hg=>?_,λg hg=>⟨(T2.mo g hg).1,Sd (T2.mo g hg).2.1 ht.size,(T2.mo g hg).2.2⟩,
    T2.deep.keep rfl (λ_ h=>h) rfl (λg hg=>ht.CL g (T2.lt hg) (UW g hg)) (λi x j e s ys hx hc=>⟨x,hx,hc⟩)⟩
   obtain⟨h1,cur,T7,h2,h3,h4,h5⟩:=T2.some g hg;refine⟨h1,cur,?_,h2,h3,h4,λi' x hx j c hc=>?_⟩
   ·rw[ht.CL g (SZ.1 T7).1 (UW g (.inl hg))];exact T7
   ·obtain⟨u,hu1,WA⟩:=h5 i' x hx j c hc;exact⟨u,hu1,T4 _ _ WA⟩
  ·exact h
 ·refine ht.CL g hg (λe=>?_);obtain⟨o,ho,hog⟩:=Vy g e;exact h2 o ho hog
 ·rcases cS o' UU g e with h3|⟨o,ho,hog⟩
  ·omega
  ·exact h2 o ho hog
theorem Rel.Iu (hr:Rel F os s a w){w0:World}(fH:w0=w∨w0=w.drew){cur:Array Value}{e:TypeId}{size cap:Nat}{xs:List (List AV)}(Ue:0<size)(Vj :∀x∈xs,x.length=size/\∀c∈x,c.leaf=true)
  (UX:cur.size=cap*size) (hle:xs.length<=cap) (VO:cap<=maxLen)
  (T6 :∀(i:Nat) x,xs[i]?=some x->∀(j:Nat) c,x[j]?=some c->∃u,cur[i*size+j]?=some u/\AF F w os c u) :
  let o:Own:=⟨⟨0,e,size,xs⟩,some w.heap.size,cap,Cg⟩
  Rel F (os++[o]) { s with st:=s.st++[o.row] } a (w0.alloc (.cells cur e))/\Ext F os w F (os++[o]) (w0.alloc (.cells cur e)) k/\(∀x v,AF F w os x v->AF F (w0.alloc (.cells cur e)) (os++[o]) x v):=by
 intro o;have ht:Dx w (w0.alloc (.cells cur e)) none:=by
  rcases fH with rfl|rfl
  ·exact Dx.alloc _ _ _
  ·exact Eg _ _ _
 have cT:w0.heap.size=w.heap.size:=by rcases fH with rfl|rfl<;>rfl
 have T9:∀(i:Nat) (oi:Own) g,os[i]?=some oi->oi.owns g->g<w.heap.size:=λi oi g hi hg=>(hr.rows i oi hi).lt hg;have T5:∀(i:Nat) (oi:Own),(os++[o])[i]?=some oi->os[i]?=some oi∨(i=os.length/\oi=o):=λi oi hi=>by
  rcases SW i os.length with h|h|h
  ·rw[Rt h]at hi;exact .inl hi
  ·subst h;simp at hi;exact .inr ⟨rfl,hi.symm⟩
  ·rw[Rv (by omega),SE (by simp;omega)]at hi;cases hi
 have hold:∀x v,AF F w os x v->AF F (w0.alloc (.cells cur e)) (os++[o]) x v:=λx v h=>
  A5 (λ_ h=>h) (λg hg=>ht.CL g (hr.CL g hg) (by simp)) os _ (Bt.append os [o]) x v h
 have:=hr.JI (k:=k) ht (by simp) (os':=os++[o]) (Bt.append os [o]) (λi oi hi=>by
   rcases T5 i oi hi with h|⟨_,rfl⟩
   ·exact .inl ⟨h,by simp⟩
   ·refine .inr ⟨Ue,λx hx=>⟨(Vj x hx).1,λc hc=>Bd ((Vj x hx).2 c hc)⟩,by simp[o],λg hg=>?_,λg hg=>hg.elim,B2 λx hx=>(Vj x hx).2⟩;simp only[o,Rn]at hg;subst hg;refine⟨λhF=>absurd (hr.CL _ hF) (Td _),cur,by rw[<- cT];exact Tj w0 _,UX,hle,VO,λi' x hx j c hc=>?_⟩;obtain⟨u,h1,h2⟩:=T6 i' x hx j c hc;exact⟨u,h1,hold _ _ h2⟩)
  (λi j oi oj g hi hj WH WI=>by
   rcases T5 i oi hi with h|⟨h,rfl⟩<;>rcases T5 j oj hj with h'|⟨h',rfl⟩
   ·exact hr.inj i j oi oj g h h' WH WI
   ·have:=T9 i oi g h WH;simp only[Own.owns,o,Cg,or_false,Rn]at WI;omega
   ·have:=T9 j oj g h' WI;simp only[Own.owns,o,Cg,or_false,Rn]at WH;omega
   ·omega)
  (λo' UU g hg=>by
   rcases SI.1 UU with h|h
   ·exact .inr ⟨o',h,hg⟩
   ·simp only[R8]at h;subst h;simp only[Own.owns,o,Cg,or_false,Rn]at hg;exact .inl (by omega))
  (by simp)
 refine⟨?_,this.2.1,this.2.2⟩;have h1:=this.1;rw[Se,hr.st]at h1;simpa using h1
theorem Rel.GS (hr:Rel F os s a w){id:Nat}{o o':Own}(ho:os[id]?=some o){w':World}(ht:Dx w w' o.BV)
  (h1:o.row.gen<=o'.row.gen) (h2:o'.row.size=o.row.size) (h3:o'.row.gen=o.row.gen->o'.BV=o.BV/\o'.cap=o.cap/\o'.row.xs.length=o.row.xs.length)
  (hb :∀g,o'.owns g->o.owns g∨w.heap.size<=g)
  (T2:(∀x v,AF F w os x v->AF F w' (os.set id o') x v)->Dr F w' (os.set id o') o') :
  Rel F (os.set id o') { s with st:=s.st.set id o'.row } a w'/\Ext F os w F (os.set id o') w' k/\(∀x v,AF F w os x v->AF F w' (os.set id o') x v):=by
 have Ud:Bt os (os.set id o'):=Bt.set ho h1 h2 h3;have aE:∀i,o.BV=some i->¬ F i:=λi hi=>(hr.rows id o ho).nF (.inl hi);have T4:∀x v,AF F w os x v->AF F w' (os.set id o') x v:=λx v h=>
  A5 (λ_ h=>h) (λg hg=>ht.CL g (hr.CL g hg) (λe=>aE g e hg)) os _ Ud x v h
 have T9:∀(i:Nat) (oi:Own) g,os[i]?=some oi->oi.owns g->g<w.heap.size:=λi oi g hi hg=>(hr.rows i oi hi).lt hg;have T5:∀(i:Nat) (oi:Own),(os.set id o')[i]?=some oi->(i≠id/\os[i]?=some oi)∨(i=id/\oi=o'):=λi oi hi=>by
  by_cases e:i=id
  ·subst e;rw[Rs (Rm.1 ho).1,Rn]at hi;exact .inr ⟨rfl,hi.symm⟩
  ·rw[Rw (SY e)]at hi;exact .inl ⟨e,hi⟩
 have:=hr.JI (k:=k) ht aE Ud (λi oi hi=>by
   rcases T5 i oi hi with ⟨UW,h⟩|⟨_,rfl⟩
   ·exact .inl ⟨h,λg hg e=>UW (hr.inj i id oi o g h ho hg (.inl e))⟩
   ·exact .inr (T2 T4))
  (λi j oi oj g hi hj WH WI=>by
   rcases T5 i oi hi with ⟨UW,h⟩|⟨h,rfl⟩<;>rcases T5 j oj hj with ⟨Yh,h'⟩|⟨h',rfl⟩
   ·exact hr.inj i j oi oj g h h' WH WI
   ·rcases hb g WI with e|e
    ·exact absurd (hr.inj i id oi o g h ho WH e) UW
    ·have:=T9 i oi g h WH;omega
   ·rcases hb g WH with e|e
    ·exact absurd (hr.inj j id oj o g h' ho WI e) Yh
    ·have:=T9 j oj g h' WI;omega
   ·omega)
  (λox gT g hg=>by
   obtain⟨i,hi⟩:=R0.1 gT;rcases T5 i ox hi with ⟨_,h⟩|⟨_,rfl⟩
   ·exact .inr ⟨ox,Rk h,hg⟩
   ·rcases hb g hg with e|e
    ·exact .inr ⟨o,Rk ho,e⟩
    ·exact .inl e)
  (λg hg=>⟨o,Rk ho,.inl hg⟩)
 refine⟨?_,this.2.1,this.2.2⟩;have h1:=this.1;rw[Sb,hr.st]at h1;exact h1
end Go.Abs
