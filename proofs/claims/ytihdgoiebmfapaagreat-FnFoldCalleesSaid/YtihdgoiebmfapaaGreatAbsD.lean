import Derived.Test.YtihdgoiebmfapaaGreatAbsC
namespace Go.Abs
open Go
variable {P : Program} {F : Nat -> Prop} {os : List Own} {s : St} {a : Act} {w : World} {k : Nat}
def FN (os os':List Own):Prop:=
 ∀(i:Nat) (o:Own),os[i]?=some o->∃o':Own,os'[i]?=some o'/\o.row.gen<=o'.row.gen/\o'.row.size=o.row.size/\(o'.row.gen=o.row.gen->o'.Fk=o.Fk/\o'.cap=o.cap/\o'.row.xs.length=o.row.xs.length)
theorem FN.refl (os:List Own):FN os os:=λ_ o h=>⟨o,h,ll _,rfl,λ_=>⟨rfl,rfl,rfl⟩⟩
theorem FN.append (os more:List Own):FN os (os++more):=λi o h=>
 ⟨o,by rw[lj (lV.1 h).1];exact h,ll _,rfl,λ_=>⟨rfl,rfl,rfl⟩⟩
theorem FN.set {id:Nat}{o o':Own}(ho:os[id]?=some o)(h1:o.row.gen<=o'.row.gen)(h2:o'.row.size=o.row.size)
  (h3:o'.row.gen=o.row.gen->o'.Fk=o.Fk/\o'.cap=o.cap/\o'.row.xs.length=o.row.xs.length):FN os (os.set id o'):=λi oi hi=>by
 by_cases e:i=id
 ·subst e;rw[ho]at hi;cases hi;exact⟨o',by rw[lp (lV.1 ho).1],h1,h2,h3⟩
 ·exact⟨oi,by rw[mG (nK e)];exact hi,ll _,rfl,λ_=>⟨rfl,rfl,rfl⟩⟩
structure Hr (w w':World) (b:Option Nat):Prop where
 sys:w'.os=w.os
 tape:w'.tape=w.tape
 output:w'.output=w.output
 size:w.heap.size<=w'.heap.size
 FR :∀i,i<w.heap.size->b≠some i->w'.heap[i]?=w.heap[i]?
theorem Hr.refl (w:World)(b:Option Nat):Hr w w b:=⟨rfl,rfl,rfl,ll _,λ_ _ _=>rfl⟩
theorem Hr.alloc (w:World)(o:Obj)(b:Option Nat):Hr w (w.alloc o) b:=⟨rfl,rfl,rfl,by simp,λ_ hi _=>oO w o hi⟩
theorem Mm (w:World)(o:Obj)(b:Option Nat):Hr w (w.drew.alloc o) b:=⟨rfl,rfl,rfl,by simp,λ_ hi _=>oO w.drew o hi⟩
theorem Hr.setRow (w:World)(g:Nat)(cs:Array Value):Hr w (w.setRow g cs) (some g):=⟨rfl,rfl,rfl,by simp,λi _ hi=>setRow_other w g i cs (λe=>hi (by rw[e]))⟩
theorem Rel.Xu (hr:Rel F os s a w){w':World}{b:Option Nat}(ht:Hr w w' b)(hb :∀i,b=some i->¬ F i){os':List Own}(rS:FN os os')
  (ry :∀(i:Nat) (o:Own),os'[i]?=some o->(os[i]?=some o/\∀g,o.owns g->b≠some g)∨MY F w' os' o)
  (hinj :∀(i j:Nat) (oi oj:Own) (g:Nat),os'[i]?=some oi->os'[j]?=some oj->oi.owns g->oj.owns g->i=j)
  (hblk :∀o':Own,o'∈os'->∀g,o'.owns g->w.heap.size<=g∨∃o:Own,o∈os/\o.owns g)
  (ve :∀g,b=some g->∃o:Own,o∈os/\o.owns g) :
  Rel F os' { s with st:=os'.map Own.row } a w'/\Ext F os w F os' w' k/\∀x v,Ae F w os x v->Ae F w' os' x v:=by
 have hF:∀g,F g->w'.heap[g]?=w.heap[g]?:=λg hg=>ht.FR g (hr.FR g hg) (λe=>hb g e hg);have qi:∀x v,Ae F w os x v->Ae F w' os' x v:=λx v h=>DW (λ_ h=>h) hF os os' rS x v h;refine⟨⟨rfl,λi=>qi _ _ (hr.env i),hr.size,λi o ho=>?_,hinj,λg hg=>ma (hr.FR g hg) ht.size,hr.defers⟩,⟨ht.sys,ht.tape,ht.output,ht.size,λ_ h=>h,hF,λg hg h1 h2=>⟨?_,h1,λo' rF e=>?_⟩,λi o _ ho=>rS i o ho⟩,qi⟩
 ·rcases ry i o ho with ⟨hold,rC⟩|h
  ·have qd:=hr.rows i o hold;refine⟨qd.pos,qd.lens,qd.none,λg hg=>?_,λg hg=>⟨(qd.mo g hg).1,ma (qd.mo g hg).2.1 ht.size,(qd.mo g hg).2.2⟩,
    qd.deep.keep rfl (λ_ h=>h) rfl (λg hg=>ht.FR g (qd.lt hg) (rC g hg)) (λi x j e s ys hx hc=>⟨x,hx,hc⟩)⟩
   obtain⟨h1,cur,qt,h2,h3,h4,h5⟩:=qd.some g hg;refine⟨h1,cur,?_,h2,h3,h4,λi' x hx j c hc=>?_⟩
   ·rw[ht.FR g (mO.1 qt).1 (rC g (.inl hg))];exact qt
   ·obtain⟨u,hu1,su⟩:=h5 i' x hx j c hc;exact⟨u,hu1,qi _ _ su⟩
  ·exact h
 ·refine ht.FR g hg (λe=>?_);obtain⟨o,ho,hog⟩:=ve g e;exact h2 o ho hog
 ·rcases hblk o' rF g e with h3|⟨o,ho,hog⟩
  ·omega
  ·exact h2 o ho hog
theorem Rel.Om (hr:Rel F os s a w){w0:World}(wL:w0=w∨w0=w.drew){cur:Array Value}{e:TypeId}{size cap:Nat}{xs:List (List AV)}(rO:0<size)(rh :∀x∈xs,x.length=size/\∀c∈x,c.leaf=true)
  (rA:cur.size=cap*size) (hle:xs.length<=cap) (sc:cap<=maxLen)
  (qw :∀(i:Nat) x,xs[i]?=some x->∀(j:Nat) c,x[j]?=some c->∃u,cur[i*size+j]?=some u/\Ae F w os c u) :
  let o:Own:=⟨⟨0,e,size,xs⟩,some w.heap.size,cap,Fc⟩
  Rel F (os++[o]) { s with st:=s.st++[o.row] } a (w0.alloc (.cells cur e))/\Ext F os w F (os++[o]) (w0.alloc (.cells cur e)) k/\(∀x v,Ae F w os x v->Ae F (w0.alloc (.cells cur e)) (os++[o]) x v):=by
 intro o;have ht:Hr w (w0.alloc (.cells cur e)) none:=by
  rcases wL with rfl|rfl
  ·exact Hr.alloc _ _ _
  ·exact Mm _ _ _
 have hs0:w0.heap.size=w.heap.size:=by rcases wL with rfl|rfl<;>rfl
 have qu:∀(i:Nat) (oi:Own) g,os[i]?=some oi->oi.owns g->g<w.heap.size:=λi oi g hi hg=>(hr.rows i oi hi).lt hg;have qg:∀(i:Nat) (oi:Own),(os++[o])[i]?=some oi->os[i]?=some oi∨(i=os.length/\oi=o):=λi oi hi=>by
  rcases nG i os.length with h|h|h
  ·rw[lj h]at hi;exact .inl hi
  ·subst h;simp at hi;exact .inr ⟨rfl,hi.symm⟩
  ·rw[ln (by omega),mV (by simp;omega)]at hi;cases hi
 have hold:∀x v,Ae F w os x v->Ae F (w0.alloc (.cells cur e)) (os++[o]) x v:=λx v h=>
  DW (λ_ h=>h) (λg hg=>ht.FR g (hr.FR g hg) (by simp)) os _ (FN.append os [o]) x v h
 have:=hr.Xu (k:=k) ht (by simp) (os':=os++[o]) (FN.append os [o]) (λi oi hi=>by
   rcases qg i oi hi with h|⟨_,rfl⟩
   ·exact .inl ⟨h,by simp⟩
   ·refine .inr ⟨rO,λx hx=>⟨(rh x hx).1,λc hc=>D4 ((rh x hx).2 c hc)⟩,by simp[o],λg hg=>?_,λg hg=>hg.elim,Ew λx hx=>(rh x hx).2⟩;simp only[o,lX]at hg;subst hg;refine⟨λhF=>absurd (hr.FR _ hF) (Nat.lt_irrefl _),cur,by rw[<- hs0];exact heap_alloc_new w0 _,rA,hle,sc,λi' x hx j c hc=>?_⟩;obtain⟨u,h1,h2⟩:=qw i' x hx j c hc;exact⟨u,h1,hold _ _ h2⟩)
  (λi j oi oj g hi hj vM vN=>by
   rcases qg i oi hi with h|⟨h,rfl⟩<;>rcases qg j oj hj with h'|⟨h',rfl⟩
   ·exact hr.inj i j oi oj g h h' vM vN
   ·have:=qu i oi g h vM;simp only[Own.owns,o,Fc,mr,lX]at vN;omega
   ·have:=qu j oj g h' vN;simp only[Own.owns,o,Fc,mr,lX]at vM;omega
   ·omega)
  (λo' rF g hg=>by
   rcases lz.1 rF with h|h
   ·exact .inr ⟨o',h,hg⟩
   ·simp only[lu]at h;subst h;simp only[Own.owns,o,Fc,mr,lX]at hg;exact .inl (by omega))
  (by simp)
 refine⟨?_,this.2.1,this.2.2⟩;have h1:=this.1;rw[nI,hr.st]at h1;simpa using h1
theorem Rel.Py (hr:Rel F os s a w){id:Nat}{o o':Own}(ho:os[id]?=some o){w':World}(ht:Hr w w' o.Fk)
  (h1:o.row.gen<=o'.row.gen) (h2:o'.row.size=o.row.size) (h3:o'.row.gen=o.row.gen->o'.Fk=o.Fk/\o'.cap=o.cap/\o'.row.xs.length=o.row.xs.length)
  (hb :∀g,o'.owns g->o.owns g∨w.heap.size<=g)
  (qd:(∀x v,Ae F w os x v->Ae F w' (os.set id o') x v)->MY F w' (os.set id o') o') :
  Rel F (os.set id o') { s with st:=s.st.set id o'.row } a w'/\Ext F os w F (os.set id o') w' k/\(∀x v,Ae F w os x v->Ae F w' (os.set id o') x v):=by
 have rS:FN os (os.set id o'):=FN.set ho h1 h2 h3;have hFb:∀i,o.Fk=some i->¬ F i:=λi hi=>(hr.rows id o ho).nF (.inl hi);have qi:∀x v,Ae F w os x v->Ae F w' (os.set id o') x v:=λx v h=>
  DW (λ_ h=>h) (λg hg=>ht.FR g (hr.FR g hg) (λe=>hFb g e hg)) os _ rS x v h
 have qu:∀(i:Nat) (oi:Own) g,os[i]?=some oi->oi.owns g->g<w.heap.size:=λi oi g hi hg=>(hr.rows i oi hi).lt hg;have qg:∀(i:Nat) (oi:Own),(os.set id o')[i]?=some oi->(i≠id/\os[i]?=some oi)∨(i=id/\oi=o'):=λi oi hi=>by
  by_cases e:i=id
  ·subst e;rw[lp (lV.1 ho).1,lX]at hi;exact .inr ⟨rfl,hi.symm⟩
  ·rw[mG (nK e)]at hi;exact .inl ⟨e,hi⟩
 have:=hr.Xu (k:=k) ht hFb rS (λi oi hi=>by
   rcases qg i oi hi with ⟨rC,h⟩|⟨_,rfl⟩
   ·exact .inl ⟨h,λg hg e=>rC (hr.inj i id oi o g h ho hg (.inl e))⟩
   ·exact .inr (qd qi))
  (λi j oi oj g hi hj vM vN=>by
   rcases qg i oi hi with ⟨rC,h⟩|⟨h,rfl⟩<;>rcases qg j oj hj with ⟨wg,h'⟩|⟨h',rfl⟩
   ·exact hr.inj i j oi oj g h h' vM vN
   ·rcases hb g vN with e|e
    ·exact absurd (hr.inj i id oi o g h ho vM e) rC
    ·have:=qu i oi g h vM;omega
   ·rcases hb g vM with e|e
    ·exact absurd (hr.inj j id oj o g h' ho vN e) wg
    ·have:=qu j oj g h' vN;omega
   ·omega)
  (λox hox g hg=>by
   obtain⟨i,hi⟩:=lv.1 hox;rcases qg i ox hi with ⟨_,h⟩|⟨_,rfl⟩
   ·exact .inr ⟨ox,lT h,hg⟩
   ·rcases hb g hg with e|e
    ·exact .inr ⟨o,lT ho,e⟩
    ·exact .inl e)
  (λg hg=>⟨o,lT ho,.inl hg⟩)
 refine⟨?_,this.2.1,this.2.2⟩;have h1:=this.1;rw[nj,hr.st]at h1;exact h1
end Go.Abs
