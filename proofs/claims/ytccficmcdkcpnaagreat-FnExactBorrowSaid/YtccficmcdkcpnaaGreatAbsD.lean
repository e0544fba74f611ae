import Derived.Test.YtccficmcdkcpnaaGreatAbsC
set_option linter.all false
namespace Go.Abs
open Go
variable {P : Program} {F : Nat -> Prop} {os : List Own} {s : St} {a : Act} {w : World} {k : Nat}
def DX (os os':List Own):Prop:=
 ∀(i:Nat) (o:Own),os[i]?=some o->∃o':Own,os'[i]?=some o'/\o.row.gen<=o'.row.gen/\o'.row.size=o.row.size/\(o'.row.gen=o.row.gen->o'.E1=o.E1/\o'.cap=o.cap/\o'.row.xs.length=o.row.xs.length)
theorem DX.refl (os:List Own):DX os os:=λ_ o h=>⟨o,h,ml _,rfl,λ_=>⟨rfl,rfl,rfl⟩⟩
theorem DX.append (os more:List Own):DX os (os++more):=λi o h=>
 ⟨o,by rw[mg (mT.1 h).1];exact h,ml _,rfl,λ_=>⟨rfl,rfl,rfl⟩⟩
theorem DX.set {id:Nat}{o o':Own}(ho:os[id]?=some o)(h1:o.row.gen<=o'.row.gen)(h2:o'.row.size=o.row.size)
  (h3:o'.row.gen=o.row.gen->o'.E1=o.E1/\o'.cap=o.cap/\o'.row.xs.length=o.row.xs.length):DX os (os.set id o'):=λi oi hi=>by
 by_cases e:i=id
 ·subst e;rw[ho]at hi;cases hi;exact⟨o',by rw[mc (mT.1 ho).1],h1,h2,h3⟩
 ·exact⟨oi,by rw[mq (oT e)];exact hi,ml _,rfl,λ_=>⟨rfl,rfl,rfl⟩⟩
structure GG (w w':World) (b:Option Nat):Prop where
 sys:w'.os=w.os
 tape:w'.tape=w.tape
 output:w'.output=w.output
 size:w.heap.size<=w'.heap.size
 FU :∀i,i<w.heap.size->b≠some i->w'.heap[i]?=w.heap[i]?
theorem GG.refl (w:World)(b:Option Nat):GG w w b:=⟨rfl,rfl,rfl,ml _,λ_ _ _=>rfl⟩
theorem GG.alloc (w:World)(o:Obj)(b:Option Nat):GG w (w.alloc o) b:=⟨rfl,rfl,rfl,by simp,λ_ hi _=>heap_alloc_old w o hi⟩
theorem Hb (w:World)(o:Obj)(b:Option Nat):GG w (w.drew.alloc o) b:=⟨rfl,rfl,rfl,by simp,λ_ hi _=>heap_alloc_old w.drew o hi⟩
theorem GG.setRow (w:World)(g:Nat)(cs:Array Value):GG w (w.setRow g cs) (some g):=⟨rfl,rfl,rfl,by simp,λi _ hi=>setRow_other w g i cs (λe=>hi (by rw[e]))⟩
theorem Rel.V9 (hr:Rel F os s a w){w':World}{b:Option Nat}(ht:GG w w' b)(hb :∀i,b=some i->¬ F i){os':List Own}(sP:DX os os')
  (sv :∀(i:Nat) (o:Own),os'[i]?=some o->(os[i]?=some o/\∀g,o.owns g->b≠some g)∨L8 F w' os' o)
  (hinj :∀(i j:Nat) (oi oj:Own) (g:Nat),os'[i]?=some oi->os'[j]?=some oj->oi.owns g->oj.owns g->i=j)
  (hblk :∀o':Own,o'∈os'->∀g,o'.owns g->w.heap.size<=g∨∃o:Own,o∈os/\o.owns g)
  (vv :∀g,b=some g->∃o:Own,o∈os/\o.owns g) :
  Rel F os' { s with st:=os'.map Own.row } a w'/\Ext F os w F os' w' k/\∀x v,AU F w os x v->AU F w' os' x v:=by
 have hF:∀g,F g->w'.heap[g]?=w.heap[g]?:=λg hg=>ht.FU g (hr.FU g hg) (λe=>hb g e hg);have rZ:∀x v,AU F w os x v->AU F w' os' x v:=λx v h=>Cy (λ_ h=>h) hF os os' sP x v h;refine⟨⟨rfl,λi=>rZ _ _ (hr.env i),hr.size,λi o ho=>?_,hinj,λg hg=>nk (hr.FU g hg) ht.size,hr.defers⟩,⟨ht.sys,ht.tape,ht.output,ht.size,λ_ h=>h,hF,λg hg h1 h2=>⟨?_,h1,λo' sA e=>?_⟩,λi o _ ho=>sP i o ho⟩,rZ⟩
 ·rcases sv i o ho with ⟨hold,sB⟩|h
  ·have rR:=hr.rows i o hold;refine⟨rR.pos,rR.lens,rR.none,λg hg=>?_,λg hg=>⟨(rR.mo g hg).1,nk (rR.mo g hg).2.1 ht.size,(rR.mo g hg).2.2⟩,
    rR.deep.keep rfl (λ_ h=>h) rfl (λg hg=>ht.FU g (rR.lt hg) (sB g hg)) (λi x j e s ys hx hc=>⟨x,hx,hc⟩)⟩
   obtain⟨h1,cur,re,h2,h3,h4,h5⟩:=rR.some g hg;refine⟨h1,cur,?_,h2,h3,h4,λi' x hx j c hc=>?_⟩
   ·rw[ht.FU g (nN.1 re).1 (sB g (.inl hg))];exact re
   ·obtain⟨u,hu1,uJ⟩:=h5 i' x hx j c hc;exact⟨u,hu1,rZ _ _ uJ⟩
  ·exact h
 ·refine ht.FU g hg (λe=>?_);obtain⟨o,ho,hog⟩:=vv g e;exact h2 o ho hog
 ·rcases hblk o' sA g e with h3|⟨o,ho,hog⟩
  ·omega
  ·exact h2 o ho hog
theorem Rel.QJ (hr:Rel F os s a w){w0:World}(wb:w0=w∨w0=w.drew){cur:Array Value}{e:TypeId}{size cap:Nat}{xs:List (List AV)}(sQ:0<size)(tp :∀x∈xs,x.length=size/\∀c∈x,c.leaf=true)
  (ru:cur.size=cap*size) (hle:xs.length<=cap) (tR:cap<=maxLen)
  (rf :∀(i:Nat) x,xs[i]?=some x->∀(j:Nat) c,x[j]?=some c->∃u,cur[i*size+j]?=some u/\AU F w os c u) :
  let o:Own:=⟨⟨0,e,size,xs⟩,some w.heap.size,cap,FI⟩
  Rel F (os++[o]) { s with st:=s.st++[o.row] } a (w0.alloc (.cells cur e))/\Ext F os w F (os++[o]) (w0.alloc (.cells cur e)) k/\(∀x v,AU F w os x v->AU F (w0.alloc (.cells cur e)) (os++[o]) x v):=by
 intro o;have ht:GG w (w0.alloc (.cells cur e)) none:=by
  rcases wb with rfl|rfl
  ·exact GG.alloc _ _ _
  ·exact Hb _ _ _
 have hs0:w0.heap.size=w.heap.size:=by rcases wb with rfl|rfl<;>rfl
 have rh:∀(i:Nat) (oi:Own) g,os[i]?=some oi->oi.owns g->g<w.heap.size:=λi oi g hi hg=>(hr.rows i oi hi).lt hg;have rb:∀(i:Nat) (oi:Own),(os++[o])[i]?=some oi->os[i]?=some oi∨(i=os.length/\oi=o):=λi oi hi=>by
  rcases oI i os.length with h|h|h
  ·rw[mg h]at hi;exact .inl hi
  ·subst h;simp at hi;exact .inr ⟨rfl,hi.symm⟩
  ·rw[mn (by omega),nG (by simp;omega)]at hi;cases hi
 have hold:∀x v,AU F w os x v->AU F (w0.alloc (.cells cur e)) (os++[o]) x v:=λx v h=>
  Cy (λ_ h=>h) (λg hg=>ht.FU g (hr.FU g hg) (by simp)) os _ (DX.append os [o]) x v h
 have:=hr.V9 (k:=k) ht (by simp) (os':=os++[o]) (DX.append os [o]) (λi oi hi=>by
   rcases rb i oi hi with h|⟨_,rfl⟩
   ·exact .inl ⟨h,by simp⟩
   ·refine .inr ⟨sQ,λx hx=>⟨(tp x hx).1,λc hc=>Ci ((tp x hx).2 c hc)⟩,by simp[o],λg hg=>?_,λg hg=>hg.elim,Fq λx hx=>(tp x hx).2⟩;simp only[o,mU]at hg;subst hg;refine⟨λhF=>absurd (hr.FU _ hF) (qU _),cur,by rw[<- hs0];exact pG w0 _,ru,hle,tR,λi' x hx j c hc=>?_⟩;obtain⟨u,h1,h2⟩:=rf i' x hx j c hc;exact⟨u,h1,hold _ _ h2⟩)
  (λi j oi oj g hi hj vG vH=>by
   rcases rb i oi hi with h|⟨h,rfl⟩<;>rcases rb j oj hj with h'|⟨h',rfl⟩
   ·exact hr.inj i j oi oj g h h' vG vH
   ·have:=rh i oi g h vG;simp only[Own.owns,o,FI,qY,mU]at vH;omega
   ·have:=rh j oj g h' vH;simp only[Own.owns,o,FI,qY,mU]at vG;omega
   ·omega)
  (λo' sA g hg=>by
   rcases nM.1 sA with h|h
   ·exact .inr ⟨o',h,hg⟩
   ·simp only[nQ]at h;subst h;simp only[Own.owns,o,FI,qY,mU]at hg;exact .inl (by omega))
  (by simp)
 refine⟨?_,this.2.1,this.2.2⟩;have h1:=this.1;rw[oF,hr.st]at h1;simpa using h1
theorem Rel.Nl (hr:Rel F os s a w){id:Nat}{o o':Own}(ho:os[id]?=some o){w':World}(ht:GG w w' o.E1)
  (h1:o.row.gen<=o'.row.gen) (h2:o'.row.size=o.row.size) (h3:o'.row.gen=o.row.gen->o'.E1=o.E1/\o'.cap=o.cap/\o'.row.xs.length=o.row.xs.length)
  (hb :∀g,o'.owns g->o.owns g∨w.heap.size<=g)
  (rR:(∀x v,AU F w os x v->AU F w' (os.set id o') x v)->L8 F w' (os.set id o') o') :
  Rel F (os.set id o') { s with st:=s.st.set id o'.row } a w'/\Ext F os w F (os.set id o') w' k/\(∀x v,AU F w os x v->AU F w' (os.set id o') x v):=by
 have sP:DX os (os.set id o'):=DX.set ho h1 h2 h3;have hFb:∀i,o.E1=some i->¬ F i:=λi hi=>(hr.rows id o ho).nF (.inl hi);have rZ:∀x v,AU F w os x v->AU F w' (os.set id o') x v:=λx v h=>
  Cy (λ_ h=>h) (λg hg=>ht.FU g (hr.FU g hg) (λe=>hFb g e hg)) os _ sP x v h
 have rh:∀(i:Nat) (oi:Own) g,os[i]?=some oi->oi.owns g->g<w.heap.size:=λi oi g hi hg=>(hr.rows i oi hi).lt hg;have rb:∀(i:Nat) (oi:Own),(os.set id o')[i]?=some oi->(i≠id/\os[i]?=some oi)∨(i=id/\oi=o'):=λi oi hi=>by
  by_cases e:i=id
  ·subst e;rw[mc (mT.1 ho).1,mU]at hi;exact .inr ⟨rfl,hi.symm⟩
  ·rw[mq (oT e)]at hi;exact .inl ⟨e,hi⟩
 have:=hr.V9 (k:=k) ht hFb sP (λi oi hi=>by
   rcases rb i oi hi with ⟨sB,h⟩|⟨_,rfl⟩
   ·exact .inl ⟨h,λg hg e=>sB (hr.inj i id oi o g h ho hg (.inl e))⟩
   ·exact .inr (rR rZ))
  (λi j oi oj g hi hj vG vH=>by
   rcases rb i oi hi with ⟨sB,h⟩|⟨h,rfl⟩<;>rcases rb j oj hj with ⟨wc,h'⟩|⟨h',rfl⟩
   ·exact hr.inj i j oi oj g h h' vG vH
   ·rcases hb g vH with e|e
    ·exact absurd (hr.inj i id oi o g h ho vG e) sB
    ·have:=rh i oi g h vG;omega
   ·rcases hb g vG with e|e
    ·exact absurd (hr.inj j id oj o g h' ho vH e) wc
    ·have:=rh j oj g h' vH;omega
   ·omega)
  (λox hox g hg=>by
   obtain⟨i,hi⟩:=nC.1 hox;rcases rb i ox hi with ⟨_,h⟩|⟨_,rfl⟩
   ·exact .inr ⟨ox,mS h,hg⟩
   ·rcases hb g hg with e|e
    ·exact .inr ⟨o,mS ho,e⟩
    ·exact .inl e)
  (λg hg=>⟨o,mS ho,.inl hg⟩)
 refine⟨?_,this.2.1,this.2.2⟩;have h1:=this.1;rw[oR,hr.st]at h1;exact h1
end Go.Abs
