import Derived.Test.YtgiajkaabnbieaaGreatAbsC
set_option linter.all false
namespace Go.Abs
open Go
variable {P : Program} {F : Nat -> Prop} {os : List Own} {s : St} {a : Act} {w : World} {k : Nat}
def Ex (os os':List Own):Prop:=
 ∀(i:Nat) (o:Own),os[i]?=some o->∃o':Own,os'[i]?=some o'/\o.row.gen<=o'.row.gen/\o'.row.size=o.row.size/\(o'.row.gen=o.row.gen->o'.DM=o.DM/\o'.cap=o.cap/\o'.row.xs.length=o.row.xs.length)
theorem Ex.refl (os:List Own):Ex os os:=λ_ o h=>⟨o,h,mS _,rfl,λ_=>⟨rfl,rfl,rfl⟩⟩
theorem Ex.append (os more:List Own):Ex os (os++more):=λi o h=>
 ⟨o,by rw[mM (mC.1 h).1];exact h,mS _,rfl,λ_=>⟨rfl,rfl,rfl⟩⟩
theorem Ex.set {id:Nat}{o o':Own}(ho:os[id]?=some o)(h1:o.row.gen<=o'.row.gen)(h2:o'.row.size=o.row.size)
  (h3:o'.row.gen=o.row.gen->o'.DM=o.DM/\o'.cap=o.cap/\o'.row.xs.length=o.row.xs.length):Ex os (os.set id o'):=λi oi hi=>by
 by_cases e:i=id
 ·subst e;rw[ho]at hi;cases hi;exact⟨o',by rw[mN (mC.1 ho).1],h1,h2,h3⟩
 ·exact⟨oi,by rw[mT (nm e)];exact hi,mS _,rfl,λ_=>⟨rfl,rfl,rfl⟩⟩
structure G7 (w w':World) (b:Option Nat):Prop where
 sys:w'.os=w.os
 tape:w'.tape=w.tape
 output:w'.output=w.output
 size:w.heap.size<=w'.heap.size
 F6 :∀i,i<w.heap.size->b≠some i->w'.heap[i]?=w.heap[i]?
theorem G7.refl (w:World)(b:Option Nat):G7 w w b:=⟨rfl,rfl,rfl,mS _,λ_ _ _=>rfl⟩
theorem G7.alloc (w:World)(o:Obj)(b:Option Nat):G7 w (w.alloc o) b:=⟨rfl,rfl,rfl,by simp,λ_ hi _=>heap_alloc_old w o hi⟩
theorem Ij (w:World)(o:Obj)(b:Option Nat):G7 w (w.drew.alloc o) b:=⟨rfl,rfl,rfl,by simp,λ_ hi _=>heap_alloc_old w.drew o hi⟩
theorem G7.setRow (w:World)(g:Nat)(cs:Array Value):G7 w (w.setRow g cs) (some g):=⟨rfl,rfl,rfl,by simp,λi _ hi=>setRow_other w g i cs (λe=>hi (by rw[e]))⟩
theorem Rel.Xl (hr:Rel F os s a w){w':World}{b:Option Nat}(ht:G7 w w' b)(hb :∀i,b=some i->¬ F i){os':List Own}(rq:Ex os os')
  (sM :∀(i:Nat) (o:Own),os'[i]?=some o->(os[i]?=some o/\∀g,o.owns g->b≠some g)∨Kf F w' os' o)
  (hinj :∀(i j:Nat) (oi oj:Own) (g:Nat),os'[i]?=some oi->os'[j]?=some oj->oi.owns g->oj.owns g->i=j)
  (hblk :∀o':Own,o'∈os'->∀g,o'.owns g->w.heap.size<=g∨∃o:Own,o∈os/\o.owns g)
  (vg :∀g,b=some g->∃o:Own,o∈os/\o.owns g) :
  Rel F os' { s with st:=os'.map Own.row } a w'/\Ext F os w F os' w' k/\∀x v,Ae F w os x v->Ae F w' os' x v:=by
 have hF:∀g,F g->w'.heap[g]?=w.heap[g]?:=λg hg=>ht.F6 g (hr.F6 g hg) (λe=>hb g e hg);have rC:∀x v,Ae F w os x v->Ae F w' os' x v:=λx v h=>EJ (λ_ h=>h) hF os os' rq x v h;refine⟨⟨rfl,λi=>rC _ _ (hr.env i),hr.size,λi o ho=>?_,hinj,λg hg=>nL (hr.F6 g hg) ht.size,hr.defers⟩,⟨ht.sys,ht.tape,ht.output,ht.size,λ_ h=>h,hF,λg hg h1 h2=>⟨?_,h1,λo' rW e=>?_⟩,λi o _ ho=>rq i o ho⟩,rC⟩
 ·rcases sM i o ho with ⟨hold,rV⟩|h
  ·have qu:=hr.rows i o hold;refine⟨qu.pos,qu.lens,qu.none,λg hg=>?_,λg hg=>⟨(qu.mo g hg).1,nL (qu.mo g hg).2.1 ht.size,(qu.mo g hg).2.2⟩,
    qu.deep.keep rfl (λ_ h=>h) rfl (λg hg=>ht.F6 g (qu.lt hg) (rV g hg)) (λi x j e s ys hx hc=>⟨x,hx,hc⟩)⟩
   obtain⟨h1,cur,rE,h2,h3,h4,h5⟩:=qu.some g hg;refine⟨h1,cur,?_,h2,h3,h4,λi' x hx j c hc=>?_⟩
   ·rw[ht.F6 g (mq.1 rE).1 (rV g (.inl hg))];exact rE
   ·obtain⟨u,hu1,tU⟩:=h5 i' x hx j c hc;exact⟨u,hu1,rC _ _ tU⟩
  ·exact h
 ·refine ht.F6 g hg (λe=>?_);obtain⟨o,ho,hog⟩:=vg g e;exact h2 o ho hog
 ·rcases hblk o' rW g e with h3|⟨o,ho,hog⟩
  ·omega
  ·exact h2 o ho hog
theorem Rel.Qb (hr:Rel F os s a w){w0:World}(wR:w0=w∨w0=w.drew){cur:Array Value}{e:TypeId}{size cap:Nat}{xs:List (List AV)}(ru:0<size)(tE :∀x∈xs,x.length=size/\∀c∈x,c.leaf=true)
  (rP:cur.size=cap*size) (hle:xs.length<=cap) (sb:cap<=maxLen)
  (rF :∀(i:Nat) x,xs[i]?=some x->∀(j:Nat) c,x[j]?=some c->∃u,cur[i*size+j]?=some u/\Ae F w os c u) :
  let o:Own:=⟨⟨0,e,size,xs⟩,some w.heap.size,cap,Fj⟩
  Rel F (os++[o]) { s with st:=s.st++[o.row] } a (w0.alloc (.cells cur e))/\Ext F os w F (os++[o]) (w0.alloc (.cells cur e)) k/\(∀x v,Ae F w os x v->Ae F (w0.alloc (.cells cur e)) (os++[o]) x v):=by
 intro o;have ht:G7 w (w0.alloc (.cells cur e)) none:=by
  rcases wR with rfl|rfl
  ·exact G7.alloc _ _ _
  ·exact Ij _ _ _
 have hs0:w0.heap.size=w.heap.size:=by rcases wR with rfl|rfl<;>rfl
 have rJ:∀(i:Nat) (oi:Own) g,os[i]?=some oi->oi.owns g->g<w.heap.size:=λi oi g hi hg=>(hr.rows i oi hi).lt hg;have rD:∀(i:Nat) (oi:Own),(os++[o])[i]?=some oi->os[i]?=some oi∨(i=os.length/\oi=o):=λi oi hi=>by
  rcases ng i os.length with h|h|h
  ·rw[mM h]at hi;exact .inl hi
  ·subst h;simp at hi;exact .inr ⟨rfl,hi.symm⟩
  ·rw[mP (by omega),nH (by simp;omega)]at hi;cases hi
 have hold:∀x v,Ae F w os x v->Ae F (w0.alloc (.cells cur e)) (os++[o]) x v:=λx v h=>
  EJ (λ_ h=>h) (λg hg=>ht.F6 g (hr.F6 g hg) (by simp)) os _ (Ex.append os [o]) x v h
 have:=hr.Xl (k:=k) ht (by simp) (os':=os++[o]) (Ex.append os [o]) (λi oi hi=>by
   rcases rD i oi hi with h|⟨_,rfl⟩
   ·exact .inl ⟨h,by simp⟩
   ·refine .inr ⟨ru,λx hx=>⟨(tE x hx).1,λc hc=>Dr ((tE x hx).2 c hc)⟩,by simp[o],λg hg=>?_,λg hg=>hg.elim,Fv λx hx=>(tE x hx).2⟩;simp only[o,mE]at hg;subst hg;refine⟨λhF=>absurd (hr.F6 _ hF) (pj _),cur,by rw[<- hs0];exact oW w0 _,rP,hle,sb,λi' x hx j c hc=>?_⟩;obtain⟨u,h1,h2⟩:=rF i' x hx j c hc;exact⟨u,h1,hold _ _ h2⟩)
  (λi j oi oj g hi hj uQ uR=>by
   rcases rD i oi hi with h|⟨h,rfl⟩<;>rcases rD j oj hj with h'|⟨h',rfl⟩
   ·exact hr.inj i j oi oj g h h' uQ uR
   ·have:=rJ i oi g h uQ;simp only[Own.owns,o,Fj,pt,mE]at uR;omega
   ·have:=rJ j oj g h' uR;simp only[Own.owns,o,Fj,pt,mE]at uQ;omega
   ·omega)
  (λo' rW g hg=>by
   rcases my.1 rW with h|h
   ·exact .inr ⟨o',h,hg⟩
   ·simp only[mv]at h;subst h;simp only[Own.owns,o,Fj,pt,mE]at hg;exact .inl (by omega))
  (by simp)
 refine⟨?_,this.2.1,this.2.2⟩;have h1:=this.1;rw[mu,hr.st]at h1;simpa using h1
theorem Rel.Ok (hr:Rel F os s a w){id:Nat}{o o':Own}(ho:os[id]?=some o){w':World}(ht:G7 w w' o.DM)
  (h1:o.row.gen<=o'.row.gen) (h2:o'.row.size=o.row.size) (h3:o'.row.gen=o.row.gen->o'.DM=o.DM/\o'.cap=o.cap/\o'.row.xs.length=o.row.xs.length)
  (hb :∀g,o'.owns g->o.owns g∨w.heap.size<=g)
  (qu:(∀x v,Ae F w os x v->Ae F w' (os.set id o') x v)->Kf F w' (os.set id o') o') :
  Rel F (os.set id o') { s with st:=s.st.set id o'.row } a w'/\Ext F os w F (os.set id o') w' k/\(∀x v,Ae F w os x v->Ae F w' (os.set id o') x v):=by
 have rq:Ex os (os.set id o'):=Ex.set ho h1 h2 h3;have hFb:∀i,o.DM=some i->¬ F i:=λi hi=>(hr.rows id o ho).nF (.inl hi);have rC:∀x v,Ae F w os x v->Ae F w' (os.set id o') x v:=λx v h=>
  EJ (λ_ h=>h) (λg hg=>ht.F6 g (hr.F6 g hg) (λe=>hFb g e hg)) os _ rq x v h
 have rJ:∀(i:Nat) (oi:Own) g,os[i]?=some oi->oi.owns g->g<w.heap.size:=λi oi g hi hg=>(hr.rows i oi hi).lt hg;have rD:∀(i:Nat) (oi:Own),(os.set id o')[i]?=some oi->(i≠id/\os[i]?=some oi)∨(i=id/\oi=o'):=λi oi hi=>by
  by_cases e:i=id
  ·subst e;rw[mN (mC.1 ho).1,mE]at hi;exact .inr ⟨rfl,hi.symm⟩
  ·rw[mT (nm e)]at hi;exact .inl ⟨e,hi⟩
 have:=hr.Xl (k:=k) ht hFb rq (λi oi hi=>by
   rcases rD i oi hi with ⟨rV,h⟩|⟨_,rfl⟩
   ·exact .inl ⟨h,λg hg e=>rV (hr.inj i id oi o g h ho hg (.inl e))⟩
   ·exact .inr (qu rC))
  (λi j oi oj g hi hj uQ uR=>by
   rcases rD i oi hi with ⟨rV,h⟩|⟨h,rfl⟩<;>rcases rD j oj hj with ⟨wS,h'⟩|⟨h',rfl⟩
   ·exact hr.inj i j oi oj g h h' uQ uR
   ·rcases hb g uR with e|e
    ·exact absurd (hr.inj i id oi o g h ho uQ e) rV
    ·have:=rJ i oi g h uQ;omega
   ·rcases hb g uQ with e|e
    ·exact absurd (hr.inj j id oj o g h' ho uR e) wS
    ·have:=rJ j oj g h' uR;omega
   ·omega)
  (λox hox g hg=>by
   obtain⟨i,hi⟩:=ma.1 hox;rcases rD i ox hi with ⟨_,h⟩|⟨_,rfl⟩
   ·exact .inr ⟨ox,mB h,hg⟩
   ·rcases hb g hg with e|e
    ·exact .inr ⟨o,mB ho,e⟩
    ·exact .inl e)
  (λg hg=>⟨o,mB ho,.inl hg⟩)
 refine⟨?_,this.2.1,this.2.2⟩;have h1:=this.1;rw[nt,hr.st]at h1;exact h1
end Go.Abs
