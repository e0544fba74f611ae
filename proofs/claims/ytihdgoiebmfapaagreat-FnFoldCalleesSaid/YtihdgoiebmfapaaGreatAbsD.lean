import Derived.Test.YtihdgoiebmfapaaGreatAbsC
set_option linter.all false
namespace Go.Abs
open Go
variable {P : Program} {F : Nat -> Prop} {os : List Own} {s : St} {a : Act} {w : World} {k : Nat}
def FK (os os':List Own):Prop:=
 ∀(i:Nat) (o:Own),os[i]?=some o->∃o':Own,os'[i]?=some o'/\o.row.gen<=o'.row.gen/\o'.row.size=o.row.size/\(o'.row.gen=o.row.gen->o'.Fk=o.Fk/\o'.cap=o.cap/\o'.row.xs.length=o.row.xs.length)
theorem FK.refl (os:List Own):FK os os:=λ_ o h=>⟨o,h,ll _,rfl,λ_=>⟨rfl,rfl,rfl⟩⟩
theorem FK.append (os more:List Own):FK os (os++more):=λi o h=>
 ⟨o,by rw[lj (lV.1 h).1];exact h,ll _,rfl,λ_=>⟨rfl,rfl,rfl⟩⟩
theorem FK.set {id:Nat}{o o':Own}(ho:os[id]?=some o)(h1:o.row.gen<=o'.row.gen)(h2:o'.row.size=o.row.size)
  (h3:o'.row.gen=o.row.gen->o'.Fk=o.Fk/\o'.cap=o.cap/\o'.row.xs.length=o.row.xs.length):FK os (os.set id o'):=λi oi hi=>by
 by_cases e:i=id
 ·subst e;rw[ho]at hi;cases hi;exact⟨o',by rw[lp (lV.1 ho).1],h1,h2,h3⟩
 ·exact⟨oi,by rw[mG (nK e)];exact hi,ll _,rfl,λ_=>⟨rfl,rfl,rfl⟩⟩
structure Hl (w w':World) (b:Option Nat):Prop where
 sys:w'.os=w.os
 tape:w'.tape=w.tape
 output:w'.output=w.output
 size:w.heap.size<=w'.heap.size
 FR :∀i,i<w.heap.size->b≠some i->w'.heap[i]?=w.heap[i]?
theorem Hl.refl (w:World)(b:Option Nat):Hl w w b:=⟨rfl,rfl,rfl,ll _,λ_ _ _=>rfl⟩
theorem Hl.alloc (w:World)(o:Obj)(b:Option Nat):Hl w (w.alloc o) b:=⟨rfl,rfl,rfl,by simp,λ_ hi _=>oO w o hi⟩
theorem MQ (w:World)(o:Obj)(b:Option Nat):Hl w (w.drew.alloc o) b:=⟨rfl,rfl,rfl,by simp,λ_ hi _=>oO w.drew o hi⟩
theorem Hl.setRow (w:World)(g:Nat)(cs:Array Value):Hl w (w.setRow g cs) (some g):=⟨rfl,rfl,rfl,by simp,λi _ hi=>setRow_other w g i cs (λe=>hi (by rw[e]))⟩
theorem Rel.YE (hr:Rel F os s a w){w':World}{b:Option Nat}(ht:Hl w w' b)(hb :∀i,b=some i->¬ F i){os':List Own}(rU:FK os os')
  (sA :∀(i:Nat) (o:Own),os'[i]?=some o->(os[i]?=some o/\∀g,o.owns g->b≠some g)∨Me F w' os' o)
  (hinj :∀(i j:Nat) (oi oj:Own) (g:Nat),os'[i]?=some oi->os'[j]?=some oj->oi.owns g->oj.owns g->i=j)
  (hblk :∀o':Own,o'∈os'->∀g,o'.owns g->w.heap.size<=g∨∃o:Own,o∈os/\o.owns g)
  (vg :∀g,b=some g->∃o:Own,o∈os/\o.owns g) :
  Rel F os' { s with st:=os'.map Own.row } a w'/\Ext F os w F os' w' k/\∀x v,Ae F w os x v->Ae F w' os' x v:=by
 have hF:∀g,F g->w'.heap[g]?=w.heap[g]?:=λg hg=>ht.FR g (hr.FR g hg) (λe=>hb g e hg);have qk:∀x v,Ae F w os x v->Ae F w' os' x v:=λx v h=>DV (λ_ h=>h) hF os os' rU x v h;refine⟨⟨rfl,λi=>qk _ _ (hr.env i),hr.size,λi o ho=>?_,hinj,λg hg=>ma (hr.FR g hg) ht.size,hr.defers⟩,⟨ht.sys,ht.tape,ht.output,ht.size,λ_ h=>h,hF,λg hg h1 h2=>⟨?_,h1,λo' rH e=>?_⟩,λi o _ ho=>rU i o ho⟩,qk⟩
 ·rcases sA i o ho with ⟨hold,rE⟩|h
  ·have qf:=hr.rows i o hold;refine⟨qf.pos,qf.lens,qf.none,λg hg=>?_,λg hg=>⟨(qf.mo g hg).1,ma (qf.mo g hg).2.1 ht.size,(qf.mo g hg).2.2⟩,
    qf.deep.keep rfl (λ_ h=>h) rfl (λg hg=>ht.FR g (qf.lt hg) (rE g hg)) (λi x j e s ys hx hc=>⟨x,hx,hc⟩)⟩
   obtain⟨h1,cur,qv,h2,h3,h4,h5⟩:=qf.some g hg;refine⟨h1,cur,?_,h2,h3,h4,λi' x hx j c hc=>?_⟩
   ·rw[ht.FR g (mO.1 qv).1 (rE g (.inl hg))];exact qv
   ·obtain⟨u,hu1,sw⟩:=h5 i' x hx j c hc;exact⟨u,hu1,qk _ _ sw⟩
  ·exact h
 ·refine ht.FR g hg (λe=>?_);obtain⟨o,ho,hog⟩:=vg g e;exact h2 o ho hog
 ·rcases hblk o' rH g e with h3|⟨o,ho,hog⟩
  ·omega
  ·exact h2 o ho hog
theorem Rel.Oa (hr:Rel F os s a w){w0:World}(wN:w0=w∨w0=w.drew){cur:Array Value}{e:TypeId}{size cap:Nat}{xs:List (List AV)}(rQ:0<size)(rj :∀x∈xs,x.length=size/\∀c∈x,c.leaf=true)
  (rC:cur.size=cap*size) (hle:xs.length<=cap) (se:cap<=maxLen)
  (qy :∀(i:Nat) x,xs[i]?=some x->∀(j:Nat) c,x[j]?=some c->∃u,cur[i*size+j]?=some u/\Ae F w os c u) :
  let o:Own:=⟨⟨0,e,size,xs⟩,some w.heap.size,cap,Fe⟩
  Rel F (os++[o]) { s with st:=s.st++[o.row] } a (w0.alloc (.cells cur e))/\Ext F os w F (os++[o]) (w0.alloc (.cells cur e)) k/\(∀x v,Ae F w os x v->Ae F (w0.alloc (.cells cur e)) (os++[o]) x v):=by
 intro o;have ht:Hl w (w0.alloc (.cells cur e)) none:=by
  rcases wN with rfl|rfl
  ·exact Hl.alloc _ _ _
  ·exact MQ _ _ _
 have hs0:w0.heap.size=w.heap.size:=by rcases wN with rfl|rfl<;>rfl
 have qw:∀(i:Nat) (oi:Own) g,os[i]?=some oi->oi.owns g->g<w.heap.size:=λi oi g hi hg=>(hr.rows i oi hi).lt hg;have qi:∀(i:Nat) (oi:Own),(os++[o])[i]?=some oi->os[i]?=some oi∨(i=os.length/\oi=o):=λi oi hi=>by
  rcases nG i os.length with h|h|h
  ·rw[lj h]at hi;exact .inl hi
  ·subst h;simp at hi;exact .inr ⟨rfl,hi.symm⟩
  ·rw[ln (by omega),mV (by simp;omega)]at hi;cases hi
 have hold:∀x v,Ae F w os x v->Ae F (w0.alloc (.cells cur e)) (os++[o]) x v:=λx v h=>
  DV (λ_ h=>h) (λg hg=>ht.FR g (hr.FR g hg) (by simp)) os _ (FK.append os [o]) x v h
 have:=hr.YE (k:=k) ht (by simp) (os':=os++[o]) (FK.append os [o]) (λi oi hi=>by
   rcases qi i oi hi with h|⟨_,rfl⟩
   ·exact .inl ⟨h,by simp⟩
   ·refine .inr ⟨rQ,λx hx=>⟨(rj x hx).1,λc hc=>D3 ((rj x hx).2 c hc)⟩,by simp[o],λg hg=>?_,λg hg=>hg.elim,Et λx hx=>(rj x hx).2⟩;simp only[o,lX]at hg;subst hg;refine⟨λhF=>absurd (hr.FR _ hF) (Nat.lt_irrefl _),cur,by rw[<- hs0];exact heap_alloc_new w0 _,rC,hle,se,λi' x hx j c hc=>?_⟩;obtain⟨u,h1,h2⟩:=qy i' x hx j c hc;exact⟨u,h1,hold _ _ h2⟩)
  (λi j oi oj g hi hj vO vP=>by
   rcases qi i oi hi with h|⟨h,rfl⟩<;>rcases qi j oj hj with h'|⟨h',rfl⟩
   ·exact hr.inj i j oi oj g h h' vO vP
   ·have:=qw i oi g h vO;simp only[Own.owns,o,Fe,mr,lX]at vP;omega
   ·have:=qw j oj g h' vP;simp only[Own.owns,o,Fe,mr,lX]at vO;omega
   ·omega)
  (λo' rH g hg=>by
   rcases lz.1 rH with h|h
   ·exact .inr ⟨o',h,hg⟩
   ·simp only[lu]at h;subst h;simp only[Own.owns,o,Fe,mr,lX]at hg;exact .inl (by omega))
  (by simp)
 refine⟨?_,this.2.1,this.2.2⟩;have h1:=this.1;rw[nI,hr.st]at h1;simpa using h1
theorem Rel.Pt (hr:Rel F os s a w){id:Nat}{o o':Own}(ho:os[id]?=some o){w':World}(ht:Hl w w' o.Fk)
  (h1:o.row.gen<=o'.row.gen) (h2:o'.row.size=o.row.size) (h3:o'.row.gen=o.row.gen->o'.Fk=o.Fk/\o'.cap=o.cap/\o'.row.xs.length=o.row.xs.length)
  (hb :∀g,o'.owns g->o.owns g∨w.heap.size<=g)
  (qf:(∀x v,Ae F w os x v->Ae F w' (os.set id o') x v)->Me F w' (os.set id o') o') :
  Rel F (os.set id o') { s with st:=s.st.set id o'.row } a w'/\Ext F os w F (os.set id o') w' k/\(∀x v,Ae F w os x v->Ae F w' (os.set id o') x v):=by
 have rU:FK os (os.set id o'):=FK.set ho h1 h2 h3;have hFb:∀i,o.Fk=some i->¬ F i:=λi hi=>(hr.rows id o ho).nF (.inl hi);have qk:∀x v,Ae F w os x v->Ae F w' (os.set id o') x v:=λx v h=>
  DV (λ_ h=>h) (λg hg=>ht.FR g (hr.FR g hg) (λe=>hFb g e hg)) os _ rU x v h
 have qw:∀(i:Nat) (oi:Own) g,os[i]?=some oi->oi.owns g->g<w.heap.size:=λi oi g hi hg=>(hr.rows i oi hi).lt hg;have qi:∀(i:Nat) (oi:Own),(os.set id o')[i]?=some oi->(i≠id/\os[i]?=some oi)∨(i=id/\oi=o'):=λi oi hi=>by
  by_cases e:i=id
  ·subst e;rw[lp (lV.1 ho).1,lX]at hi;exact .inr ⟨rfl,hi.symm⟩
  ·rw[mG (nK e)]at hi;exact .inl ⟨e,hi⟩
 have:=hr.YE (k:=k) ht hFb rU (λi oi hi=>by
   rcases qi i oi hi with ⟨rE,h⟩|⟨_,rfl⟩
   ·exact .inl ⟨h,λg hg e=>rE (hr.inj i id oi o g h ho hg (.inl e))⟩
   ·exact .inr (qf qk))
  (λi j oi oj g hi hj vO vP=>by
   rcases qi i oi hi with ⟨rE,h⟩|⟨h,rfl⟩<;>rcases qi j oj hj with ⟨wm,h'⟩|⟨h',rfl⟩
   ·exact hr.inj i j oi oj g h h' vO vP
   ·rcases hb g vP with e|e
    ·exact absurd (hr.inj i id oi o g h ho vO e) rE
    ·have:=qw i oi g h vO;omega
   ·rcases hb g vO with e|e
    ·exact absurd (hr.inj j id oj o g h' ho vP e) wm
    ·have:=qw j oj g h' vP;omega
   ·omega)
  (λox hox g hg=>by
   obtain⟨i,hi⟩:=lv.1 hox;rcases qi i ox hi with ⟨_,h⟩|⟨_,rfl⟩
   ·exact .inr ⟨ox,lT h,hg⟩
   ·rcases hb g hg with e|e
    ·exact .inr ⟨o,lT ho,e⟩
    ·exact .inl e)
  (λg hg=>⟨o,lT ho,.inl hg⟩)
 refine⟨?_,this.2.1,this.2.2⟩;have h1:=this.1;rw[nj,hr.st]at h1;exact h1
end Go.Abs
