import Derived.Test.YtihdgoiebmfapaaGreatAbsC
set_option linter.all false
namespace Go.Abs
open Go
variable {P : Program} {F : Nat -> Prop} {os : List Own} {s : St} {a : Act} {w : World} {k : Nat}
def FH (os os':List Own):Prop:=
 ∀(i:Nat) (o:Own),os[i]?=some o->∃o':Own,os'[i]?=some o'/\o.row.gen<=o'.row.gen/\o'.row.size=o.row.size/\(o'.row.gen=o.row.gen->o'.Fe=o.Fe/\o'.cap=o.cap/\o'.row.xs.length=o.row.xs.length)
theorem FH.refl (os:List Own):FH os os:=λ_ o h=>⟨o,h,jv _,rfl,λ_=>⟨rfl,rfl,rfl⟩⟩
theorem FH.append (os more:List Own):FH os (os++more):=λi o h=>
 ⟨o,by rw[jr (jg.1 h).1];exact h,jv _,rfl,λ_=>⟨rfl,rfl,rfl⟩⟩
theorem FH.set {id:Nat}{o o':Own}(ho:os[id]?=some o)(h1:o.row.gen<=o'.row.gen)(h2:o'.row.size=o.row.size)
  (h3:o'.row.gen=o.row.gen->o'.Fe=o.Fe/\o'.cap=o.cap/\o'.row.xs.length=o.row.xs.length):FH os (os.set id o'):=λi oi hi=>by
 by_cases e:i=id
 ·subst e;rw[ho]at hi;cases hi;exact⟨o',by rw[ju (jg.1 ho).1],h1,h2,h3⟩
 ·exact⟨oi,by rw[kG (lK e)];exact hi,jv _,rfl,λ_=>⟨rfl,rfl,rfl⟩⟩
structure Hb (w w':World) (b:Option Nat):Prop where
 sys:w'.os=w.os
 tape:w'.tape=w.tape
 output:w'.output=w.output
 size:w.heap.size<=w'.heap.size
 FR :∀i,i<w.heap.size->b≠some i->w'.heap[i]?=w.heap[i]?
theorem Hb.refl (w:World)(b:Option Nat):Hb w w b:=⟨rfl,rfl,rfl,jv _,λ_ _ _=>rfl⟩
theorem Hb.alloc (w:World)(o:Obj)(b:Option Nat):Hb w (w.alloc o) b:=⟨rfl,rfl,rfl,by simp,λ_ hi _=>mR w o hi⟩
theorem MX (w:World)(o:Obj)(b:Option Nat):Hb w (w.drew.alloc o) b:=⟨rfl,rfl,rfl,by simp,λ_ hi _=>mR w.drew o hi⟩
theorem Hb.setRow (w:World)(g:Nat)(cs:Array Value):Hb w (w.setRow g cs) (some g):=⟨rfl,rfl,rfl,by simp,λi _ hi=>setRow_other w g i cs (λe=>hi (by rw[e]))⟩
theorem Rel.Wq (hr:Rel F os s a w){w':World}{b:Option Nat}(ht:Hb w w' b)(hb :∀i,b=some i->¬ F i){os':List Own}(pd:FH os os')
  (qJ :∀(i:Nat) (o:Own),os'[i]?=some o->(os[i]?=some o/\∀g,o.owns g->b≠some g)∨Mc F w' os' o)
  (hinj :∀(i j:Nat) (oi oj:Own) (g:Nat),os'[i]?=some oi->os'[j]?=some oj->oi.owns g->oj.owns g->i=j)
  (hblk :∀o':Own,o'∈os'->∀g,o'.owns g->w.heap.size<=g∨∃o:Own,o∈os/\o.owns g)
  (tY :∀g,b=some g->∃o:Own,o∈os/\o.owns g) :
  Rel F os' { s with st:=os'.map Own.row } a w'/\Ext F os w F os' w' k/\∀x v,Ae F w os x v->Ae F w' os' x v:=by
 have hF:∀g,F g->w'.heap[g]?=w.heap[g]?:=λg hg=>ht.FR g (hr.FR g hg) (λe=>hb g e hg);have oh:∀x v,Ae F w os x v->Ae F w' os' x v:=λx v h=>DU (λ_ h=>h) hF os os' pd x v h;refine⟨⟨rfl,λi=>oh _ _ (hr.env i),hr.size,λi o ho=>?_,hinj,λg hg=>ke (hr.FR g hg) ht.size,hr.defers⟩,⟨ht.sys,ht.tape,ht.output,ht.size,λ_ h=>h,hF,λg hg h1 h2=>⟨?_,h1,λo' pQ e=>?_⟩,λi o _ ho=>pd i o ho⟩,oh⟩
 ·rcases qJ i o ho with ⟨hold,pN⟩|h
  ·have ob:=hr.rows i o hold;refine⟨ob.pos,ob.lens,ob.none,λg hg=>?_,λg hg=>⟨(ob.mo g hg).1,ke (ob.mo g hg).2.1 ht.size,(ob.mo g hg).2.2⟩,
    ob.deep.keep rfl (λ_ h=>h) rfl (λg hg=>ht.FR g (ob.lt hg) (pN g hg)) (λi x j e s ys hx hc=>⟨x,hx,hc⟩)⟩
   obtain⟨h1,cur,pF,h2,h3,h4,h5⟩:=ob.some g hg;refine⟨h1,cur,?_,h2,h3,h4,λi' x hx j c hc=>?_⟩
   ·rw[ht.FR g (kR.1 pF).1 (pN g (.inl hg))];exact pF
   ·obtain⟨u,hu1,qz⟩:=h5 i' x hx j c hc;exact⟨u,hu1,oh _ _ qz⟩
  ·exact h
 ·refine ht.FR g hg (λe=>?_);obtain⟨o,ho,yY⟩:=tY g e;exact h2 o ho yY
 ·rcases hblk o' pQ g e with h3|⟨o,ho,yY⟩
  ·omega
  ·exact h2 o ho yY
theorem Rel.OQ (hr:Rel F os s a w){w0:World}(uL:w0=w∨w0=w.drew){cur:Array Value}{e:TypeId}{size cap:Nat}{xs:List (List AV)}(pZ:0<size)(px :∀x∈xs,x.length=size/\∀c∈x,c.leaf=true)
  (pL:cur.size=cap*size) (hle:xs.length<=cap) (qn:cap<=maxLen)
  (pH :∀(i:Nat) x,xs[i]?=some x->∀(j:Nat) c,x[j]?=some c->∃u,cur[i*size+j]?=some u/\Ae F w os c u) :
  let o:Own:=⟨⟨0,e,size,xs⟩,some w.heap.size,cap,FX⟩
  Rel F (os++[o]) { s with st:=s.st++[o.row] } a (w0.alloc (.cells cur e))/\Ext F os w F (os++[o]) (w0.alloc (.cells cur e)) k/\(∀x v,Ae F w os x v->Ae F (w0.alloc (.cells cur e)) (os++[o]) x v):=by
 intro o;have ht:Hb w (w0.alloc (.cells cur e)) none:=by
  rcases uL with rfl|rfl
  ·exact Hb.alloc _ _ _
  ·exact MX _ _ _
 have yA:w0.heap.size=w.heap.size:=by rcases uL with rfl|rfl<;>rfl
 have pG:∀(i:Nat) (oi:Own) g,os[i]?=some oi->oi.owns g->g<w.heap.size:=λi oi g hi hg=>(hr.rows i oi hi).lt hg;have oe:∀(i:Nat) (oi:Own),(os++[o])[i]?=some oi->os[i]?=some oi∨(i=os.length/\oi=o):=λi oi hi=>by
  rcases lH i os.length with h|h|h
  ·rw[jr h]at hi;exact .inl hi
  ·subst h;simp at hi;exact .inr ⟨rfl,hi.symm⟩
  ·rw[jt (by omega),kq (by simp;omega)]at hi;cases hi
 have hold:∀x v,Ae F w os x v->Ae F (w0.alloc (.cells cur e)) (os++[o]) x v:=λx v h=>
  DU (λ_ h=>h) (λg hg=>ht.FR g (hr.FR g hg) (by simp)) os _ (FH.append os [o]) x v h
 have:=hr.Wq (k:=k) ht (by simp) (os':=os++[o]) (FH.append os [o]) (λi oi hi=>by
   rcases oe i oi hi with h|⟨_,rfl⟩
   ·exact .inl ⟨h,by simp⟩
   ·refine .inr ⟨pZ,λx hx=>⟨(px x hx).1,λc hc=>Dz ((px x hx).2 c hc)⟩,by simp[o],λg hg=>?_,λg hg=>hg.elim,Er λx hx=>(px x hx).2⟩;simp only[o,jh]at hg;subst hg;refine⟨λhF=>absurd (hr.FR _ hF) (Nat.lt_irrefl _),cur,by rw[<- yA];exact heap_alloc_new w0 _,pL,hle,qn,λi' x hx j c hc=>?_⟩;obtain⟨u,h1,h2⟩:=pH i' x hx j c hc;exact⟨u,h1,hold _ _ h2⟩)
  (λi j oi oj g hi hj tF tG=>by
   rcases oe i oi hi with h|⟨h,rfl⟩<;>rcases oe j oj hj with h'|⟨h',rfl⟩
   ·exact hr.inj i j oi oj g h h' tF tG
   ·have:=pG i oi g h tF;simp only[Own.owns,o,FX,kx,jh]at tG;omega
   ·have:=pG j oj g h' tG;simp only[Own.owns,o,FX,kx,jh]at tF;omega
   ·omega)
  (λo' pQ g hg=>by
   rcases kJ.1 pQ with h|h
   ·exact .inr ⟨o',h,hg⟩
   ·simp only[jy]at h;subst h;simp only[Own.owns,o,FX,kx,jh]at hg;exact .inl (by omega))
  (by simp)
 refine⟨?_,this.2.1,this.2.2⟩;have h1:=this.1;rw[lJ,hr.st]at h1;simpa using h1
theorem Rel.Oz (hr:Rel F os s a w){id:Nat}{o o':Own}(ho:os[id]?=some o){w':World}(ht:Hb w w' o.Fe)
  (h1:o.row.gen<=o'.row.gen) (h2:o'.row.size=o.row.size) (h3:o'.row.gen=o.row.gen->o'.Fe=o.Fe/\o'.cap=o.cap/\o'.row.xs.length=o.row.xs.length)
  (hb :∀g,o'.owns g->o.owns g∨w.heap.size<=g)
  (ob:(∀x v,Ae F w os x v->Ae F w' (os.set id o') x v)->Mc F w' (os.set id o') o') :
  Rel F (os.set id o') { s with st:=s.st.set id o'.row } a w'/\Ext F os w F (os.set id o') w' k/\(∀x v,Ae F w os x v->Ae F w' (os.set id o') x v):=by
 have pd:FH os (os.set id o'):=FH.set ho h1 h2 h3;have hFb:∀i,o.Fe=some i->¬ F i:=λi hi=>(hr.rows id o ho).nF (.inl hi);have oh:∀x v,Ae F w os x v->Ae F w' (os.set id o') x v:=λx v h=>
  DU (λ_ h=>h) (λg hg=>ht.FR g (hr.FR g hg) (λe=>hFb g e hg)) os _ pd x v h
 have pG:∀(i:Nat) (oi:Own) g,os[i]?=some oi->oi.owns g->g<w.heap.size:=λi oi g hi hg=>(hr.rows i oi hi).lt hg;have oe:∀(i:Nat) (oi:Own),(os.set id o')[i]?=some oi->(i≠id/\os[i]?=some oi)∨(i=id/\oi=o'):=λi oi hi=>by
  by_cases e:i=id
  ·subst e;rw[ju (jg.1 ho).1,jh]at hi;exact .inr ⟨rfl,hi.symm⟩
  ·rw[kG (lK e)]at hi;exact .inl ⟨e,hi⟩
 have:=hr.Wq (k:=k) ht hFb pd (λi oi hi=>by
   rcases oe i oi hi with ⟨pN,h⟩|⟨_,rfl⟩
   ·exact .inl ⟨h,λg hg e=>pN (hr.inj i id oi o g h ho hg (.inl e))⟩
   ·exact .inr (ob oh))
  (λi j oi oj g hi hj tF tG=>by
   rcases oe i oi hi with ⟨pN,h⟩|⟨h,rfl⟩<;>rcases oe j oj hj with ⟨ug,h'⟩|⟨h',rfl⟩
   ·exact hr.inj i j oi oj g h h' tF tG
   ·rcases hb g tG with e|e
    ·exact absurd (hr.inj i id oi o g h ho tF e) pN
    ·have:=pG i oi g h tF;omega
   ·rcases hb g tF with e|e
    ·exact absurd (hr.inj j id oj o g h' ho tG e) ug
    ·have:=pG j oj g h' tG;omega
   ·omega)
  (λox hox g hg=>by
   obtain⟨i,hi⟩:=jz.1 hox;rcases oe i ox hi with ⟨_,h⟩|⟨_,rfl⟩
   ·exact .inr ⟨ox,je h,hg⟩
   ·rcases hb g hg with e|e
    ·exact .inr ⟨o,je ho,e⟩
    ·exact .inl e)
  (λg hg=>⟨o,je ho,.inl hg⟩)
 refine⟨?_,this.2.1,this.2.2⟩;have h1:=this.1;rw[ln,hr.st]at h1;exact h1
end Go.Abs
