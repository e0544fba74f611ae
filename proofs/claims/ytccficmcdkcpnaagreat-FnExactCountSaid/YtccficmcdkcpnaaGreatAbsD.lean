import Derived.Test.YtccficmcdkcpnaaGreatAbsC
set_option linter.all false
namespace Go.Abs
open Go
variable {P : Program} {F : Nat -> Prop} {os : List Own} {s : St} {a : Act} {w : World} {k : Nat}
def Er (os os':List Own):Prop:=
 ∀(i:Nat) (o:Own),os[i]?=some o->∃o':Own,os'[i]?=some o'/\o.row.gen<=o'.row.gen/\o'.row.size=o.row.size/\(o'.row.gen=o.row.gen->o'.Ea=o.Ea/\o'.cap=o.cap/\o'.row.xs.length=o.row.xs.length)
theorem Er.refl (os:List Own):Er os os:=λ_ o h=>⟨o,h,uq _,rfl,λ_=>⟨rfl,rfl,rfl⟩⟩
theorem Er.append (os more:List Own):Er os (os++more):=λi o h=>
 ⟨o,by rw[uU (uK.1 h).1];exact h,uq _,rfl,λ_=>⟨rfl,rfl,rfl⟩⟩
theorem Er.set {id:Nat}{o o':Own}(ho:os[id]?=some o)(h1:o.row.gen<=o'.row.gen)(h2:o'.row.size=o.row.size)
  (h3:o'.row.gen=o.row.gen->o'.Ea=o.Ea/\o'.cap=o.cap/\o'.row.xs.length=o.row.xs.length):Er os (os.set id o'):=λi oi hi=>by
 by_cases e:i=id
 ·subst e;rw[ho]at hi;cases hi;exact⟨o',by rw[uV (uK.1 ho).1],h1,h2,h3⟩
 ·exact⟨oi,by rw[vE (wR e)];exact hi,uq _,rfl,λ_=>⟨rfl,rfl,rfl⟩⟩
structure Gt (w w':World) (b:Option Nat):Prop where
 sys:w'.os=w.os
 tape:w'.tape=w.tape
 output:w'.output=w.output
 size:w.heap.size<=w'.heap.size
 GK :∀i,i<w.heap.size->b≠some i->w'.heap[i]?=w.heap[i]?
theorem Gt.refl (w:World)(b:Option Nat):Gt w w b:=⟨rfl,rfl,rfl,uq _,λ_ _ _=>rfl⟩
theorem Gt.alloc (w:World)(o:Obj)(b:Option Nat):Gt w (w.alloc o) b:=⟨rfl,rfl,rfl,by simp,λ_ hi _=>heap_alloc_old w o hi⟩
theorem J8 (w:World)(o:Obj)(b:Option Nat):Gt w (w.drew.alloc o) b:=⟨rfl,rfl,rfl,by simp,λ_ hi _=>heap_alloc_old w.drew o hi⟩
theorem Gt.setRow (w:World)(g:Nat)(cs:Array Value):Gt w (w.setRow g cs) (some g):=⟨rfl,rfl,rfl,by simp,λi _ hi=>setRow_other w g i cs (λe=>hi (by rw[e]))⟩
theorem Rel.Z2 (hr:Rel F os s a w){w':World}{b:Option Nat}(ht:Gt w w' b)(hb :∀i,b=some i->¬ F i){os':List Own}(hos:Er os os')
  (hrows :∀(i:Nat) (o:Own),os'[i]?=some o->(os[i]?=some o/\∀g,o.owns g->b≠some g)∨MZ F w' os' o)
  (hinj :∀(i j:Nat) (oi oj:Own) (g:Nat),os'[i]?=some oi->os'[j]?=some oj->oi.owns g->oj.owns g->i=j)
  (hblk :∀o':Own,o'∈os'->∀g,o'.owns g->w.heap.size<=g∨∃o:Own,o∈os/\o.owns g)
  (hbo :∀g,b=some g->∃o:Own,o∈os/\o.owns g) :
  Rel F os' { s with st:=os'.map Own.row } a w'/\Ext F os w F os' w' k/\∀x v,Ae F w os x v->Ae F w' os' x v:=by
 have hF:∀g,F g->w'.heap[g]?=w.heap[g]?:=λg hg=>ht.GK g (hr.GK g hg) (λe=>hb g e hg);have AAC:∀x v,Ae F w os x v->Ae F w' os' x v:=λx v h=>D8 (λ_ h=>h) hF os os' hos x v h;refine⟨⟨rfl,λi=>AAC _ _ (hr.env i),hr.size,λi o ho=>?_,hinj,λg hg=>vi (hr.GK g hg) ht.size,hr.defers⟩,⟨ht.sys,ht.tape,ht.output,ht.size,λ_ h=>h,hF,λg hg h1 h2=>⟨?_,h1,λo' ho' e=>?_⟩,λi o _ ho=>hos i o ho⟩,AAC⟩
 ·rcases hrows i o ho with ⟨hold,hne⟩|h
  ·have zp:=hr.rows i o hold;refine⟨zp.pos,zp.lens,zp.none,λg hg=>?_,λg hg=>⟨(zp.mo g hg).1,vi (zp.mo g hg).2.1 ht.size,(zp.mo g hg).2.2⟩,
    zp.deep.keep rfl (λ_ h=>h) rfl (λg hg=>ht.GK g (zp.lt hg) (hne g hg)) (λi x j e s ys hx hc=>⟨x,hx,hc⟩)⟩
   obtain⟨h1,cur,AAF,h2,h3,h4,h5⟩:=zp.some g hg;refine⟨h1,cur,?_,h2,h3,h4,λi' x hx j c hc=>?_⟩
   ·rw[ht.GK g (vR.1 AAF).1 (hne g (.inl hg))];exact AAF
   ·obtain⟨u,hu1,hu2⟩:=h5 i' x hx j c hc;exact⟨u,hu1,AAC _ _ hu2⟩
  ·exact h
 ·refine ht.GK g hg (λe=>?_);obtain⟨o,ho,hog⟩:=hbo g e;exact h2 o ho hog
 ·rcases hblk o' ho' g e with h3|⟨o,ho,hog⟩
  ·omega
  ·exact h2 o ho hog
theorem Rel.Tv (hr:Rel F os s a w){w0:World}(ht0:w0=w∨w0=w.drew){cur:Array Value}{e:TypeId}{size cap:Nat}{xs:List (List AV)}(hpos:0<size)(hlens :∀x∈xs,x.length=size/\∀c∈x,c.leaf=true)
  (hsz:cur.size=cap*size) (hle:xs.length<=cap) (hmax:cap<=maxLen)
  (AAE :∀(i:Nat) x,xs[i]?=some x->∀(j:Nat) c,x[j]?=some c->∃u,cur[i*size+j]?=some u/\Ae F w os c u) :
  let o:Own:=⟨⟨0,e,size,xs⟩,some w.heap.size,cap,Gb⟩
  Rel F (os++[o]) { s with st:=s.st++[o.row] } a (w0.alloc (.cells cur e))/\Ext F os w F (os++[o]) (w0.alloc (.cells cur e)) k/\(∀x v,Ae F w os x v->Ae F (w0.alloc (.cells cur e)) (os++[o]) x v):=by
 intro o;have ht:Gt w (w0.alloc (.cells cur e)) none:=by
  rcases ht0 with rfl|rfl
  ·exact Gt.alloc _ _ _
  ·exact J8 _ _ _
 have hs0:w0.heap.size=w.heap.size:=by rcases ht0 with rfl|rfl<;>rfl
 have hlt:∀(i:Nat) (oi:Own) g,os[i]?=some oi->oi.owns g->g<w.heap.size:=λi oi g hi hg=>(hr.rows i oi hi).lt hg;have AAD:∀(i:Nat) (oi:Own),(os++[o])[i]?=some oi->os[i]?=some oi∨(i=os.length/\oi=o):=λi oi hi=>by
  rcases wD i os.length with h|h|h
  ·rw[uU h]at hi;exact .inl hi
  ·subst h;simp at hi;exact .inr ⟨rfl,hi.symm⟩
  ·rw[ug (by omega),vf (by simp;omega)]at hi;cases hi
 have hold:∀x v,Ae F w os x v->Ae F (w0.alloc (.cells cur e)) (os++[o]) x v:=λx v h=>
  D8 (λ_ h=>h) (λg hg=>ht.GK g (hr.GK g hg) (by simp)) os _ (Er.append os [o]) x v h
 have:=hr.Z2 (k:=k) ht (by simp) (os':=os++[o]) (Er.append os [o]) (λi oi hi=>by
   rcases AAD i oi hi with h|⟨_,rfl⟩
   ·exact .inl ⟨h,by simp⟩
   ·refine .inr ⟨hpos,λx hx=>⟨(hlens x hx).1,λc hc=>DL ((hlens x hx).2 c hc)⟩,by simp[o],λg hg=>?_,λg hg=>hg.elim,Fz λx hx=>(hlens x hx).2⟩;simp only[o,uO]at hg;subst hg;refine⟨λhF=>absurd (hr.GK _ hF) (yY _),cur,by rw[<- hs0];exact xE w0 _,hsz,hle,hmax,λi' x hx j c hc=>?_⟩;obtain⟨u,h1,h2⟩:=AAE i' x hx j c hc;exact⟨u,h1,hold _ _ h2⟩)
  (λi j oi oj g hi hj hgi hgj=>by
   rcases AAD i oi hi with h|⟨h,rfl⟩<;>rcases AAD j oj hj with h'|⟨h',rfl⟩
   ·exact hr.inj i j oi oj g h h' hgi hgj
   ·have:=hlt i oi g h hgi;simp only[Own.owns,o,Gb,yc,uO]at hgj;omega
   ·have:=hlt j oj g h' hgj;simp only[Own.owns,o,Gb,yc,uO]at hgi;omega
   ·omega)
  (λo' ho' g hg=>by
   rcases vJ.1 ho' with h|h
   ·exact .inr ⟨o',h,hg⟩
   ·simp only[vQ]at h;subst h;simp only[Own.owns,o,Gb,yc,uO]at hg;exact .inl (by omega))
  (by simp)
 refine⟨?_,this.2.1,this.2.2⟩;have h1:=this.1;rw[vx,hr.st]at h1;simpa using h1
theorem Rel.RK (hr:Rel F os s a w){id:Nat}{o o':Own}(ho:os[id]?=some o){w':World}(ht:Gt w w' o.Ea)
  (h1:o.row.gen<=o'.row.gen) (h2:o'.row.size=o.row.size) (h3:o'.row.gen=o.row.gen->o'.Ea=o.Ea/\o'.cap=o.cap/\o'.row.xs.length=o.row.xs.length)
  (hb :∀g,o'.owns g->o.owns g∨w.heap.size<=g)
  (zp:(∀x v,Ae F w os x v->Ae F w' (os.set id o') x v)->MZ F w' (os.set id o') o') :
  Rel F (os.set id o') { s with st:=s.st.set id o'.row } a w'/\Ext F os w F (os.set id o') w' k/\(∀x v,Ae F w os x v->Ae F w' (os.set id o') x v):=by
 have hos:Er os (os.set id o'):=Er.set ho h1 h2 h3;have hFb:∀i,o.Ea=some i->¬ F i:=λi hi=>(hr.rows id o ho).nF (.inl hi);have AAC:∀x v,Ae F w os x v->Ae F w' (os.set id o') x v:=λx v h=>
  D8 (λ_ h=>h) (λg hg=>ht.GK g (hr.GK g hg) (λe=>hFb g e hg)) os _ hos x v h
 have hlt:∀(i:Nat) (oi:Own) g,os[i]?=some oi->oi.owns g->g<w.heap.size:=λi oi g hi hg=>(hr.rows i oi hi).lt hg;have AAD:∀(i:Nat) (oi:Own),(os.set id o')[i]?=some oi->(i≠id/\os[i]?=some oi)∨(i=id/\oi=o'):=λi oi hi=>by
  by_cases e:i=id
  ·subst e;rw[uV (uK.1 ho).1,uO]at hi;exact .inr ⟨rfl,hi.symm⟩
  ·rw[vE (wR e)]at hi;exact .inl ⟨e,hi⟩
 have:=hr.Z2 (k:=k) ht hFb hos (λi oi hi=>by
   rcases AAD i oi hi with ⟨hne,h⟩|⟨_,rfl⟩
   ·exact .inl ⟨h,λg hg e=>hne (hr.inj i id oi o g h ho hg (.inl e))⟩
   ·exact .inr (zp AAC))
  (λi j oi oj g hi hj hgi hgj=>by
   rcases AAD i oi hi with ⟨hne,h⟩|⟨h,rfl⟩<;>rcases AAD j oj hj with ⟨hne',h'⟩|⟨h',rfl⟩
   ·exact hr.inj i j oi oj g h h' hgi hgj
   ·rcases hb g hgj with e|e
    ·exact absurd (hr.inj i id oi o g h ho hgi e) hne
    ·have:=hlt i oi g h hgi;omega
   ·rcases hb g hgi with e|e
    ·exact absurd (hr.inj j id oj o g h' ho hgj e) hne'
    ·have:=hlt j oj g h' hgj;omega
   ·omega)
  (λox hox g hg=>by
   obtain⟨i,hi⟩:=vF.1 hox;rcases AAD i ox hi with ⟨_,h⟩|⟨_,rfl⟩
   ·exact .inr ⟨ox,uL h,hg⟩
   ·rcases hb g hg with e|e
    ·exact .inr ⟨o,uL ho,e⟩
    ·exact .inl e)
  (λg hg=>⟨o,uL ho,.inl hg⟩)
 refine⟨?_,this.2.1,this.2.2⟩;have h1:=this.1;rw[wb,hr.st]at h1;exact h1
end Go.Abs
