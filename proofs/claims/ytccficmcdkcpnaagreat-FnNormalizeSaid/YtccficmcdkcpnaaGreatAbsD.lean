import Derived.Test.YtccficmcdkcpnaaGreatAbsC
set_option linter.all false
namespace Go.Abs
open Go
variable {P : Program} {F : Nat -> Prop} {os : List Own} {s : St} {a : Act} {w : World} {k : Nat}
def F8 (os os':List Own):Prop:=
 ∀(i:Nat) (o:Own),os[i]?=some o->∃o':Own,os'[i]?=some o'/\o.row.gen<=o'.row.gen/\o'.row.size=o.row.size/\(o'.row.gen=o.row.gen->o'.GB=o.GB/\o'.cap=o.cap/\o'.row.xs.length=o.row.xs.length)
theorem F8.refl (os:List Own):F8 os os:=λ_ o h=>⟨o,h,qU _,rfl,λ_=>⟨rfl,rfl,rfl⟩⟩
theorem F8.append (os more:List Own):F8 os (os++more):=λi o h=>
 ⟨o,by rw[qK (px.1 h).1];exact h,qU _,rfl,λ_=>⟨rfl,rfl,rfl⟩⟩
theorem F8.set {id:Nat}{o o':Own}(ho:os[id]?=some o)(h1:o.row.gen<=o'.row.gen)(h2:o'.row.size=o.row.size)
  (h3:o'.row.gen=o.row.gen->o'.GB=o.GB/\o'.cap=o.cap/\o'.row.xs.length=o.row.xs.length):F8 os (os.set id o'):=λi oi hi=>by
 by_cases e:i=id
 ·subst e;rw[ho]at hi;cases hi;exact⟨o',by rw[qI (px.1 ho).1],h1,h2,h3⟩
 ·exact⟨oi,by rw[qZ (rX e)];exact hi,qU _,rfl,λ_=>⟨rfl,rfl,rfl⟩⟩
structure Iy (w w':World) (b:Option Nat):Prop where
 sys:w'.os=w.os
 tape:w'.tape=w.tape
 output:w'.output=w.output
 size:w.heap.size<=w'.heap.size
 HO :∀i,i<w.heap.size->b≠some i->w'.heap[i]?=w.heap[i]?
theorem Iy.refl (w:World)(b:Option Nat):Iy w w b:=⟨rfl,rfl,rfl,qU _,λ_ _ _=>rfl⟩
theorem Iy.alloc (w:World)(o:Obj)(b:Option Nat):Iy w (w.alloc o) b:=⟨rfl,rfl,rfl,by simp,λ_ hi _=>heap_alloc_old w o hi⟩
theorem Of (w:World)(o:Obj)(b:Option Nat):Iy w (w.drew.alloc o) b:=⟨rfl,rfl,rfl,by simp,λ_ hi _=>heap_alloc_old w.drew o hi⟩
theorem Iy.setRow (w:World)(g:Nat)(cs:Array Value):Iy w (w.setRow g cs) (some g):=⟨rfl,rfl,rfl,by simp,λi _ hi=>setRow_other w g i cs (λe=>hi (by rw[e]))⟩
theorem Rel.Z2 (hr:Rel F os s a w){w':World}{b:Option Nat}(ht:Iy w w' b)(hb :∀i,b=some i->¬ F i){os':List Own}(vq:F8 os os')
  (wV :∀(i:Nat) (o:Own),os'[i]?=some o->(os[i]?=some o/\∀g,o.owns g->b≠some g)∨Pu F w' os' o)
  (hinj :∀(i j:Nat) (oi oj:Own) (g:Nat),os'[i]?=some oi->os'[j]?=some oj->oi.owns g->oj.owns g->i=j)
  (hblk :∀o':Own,o'∈os'->∀g,o'.owns g->w.heap.size<=g∨∃o:Own,o∈os/\o.owns g)
  (hbo :∀g,b=some g->∃o:Own,o∈os/\o.owns g) :
  Rel F os' { s with st:=os'.map Own.row } a w'/\Ext F os w F os' w' k/\∀x v,Ac F w os x v->Ac F w' os' x v:=by
 have hF:∀g,F g->w'.heap[g]?=w.heap[g]?:=λg hg=>ht.HO g (hr.HO g hg) (λe=>hb g e hg);have vL:∀x v,Ac F w os x v->Ac F w' os' x v:=λx v h=>Ds (λ_ h=>h) hF os os' vq x v h;refine⟨⟨rfl,λi=>vL _ _ (hr.env i),hr.size,λi o ho=>?_,hinj,λg hg=>rW (hr.HO g hg) ht.size,hr.defers⟩,⟨ht.sys,ht.tape,ht.output,ht.size,λ_ h=>h,hF,λg hg h1 h2=>⟨?_,h1,λo' vc e=>?_⟩,λi o _ ho=>vq i o ho⟩,vL⟩
 ·rcases wV i o ho with ⟨hold,vZ⟩|h
  ·have vF:=hr.rows i o hold;refine⟨vF.pos,vF.lens,vF.none,λg hg=>?_,λg hg=>⟨(vF.mo g hg).1,rW (vF.mo g hg).2.1 ht.size,(vF.mo g hg).2.2⟩,
    vF.deep.keep rfl (λ_ h=>h) rfl (λg hg=>ht.HO g (vF.lt hg) (vZ g hg)) (λi x j e s ys hx hc=>⟨x,hx,hc⟩)⟩
   obtain⟨h1,cur,vU,h2,h3,h4,h5⟩:=vF.some g hg;refine⟨h1,cur,?_,h2,h3,h4,λi' x hx j c hc=>?_⟩
   ·rw[ht.HO g (qv.1 vU).1 (vZ g (.inl hg))];exact vU
   ·obtain⟨u,hu1,xg⟩:=h5 i' x hx j c hc;exact⟨u,hu1,vL _ _ xg⟩
  ·exact h
 ·refine ht.HO g hg (λe=>?_);obtain⟨o,ho,hog⟩:=hbo g e;exact h2 o ho hog
 ·rcases hblk o' vc g e with h3|⟨o,ho,hog⟩
  ·omega
  ·exact h2 o ho hog
theorem Rel.Pa (hr:Rel F os s a w){w0:World}(ht0:w0=w∨w0=w.drew){cur:Array Value}{e:TypeId}{size cap:Nat}{xs:List (List AV)}(ve:0<size)(wG :∀x∈xs,x.length=size/\∀c∈x,c.leaf=true)
  (vY:cur.size=cap*size) (hle:xs.length<=cap) (xQ:cap<=maxLen)
  (vR :∀(i:Nat) x,xs[i]?=some x->∀(j:Nat) c,x[j]?=some c->∃u,cur[i*size+j]?=some u/\Ac F w os c u) :
  let o:Own:=⟨⟨0,e,size,xs⟩,some w.heap.size,cap,Ga⟩
  Rel F (os++[o]) { s with st:=s.st++[o.row] } a (w0.alloc (.cells cur e))/\Ext F os w F (os++[o]) (w0.alloc (.cells cur e)) k/\(∀x v,Ac F w os x v->Ac F (w0.alloc (.cells cur e)) (os++[o]) x v):=by
 intro o;have ht:Iy w (w0.alloc (.cells cur e)) none:=by
  rcases ht0 with rfl|rfl
  ·exact Iy.alloc _ _ _
  ·exact Of _ _ _
 have hs0:w0.heap.size=w.heap.size:=by rcases ht0 with rfl|rfl<;>rfl
 have vS:∀(i:Nat) (oi:Own) g,os[i]?=some oi->oi.owns g->g<w.heap.size:=λi oi g hi hg=>(hr.rows i oi hi).lt hg;have vJ:∀(i:Nat) (oi:Own),(os++[o])[i]?=some oi->os[i]?=some oi∨(i=os.length/\oi=o):=λi oi hi=>by
  rcases rb i os.length with h|h|h
  ·rw[qK h]at hi;exact .inl hi
  ·subst h;simp at hi;exact .inr ⟨rfl,hi.symm⟩
  ·rw[qS (by omega),rR (by simp;omega)]at hi;cases hi
 have hold:∀x v,Ac F w os x v->Ac F (w0.alloc (.cells cur e)) (os++[o]) x v:=λx v h=>
  Ds (λ_ h=>h) (λg hg=>ht.HO g (hr.HO g hg) (by simp)) os _ (F8.append os [o]) x v h
 have:=hr.Z2 (k:=k) ht (by simp) (os':=os++[o]) (F8.append os [o]) (λi oi hi=>by
   rcases vJ i oi hi with h|⟨_,rfl⟩
   ·exact .inl ⟨h,by simp⟩
   ·refine .inr ⟨ve,λx hx=>⟨(wG x hx).1,λc hc=>Du ((wG x hx).2 c hc)⟩,by simp[o],λg hg=>?_,λg hg=>hg.elim,E7 λx hx=>(wG x hx).2⟩;simp only[o,pz]at hg;subst hg;refine⟨λhF=>absurd (hr.HO _ hF) (Nat.lt_irrefl _),cur,by rw[<- hs0];exact heap_alloc_new w0 _,vY,hle,xQ,λi' x hx j c hc=>?_⟩;obtain⟨u,h1,h2⟩:=vR i' x hx j c hc;exact⟨u,h1,hold _ _ h2⟩)
  (λi j oi oj g hi hj zy hgj=>by
   rcases vJ i oi hi with h|⟨h,rfl⟩<;>rcases vJ j oj hj with h'|⟨h',rfl⟩
   ·exact hr.inj i j oi oj g h h' zy hgj
   ·have:=vS i oi g h zy;simp only[Own.owns,o,Ga,rI,pz]at hgj;omega
   ·have:=vS j oj g h' hgj;simp only[Own.owns,o,Ga,rI,pz]at zy;omega
   ·omega)
  (λo' vc g hg=>by
   rcases qb.1 vc with h|h
   ·exact .inr ⟨o',h,hg⟩
   ·simp only[qO]at h;subst h;simp only[Own.owns,o,Ga,rI,pz]at hg;exact .inl (by omega))
  (by simp)
 refine⟨?_,this.2.1,this.2.2⟩;have h1:=this.1;rw[rM,hr.st]at h1;simpa using h1
theorem Rel.SM (hr:Rel F os s a w){id:Nat}{o o':Own}(ho:os[id]?=some o){w':World}(ht:Iy w w' o.GB)
  (h1:o.row.gen<=o'.row.gen) (h2:o'.row.size=o.row.size) (h3:o'.row.gen=o.row.gen->o'.GB=o.GB/\o'.cap=o.cap/\o'.row.xs.length=o.row.xs.length)
  (hb :∀g,o'.owns g->o.owns g∨w.heap.size<=g)
  (vF:(∀x v,Ac F w os x v->Ac F w' (os.set id o') x v)->Pu F w' (os.set id o') o') :
  Rel F (os.set id o') { s with st:=s.st.set id o'.row } a w'/\Ext F os w F (os.set id o') w' k/\(∀x v,Ac F w os x v->Ac F w' (os.set id o') x v):=by
 have vq:F8 os (os.set id o'):=F8.set ho h1 h2 h3;have hFb:∀i,o.GB=some i->¬ F i:=λi hi=>(hr.rows id o ho).nF (.inl hi);have vL:∀x v,Ac F w os x v->Ac F w' (os.set id o') x v:=λx v h=>
  Ds (λ_ h=>h) (λg hg=>ht.HO g (hr.HO g hg) (λe=>hFb g e hg)) os _ vq x v h
 have vS:∀(i:Nat) (oi:Own) g,os[i]?=some oi->oi.owns g->g<w.heap.size:=λi oi g hi hg=>(hr.rows i oi hi).lt hg;have vJ:∀(i:Nat) (oi:Own),(os.set id o')[i]?=some oi->(i≠id/\os[i]?=some oi)∨(i=id/\oi=o'):=λi oi hi=>by
  by_cases e:i=id
  ·subst e;rw[qI (px.1 ho).1,pz]at hi;exact .inr ⟨rfl,hi.symm⟩
  ·rw[qZ (rX e)]at hi;exact .inl ⟨e,hi⟩
 have:=hr.Z2 (k:=k) ht hFb vq (λi oi hi=>by
   rcases vJ i oi hi with ⟨vZ,h⟩|⟨_,rfl⟩
   ·exact .inl ⟨h,λg hg e=>vZ (hr.inj i id oi o g h ho hg (.inl e))⟩
   ·exact .inr (vF vL))
  (λi j oi oj g hi hj zy hgj=>by
   rcases vJ i oi hi with ⟨vZ,h⟩|⟨h,rfl⟩<;>rcases vJ j oj hj with ⟨hne',h'⟩|⟨h',rfl⟩
   ·exact hr.inj i j oi oj g h h' zy hgj
   ·rcases hb g hgj with e|e
    ·exact absurd (hr.inj i id oi o g h ho zy e) vZ
    ·have:=vS i oi g h zy;omega
   ·rcases hb g zy with e|e
    ·exact absurd (hr.inj j id oj o g h' ho hgj e) hne'
    ·have:=vS j oj g h' hgj;omega
   ·omega)
  (λox hox g hg=>by
   obtain⟨i,hi⟩:=qf.1 hox;rcases vJ i ox hi with ⟨_,h⟩|⟨_,rfl⟩
   ·exact .inr ⟨ox,pt h,hg⟩
   ·rcases hb g hg with e|e
    ·exact .inr ⟨o,pt ho,e⟩
    ·exact .inl e)
  (λg hg=>⟨o,pt ho,.inl hg⟩)
 refine⟨?_,this.2.1,this.2.2⟩;have h1:=this.1;rw[rh,hr.st]at h1;exact h1
end Go.Abs
