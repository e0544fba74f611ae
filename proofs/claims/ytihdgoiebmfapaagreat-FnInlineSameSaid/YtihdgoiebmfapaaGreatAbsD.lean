import Derived.Test.YtihdgoiebmfapaaGreatAbsC
set_option linter.all false
namespace Go.Abs
open Go
variable {P : Program} {F : Nat -> Prop} {os : List Own} {s : St} {a : Act} {w : World} {k : Nat}
def Fp (os os':List Own):Prop:=
 ∀(i:Nat) (o:Own),os[i]?=some o->∃o':Own,os'[i]?=some o'/\o.row.gen<=o'.row.gen/\o'.row.size=o.row.size/\(o'.row.gen=o.row.gen->o'.GA=o.GA/\o'.cap=o.cap/\o'.row.xs.length=o.row.xs.length)
theorem Fp.refl (os:List Own):Fp os os:=λ_ o h=>⟨o,h,pL _,rfl,λ_=>⟨rfl,rfl,rfl⟩⟩
theorem Fp.append (os more:List Own):Fp os (os++more):=λi o h=>
 ⟨o,by rw[pM (pA.1 h).1];exact h,pL _,rfl,λ_=>⟨rfl,rfl,rfl⟩⟩
theorem Fp.set {id:Nat}{o o':Own}(ho:os[id]?=some o)(h1:o.row.gen<=o'.row.gen)(h2:o'.row.size=o.row.size)
  (h3:o'.row.gen=o.row.gen->o'.GA=o.GA/\o'.cap=o.cap/\o'.row.xs.length=o.row.xs.length):Fp os (os.set id o'):=λi oi hi=>by
 by_cases e:i=id
 .subst e;rw[ho]at hi;cases hi;exact⟨o',by rw[pO (pA.1 ho).1],h1,h2,h3⟩
 .exact⟨oi,by rw[pd (qv e)];exact hi,pL _,rfl,λ_=>⟨rfl,rfl,rfl⟩⟩
structure HA (w w':World) (b:Option Nat):Prop where
 sys:w'.os=w.os
 tape:w'.tape=w.tape
 output:w'.output=w.output
 size:w.heap.size<=w'.heap.size
 Fu :∀i,i<w.heap.size->b≠some i->w'.heap[i]?=w.heap[i]?
theorem HA.refl (w:World)(b:Option Nat):HA w w b:=⟨rfl,rfl,rfl,pL _,λ_ _ _=>rfl⟩
theorem HA.alloc (w:World)(o:Obj)(b:Option Nat):HA w (w.alloc o) b:=⟨rfl,rfl,rfl,by simp,λ_ hi _=>rz w o hi⟩
theorem Kw (w:World)(o:Obj)(b:Option Nat):HA w (w.drew.alloc o) b:=⟨rfl,rfl,rfl,by simp,λ_ hi _=>rz w.drew o hi⟩
theorem HA.setRow (w:World)(g:Nat)(cs:Array Value):HA w (w.setRow g cs) (some g):=⟨rfl,rfl,rfl,by simp,λi _ hi=>setRow_other w g i cs (λe=>hi (by rw[e]))⟩
theorem Rel.Zt (hr:Rel F os s a w){w':World}{b:Option Nat}(ht:HA w w' b)(hb :∀i,b=some i->¬ F i){os':List Own}(vP:Fp os os')
  (vn :∀(i:Nat) (o:Own),os'[i]?=some o->(os[i]?=some o/\∀g,o.owns g->b≠some g)∨Ma F w' os' o)
  (hinj :∀(i j:Nat) (oi oj:Own) (g:Nat),os'[i]?=some oi->os'[j]?=some oj->oi.owns g->oj.owns g->i=j)
  (hblk :∀o':Own,o'∈os'->∀g,o'.owns g->w.heap.size<=g∨∃o:Own,o∈os/\o.owns g)
  (hbo :∀g,b=some g->∃o:Own,o∈os/\o.owns g) :
  Rel F os' { s with st:=os'.map Own.row } a w'/\Ext F os w F os' w' k/\∀x v,Ab F w os x v->Ab F w' os' x v:=by
 have hF:∀g,F g->w'.heap[g]?=w.heap[g]?:=λg hg=>ht.Fu g (hr.Fu g hg) (λe=>hb g e hg);have uG:∀x v,Ab F w os x v->Ab F w' os' x v:=λx v h=>DW (λ_ h=>h) hF os os' vP x v h;refine⟨⟨rfl,λi=>uG _ _ (hr.env i),hr.size,λi o ho=>?_,hinj,λg hg=>qK (hr.Fu g hg) ht.size,hr.defers⟩,⟨ht.sys,ht.tape,ht.output,ht.size,λ_ h=>h,hF,λg hg h1 h2=>⟨?_,h1,λo' uw e=>?_⟩,λi o _ ho=>vP i o ho⟩,uG⟩
 .rcases vn i o ho with ⟨hold,uq⟩|h
  .have tz:=hr.rows i o hold;refine⟨tz.pos,tz.lens,tz.none,λg hg=>?_,λg hg=>⟨(tz.mo g hg).1,qK (tz.mo g hg).2.1 ht.size,(tz.mo g hg).2.2⟩,
    tz.deep.keep rfl (λ_ h=>h) rfl (λg hg=>ht.Fu g (tz.lt hg) (uq g hg)) (λi x j e s ys hx hc=>⟨x,hx,hc⟩)⟩
   obtain⟨h1,cur,uO,h2,h3,h4,h5⟩:=tz.some g hg;refine⟨h1,cur,?_,h2,h3,h4,λi' x hx j c hc=>?_⟩
   .rw[ht.Fu g (px.1 uO).1 (uq g (.inl hg))];exact uO
   .obtain⟨u,hu1,xB⟩:=h5 i' x hx j c hc;exact⟨u,hu1,uG _ _ xB⟩
  .exact h
 .refine ht.Fu g hg (λe=>?_);obtain⟨o,ho,hog⟩:=hbo g e;exact h2 o ho hog
 .rcases hblk o' uw g e with h3|⟨o,ho,hog⟩
  .omega
  .exact h2 o ho hog
theorem Rel.PN (hr:Rel F os s a w){w0:World}(ht0:w0=w∨w0=w.drew){cur:Array Value}{e:TypeId}{size cap:Nat}{xs:List (List AV)}(uz:0<size)(vY :∀x∈xs,x.length=size/\∀c∈x,c.leaf=true)
  (ue:cur.size=cap*size) (hle:xs.length<=cap) (vp:cap<=maxLen)
  (uK :∀(i:Nat) x,xs[i]?=some x->∀(j:Nat) c,x[j]?=some c->∃u,cur[i*size+j]?=some u/\Ab F w os c u) :
  let o:Own:=⟨⟨0,e,size,xs⟩,some w.heap.size,cap,GF⟩
  Rel F (os++[o]) { s with st:=s.st++[o.row] } a (w0.alloc (.cells cur e))/\Ext F os w F (os++[o]) (w0.alloc (.cells cur e)) k/\(∀x v,Ab F w os x v->Ab F (w0.alloc (.cells cur e)) (os++[o]) x v):=by
 intro o;have ht:HA w (w0.alloc (.cells cur e)) none:=by
  rcases ht0 with rfl|rfl
  .exact HA.alloc _ _ _
  .exact Kw _ _ _
 have hs0:w0.heap.size=w.heap.size:=by rcases ht0 with rfl|rfl<;>rfl
 have uU:∀(i:Nat) (oi:Own) g,os[i]?=some oi->oi.owns g->g<w.heap.size:=λi oi g hi hg=>(hr.rows i oi hi).lt hg;have uD:∀(i:Nat) (oi:Own),(os++[o])[i]?=some oi->os[i]?=some oi∨(i=os.length/\oi=o):=λi oi hi=>by
  rcases qk i os.length with h|h|h
  .rw[pM h]at hi;exact .inl hi
  .subst h;simp at hi;exact .inr ⟨rfl,hi.symm⟩
  .rw[pN (by omega),qA (by simp;omega)]at hi;cases hi
 have hold:∀x v,Ab F w os x v->Ab F (w0.alloc (.cells cur e)) (os++[o]) x v:=λx v h=>
  DW (λ_ h=>h) (λg hg=>ht.Fu g (hr.Fu g hg) (by simp)) os _ (Fp.append os [o]) x v h
 have:=hr.Zt (k:=k) ht (by simp) (os':=os++[o]) (Fp.append os [o]) (λi oi hi=>by
   rcases uD i oi hi with h|⟨_,rfl⟩
   .exact .inl ⟨h,by simp⟩
   .refine .inr ⟨uz,λx hx=>⟨(vY x hx).1,λc hc=>Dg ((vY x hx).2 c hc)⟩,by simp[o],λg hg=>?_,λg hg=>hg.elim,EJ λx hx=>(vY x hx).2⟩;simp only[o,pC]at hg;subst hg;refine⟨λhF=>absurd (hr.Fu _ hF) (Nat.lt_irrefl _),cur,by rw[<- hs0];exact sk w0 _,ue,hle,vp,λi' x hx j c hc=>?_⟩;obtain⟨u,h1,h2⟩:=uK i' x hx j c hc;exact⟨u,h1,hold _ _ h2⟩)
  (λi j oi oj g hi hj zN zO=>by
   rcases uD i oi hi with h|⟨h,rfl⟩<;>rcases uD j oj hj with h'|⟨h',rfl⟩
   .exact hr.inj i j oi oj g h h' zN zO
   .have:=uU i oi g h zN;simp only[Own.owns,o,GF,qb,pC]at zO;omega
   .have:=uU j oj g h' zO;simp only[Own.owns,o,GF,qb,pC]at zN;omega
   .omega)
  (λo' uw g hg=>by
   rcases pX.1 uw with h|h
   .exact .inr ⟨o',h,hg⟩
   .simp only[pS]at h;subst h;simp only[Own.owns,o,GF,qb,pC]at hg;exact .inl (by omega))
  (by simp)
 refine⟨?_,this.2.1,this.2.2⟩;have h1:=this.1;rw[qu,hr.st]at h1;simpa using h1
theorem Rel.LM (hr:Rel F os s a w){id:Nat}{o o':Own}(ho:os[id]?=some o){w':World}(ht:HA w w' o.GA)
  (h1:o.row.gen<=o'.row.gen) (h2:o'.row.size=o.row.size) (h3:o'.row.gen=o.row.gen->o'.GA=o.GA/\o'.cap=o.cap/\o'.row.xs.length=o.row.xs.length)
  (hb :∀g,o'.owns g->o.owns g∨w.heap.size<=g)
  (tz:(∀x v,Ab F w os x v->Ab F w' (os.set id o') x v)->Ma F w' (os.set id o') o') :
  Rel F (os.set id o') { s with st:=s.st.set id o'.row } a w'/\Ext F os w F (os.set id o') w' k/\(∀x v,Ab F w os x v->Ab F w' (os.set id o') x v):=by
 have vP:Fp os (os.set id o'):=Fp.set ho h1 h2 h3;have hFb:∀i,o.GA=some i->¬ F i:=λi hi=>(hr.rows id o ho).nF (.inl hi);have uG:∀x v,Ab F w os x v->Ab F w' (os.set id o') x v:=λx v h=>
  DW (λ_ h=>h) (λg hg=>ht.Fu g (hr.Fu g hg) (λe=>hFb g e hg)) os _ vP x v h
 have uU:∀(i:Nat) (oi:Own) g,os[i]?=some oi->oi.owns g->g<w.heap.size:=λi oi g hi hg=>(hr.rows i oi hi).lt hg;have uD:∀(i:Nat) (oi:Own),(os.set id o')[i]?=some oi->(i≠id/\os[i]?=some oi)∨(i=id/\oi=o'):=λi oi hi=>by
  by_cases e:i=id
  .subst e;rw[pO (pA.1 ho).1,pC]at hi;exact .inr ⟨rfl,hi.symm⟩
  .rw[pd (qv e)]at hi;exact .inl ⟨e,hi⟩
 have:=hr.Zt (k:=k) ht hFb vP (λi oi hi=>by
   rcases uD i oi hi with ⟨uq,h⟩|⟨_,rfl⟩
   .exact .inl ⟨h,λg hg e=>uq (hr.inj i id oi o g h ho hg (.inl e))⟩
   .exact .inr (tz uG))
  (λi j oi oj g hi hj zN zO=>by
   rcases uD i oi hi with ⟨uq,h⟩|⟨h,rfl⟩<;>rcases uD j oj hj with ⟨hne',h'⟩|⟨h',rfl⟩
   .exact hr.inj i j oi oj g h h' zN zO
   .rcases hb g zO with e|e
    .exact absurd (hr.inj i id oi o g h ho zN e) uq
    .have:=uU i oi g h zN;omega
   .rcases hb g zN with e|e
    .exact absurd (hr.inj j id oj o g h' ho zO e) hne'
    .have:=uU j oj g h' zO;omega
   .omega)
  (λox hox g hg=>by
   obtain⟨i,hi⟩:=pY.1 hox;rcases uD i ox hi with ⟨_,h⟩|⟨_,rfl⟩
   .exact .inr ⟨ox,ov h,hg⟩
   .rcases hb g hg with e|e
    .exact .inr ⟨o,ov ho,e⟩
    .exact .inl e)
  (λg hg=>⟨o,ov ho,.inl hg⟩)
 refine⟨?_,this.2.1,this.2.2⟩;have h1:=this.1;rw[rN,hr.st]at h1;exact h1
end Go.Abs
