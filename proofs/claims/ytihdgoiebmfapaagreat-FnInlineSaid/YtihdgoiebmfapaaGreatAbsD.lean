import Derived.Test.YtihdgoiebmfapaaGreatAbsC
set_option linter.all false
namespace Go.Abs
open Go
variable {P : Program} {F : Nat -> Prop} {os : List Own} {s : St} {a : Act} {w : World} {k : Nat}
def Fv (os os':List Own):Prop:=
 ∀(i:Nat) (o:Own),os[i]?=some o->∃o':Own,os'[i]?=some o'/\o.row.gen<=o'.row.gen/\o'.row.size=o.row.size/\(o'.row.gen=o.row.gen->o'.GC=o.GC/\o'.cap=o.cap/\o'.row.xs.length=o.row.xs.length)
theorem Fv.refl (os:List Own):Fv os os:=λ_ o h=>⟨o,h,pM _,rfl,λ_=>⟨rfl,rfl,rfl⟩⟩
theorem Fv.append (os more:List Own):Fv os (os++more):=λi o h=>
 ⟨o,by rw[pN (pB.1 h).1];exact h,pM _,rfl,λ_=>⟨rfl,rfl,rfl⟩⟩
theorem Fv.set {id:Nat}{o o':Own}(ho:os[id]?=some o)(h1:o.row.gen<=o'.row.gen)(h2:o'.row.size=o.row.size)
  (h3:o'.row.gen=o.row.gen->o'.GC=o.GC/\o'.cap=o.cap/\o'.row.xs.length=o.row.xs.length):Fv os (os.set id o'):=λi oi hi=>by
 by_cases e:i=id
 .subst e;rw[ho]at hi;cases hi;exact⟨o',by rw[pP (pB.1 ho).1],h1,h2,h3⟩
 .exact⟨oi,by rw[pf (qw e)];exact hi,pM _,rfl,λ_=>⟨rfl,rfl,rfl⟩⟩
structure HF (w w':World) (b:Option Nat):Prop where
 sys:w'.os=w.os
 tape:w'.tape=w.tape
 output:w'.output=w.output
 size:w.heap.size<=w'.heap.size
 Fp :∀i,i<w.heap.size->b≠some i->w'.heap[i]?=w.heap[i]?
theorem HF.refl (w:World)(b:Option Nat):HF w w b:=⟨rfl,rfl,rfl,pM _,λ_ _ _=>rfl⟩
theorem HF.alloc (w:World)(o:Obj)(b:Option Nat):HF w (w.alloc o) b:=⟨rfl,rfl,rfl,by simp,λ_ hi _=>sA w o hi⟩
theorem Ku (w:World)(o:Obj)(b:Option Nat):HF w (w.drew.alloc o) b:=⟨rfl,rfl,rfl,by simp,λ_ hi _=>sA w.drew o hi⟩
theorem HF.setRow (w:World)(g:Nat)(cs:Array Value):HF w (w.setRow g cs) (some g):=⟨rfl,rfl,rfl,by simp,λi _ hi=>setRow_other w g i cs (λe=>hi (by rw[e]))⟩
theorem Rel.Zt (hr:Rel F os s a w){w':World}{b:Option Nat}(ht:HF w w' b)(hb :∀i,b=some i->¬ F i){os':List Own}(vQ:Fv os os')
  (vm :∀(i:Nat) (o:Own),os'[i]?=some o->(os[i]?=some o/\∀g,o.owns g->b≠some g)∨Md F w' os' o)
  (hinj :∀(i j:Nat) (oi oj:Own) (g:Nat),os'[i]?=some oi->os'[j]?=some oj->oi.owns g->oj.owns g->i=j)
  (hblk :∀o':Own,o'∈os'->∀g,o'.owns g->w.heap.size<=g∨∃o:Own,o∈os/\o.owns g)
  (hbo :∀g,b=some g->∃o:Own,o∈os/\o.owns g) :
  Rel F os' { s with st:=os'.map Own.row } a w'/\Ext F os w F os' w' k/\∀x v,Ab F w os x v->Ab F w' os' x v:=by
 have hF:∀g,F g->w'.heap[g]?=w.heap[g]?:=λg hg=>ht.Fp g (hr.Fp g hg) (λe=>hb g e hg);have uH:∀x v,Ab F w os x v->Ab F w' os' x v:=λx v h=>DW (λ_ h=>h) hF os os' vQ x v h;refine⟨⟨rfl,λi=>uH _ _ (hr.env i),hr.size,λi o ho=>?_,hinj,λg hg=>qM (hr.Fp g hg) ht.size,hr.defers⟩,⟨ht.sys,ht.tape,ht.output,ht.size,λ_ h=>h,hF,λg hg h1 h2=>⟨?_,h1,λo' uz e=>?_⟩,λi o _ ho=>vQ i o ho⟩,uH⟩
 .rcases vm i o ho with ⟨hold,uu⟩|h
  .have uA:=hr.rows i o hold;refine⟨uA.pos,uA.lens,uA.none,λg hg=>?_,λg hg=>⟨(uA.mo g hg).1,qM (uA.mo g hg).2.1 ht.size,(uA.mo g hg).2.2⟩,
    uA.deep.keep rfl (λ_ h=>h) rfl (λg hg=>ht.Fp g (uA.lt hg) (uu g hg)) (λi x j e s ys hx hc=>⟨x,hx,hc⟩)⟩
   obtain⟨h1,cur,uP,h2,h3,h4,h5⟩:=uA.some g hg;refine⟨h1,cur,?_,h2,h3,h4,λi' x hx j c hc=>?_⟩
   .rw[ht.Fp g (py.1 uP).1 (uu g (.inl hg))];exact uP
   .obtain⟨u,hu1,xC⟩:=h5 i' x hx j c hc;exact⟨u,hu1,uH _ _ xC⟩
  .exact h
 .refine ht.Fp g hg (λe=>?_);obtain⟨o,ho,hog⟩:=hbo g e;exact h2 o ho hog
 .rcases hblk o' uz g e with h3|⟨o,ho,hog⟩
  .omega
  .exact h2 o ho hog
theorem Rel.PJ (hr:Rel F os s a w){w0:World}(ht0:w0=w∨w0=w.drew){cur:Array Value}{e:TypeId}{size cap:Nat}{xs:List (List AV)}(vA:0<size)(vZ :∀x∈xs,x.length=size/\∀c∈x,c.leaf=true)
  (uf:cur.size=cap*size) (hle:xs.length<=cap) (vo:cap<=maxLen)
  (uL :∀(i:Nat) x,xs[i]?=some x->∀(j:Nat) c,x[j]?=some c->∃u,cur[i*size+j]?=some u/\Ab F w os c u) :
  let o:Own:=⟨⟨0,e,size,xs⟩,some w.heap.size,cap,GG⟩
  Rel F (os++[o]) { s with st:=s.st++[o.row] } a (w0.alloc (.cells cur e))/\Ext F os w F (os++[o]) (w0.alloc (.cells cur e)) k/\(∀x v,Ab F w os x v->Ab F (w0.alloc (.cells cur e)) (os++[o]) x v):=by
 intro o;have ht:HF w (w0.alloc (.cells cur e)) none:=by
  rcases ht0 with rfl|rfl
  .exact HF.alloc _ _ _
  .exact Ku _ _ _
 have hs0:w0.heap.size=w.heap.size:=by rcases ht0 with rfl|rfl<;>rfl
 have uV:∀(i:Nat) (oi:Own) g,os[i]?=some oi->oi.owns g->g<w.heap.size:=λi oi g hi hg=>(hr.rows i oi hi).lt hg;have uF:∀(i:Nat) (oi:Own),(os++[o])[i]?=some oi->os[i]?=some oi∨(i=os.length/\oi=o):=λi oi hi=>by
  rcases ql i os.length with h|h|h
  .rw[pN h]at hi;exact .inl hi
  .subst h;simp at hi;exact .inr ⟨rfl,hi.symm⟩
  .rw[pO (by omega),qB (by simp;omega)]at hi;cases hi
 have hold:∀x v,Ab F w os x v->Ab F (w0.alloc (.cells cur e)) (os++[o]) x v:=λx v h=>
  DW (λ_ h=>h) (λg hg=>ht.Fp g (hr.Fp g hg) (by simp)) os _ (Fv.append os [o]) x v h
 have:=hr.Zt (k:=k) ht (by simp) (os':=os++[o]) (Fv.append os [o]) (λi oi hi=>by
   rcases uF i oi hi with h|⟨_,rfl⟩
   .exact .inl ⟨h,by simp⟩
   .refine .inr ⟨vA,λx hx=>⟨(vZ x hx).1,λc hc=>Di ((vZ x hx).2 c hc)⟩,by simp[o],λg hg=>?_,λg hg=>hg.elim,EK λx hx=>(vZ x hx).2⟩;simp only[o,pD]at hg;subst hg;refine⟨λhF=>absurd (hr.Fp _ hF) (Nat.lt_irrefl _),cur,by rw[<- hs0];exact sm w0 _,uf,hle,vo,λi' x hx j c hc=>?_⟩;obtain⟨u,h1,h2⟩:=uL i' x hx j c hc;exact⟨u,h1,hold _ _ h2⟩)
  (λi j oi oj g hi hj zO zP=>by
   rcases uF i oi hi with h|⟨h,rfl⟩<;>rcases uF j oj hj with h'|⟨h',rfl⟩
   .exact hr.inj i j oi oj g h h' zO zP
   .have:=uV i oi g h zO;simp only[Own.owns,o,GG,qc,pD]at zP;omega
   .have:=uV j oj g h' zP;simp only[Own.owns,o,GG,qc,pD]at zO;omega
   .omega)
  (λo' uz g hg=>by
   rcases pY.1 uz with h|h
   .exact .inr ⟨o',h,hg⟩
   .simp only[pU]at h;subst h;simp only[Own.owns,o,GG,qc,pD]at hg;exact .inl (by omega))
  (by simp)
 refine⟨?_,this.2.1,this.2.2⟩;have h1:=this.1;rw[qv,hr.st]at h1;simpa using h1
theorem Rel.LR (hr:Rel F os s a w){id:Nat}{o o':Own}(ho:os[id]?=some o){w':World}(ht:HF w w' o.GC)
  (h1:o.row.gen<=o'.row.gen) (h2:o'.row.size=o.row.size) (h3:o'.row.gen=o.row.gen->o'.GC=o.GC/\o'.cap=o.cap/\o'.row.xs.length=o.row.xs.length)
  (hb :∀g,o'.owns g->o.owns g∨w.heap.size<=g)
  (uA:(∀x v,Ab F w os x v->Ab F w' (os.set id o') x v)->Md F w' (os.set id o') o') :
  Rel F (os.set id o') { s with st:=s.st.set id o'.row } a w'/\Ext F os w F (os.set id o') w' k/\(∀x v,Ab F w os x v->Ab F w' (os.set id o') x v):=by
 have vQ:Fv os (os.set id o'):=Fv.set ho h1 h2 h3;have hFb:∀i,o.GC=some i->¬ F i:=λi hi=>(hr.rows id o ho).nF (.inl hi);have uH:∀x v,Ab F w os x v->Ab F w' (os.set id o') x v:=λx v h=>
  DW (λ_ h=>h) (λg hg=>ht.Fp g (hr.Fp g hg) (λe=>hFb g e hg)) os _ vQ x v h
 have uV:∀(i:Nat) (oi:Own) g,os[i]?=some oi->oi.owns g->g<w.heap.size:=λi oi g hi hg=>(hr.rows i oi hi).lt hg;have uF:∀(i:Nat) (oi:Own),(os.set id o')[i]?=some oi->(i≠id/\os[i]?=some oi)∨(i=id/\oi=o'):=λi oi hi=>by
  by_cases e:i=id
  .subst e;rw[pP (pB.1 ho).1,pD]at hi;exact .inr ⟨rfl,hi.symm⟩
  .rw[pf (qw e)]at hi;exact .inl ⟨e,hi⟩
 have:=hr.Zt (k:=k) ht hFb vQ (λi oi hi=>by
   rcases uF i oi hi with ⟨uu,h⟩|⟨_,rfl⟩
   .exact .inl ⟨h,λg hg e=>uu (hr.inj i id oi o g h ho hg (.inl e))⟩
   .exact .inr (uA uH))
  (λi j oi oj g hi hj zO zP=>by
   rcases uF i oi hi with ⟨uu,h⟩|⟨h,rfl⟩<;>rcases uF j oj hj with ⟨hne',h'⟩|⟨h',rfl⟩
   .exact hr.inj i j oi oj g h h' zO zP
   .rcases hb g zP with e|e
    .exact absurd (hr.inj i id oi o g h ho zO e) uu
    .have:=uV i oi g h zO;omega
   .rcases hb g zO with e|e
    .exact absurd (hr.inj j id oj o g h' ho zP e) hne'
    .have:=uV j oj g h' zP;omega
   .omega)
  (λox hox g hg=>by
   obtain⟨i,hi⟩:=pZ.1 hox;rcases uF i ox hi with ⟨_,h⟩|⟨_,rfl⟩
   .exact .inr ⟨ox,oz h,hg⟩
   .rcases hb g hg with e|e
    .exact .inr ⟨o,oz ho,e⟩
    .exact .inl e)
  (λg hg=>⟨o,oz ho,.inl hg⟩)
 refine⟨?_,this.2.1,this.2.2⟩;have h1:=this.1;rw[rO,hr.st]at h1;exact h1
end Go.Abs
