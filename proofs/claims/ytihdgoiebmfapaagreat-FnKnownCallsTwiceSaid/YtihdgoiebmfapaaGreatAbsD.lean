import Derived.Test.YtihdgoiebmfapaaGreatAbsC
set_option linter.all false
namespace Go.Abs
open Go
variable {P : Program} {F : Nat -> Prop} {os : List Own} {s : St} {a : Act} {w : World} {k : Nat}
def FF (os os':List Own):Prop:=
 ∀(i:Nat) (o:Own),os[i]?=some o->∃o':Own,os'[i]?=some o'/\o.row.gen<=o'.row.gen/\o'.row.size=o.row.size/\(o'.row.gen=o.row.gen->o'.Fa=o.Fa/\o'.cap=o.cap/\o'.row.xs.length=o.row.xs.length)
theorem FF.refl (os:List Own):FF os os:=λ_ o h=>⟨o,h,gA _,rfl,λ_=>⟨rfl,rfl,rfl⟩⟩
theorem FF.append (os more:List Own):FF os (os++more):=λi o h=>
 ⟨o,by rw[ft (fe.1 h).1];exact h,gA _,rfl,λ_=>⟨rfl,rfl,rfl⟩⟩
theorem FF.set {id:Nat}{o o':Own}(ho:os[id]?=some o)(h1:o.row.gen<=o'.row.gen)(h2:o'.row.size=o.row.size)
  (h3:o'.row.gen=o.row.gen->o'.Fa=o.Fa/\o'.cap=o.cap/\o'.row.xs.length=o.row.xs.length):FF os (os.set id o'):=λi oi hi=>by
 by_cases e:i=id
 ·subst e;rw[ho]at hi;cases hi;exact⟨o',by rw[fv (fe.1 ho).1],h1,h2,h3⟩
 ·exact⟨oi,by rw[gJ (iT e)];exact hi,gA _,rfl,λ_=>⟨rfl,rfl,rfl⟩⟩
structure HN (w w':World) (b:Option Nat):Prop where
 sys:w'.os=w.os
 tape:w'.tape=w.tape
 output:w'.output=w.output
 size:w.heap.size<=w'.heap.size
 GG :∀i,i<w.heap.size->b≠some i->w'.heap[i]?=w.heap[i]?
theorem HN.refl (w:World)(b:Option Nat):HN w w b:=⟨rfl,rfl,rfl,gA _,λ_ _ _=>rfl⟩
theorem HN.alloc (w:World)(o:Obj)(b:Option Nat):HN w (w.alloc o) b:=⟨rfl,rfl,rfl,by simp,λ_ hi _=>heap_alloc_old w o hi⟩
theorem Lf (w:World)(o:Obj)(b:Option Nat):HN w (w.drew.alloc o) b:=⟨rfl,rfl,rfl,by simp,λ_ hi _=>heap_alloc_old w.drew o hi⟩
theorem HN.setRow (w:World)(g:Nat)(cs:Array Value):HN w (w.setRow g cs) (some g):=⟨rfl,rfl,rfl,by simp,λi _ hi=>setRow_other w g i cs (λe=>hi (by rw[e]))⟩
theorem Rel.Vd (hr:Rel F os s a w){w':World}{b:Option Nat}(ht:HN w w' b)(hb :∀i,b=some i->¬ F i){os':List Own}(mK:FF os os')
  (mg :∀(i:Nat) (o:Own),os'[i]?=some o->(os[i]?=some o/\∀g,o.owns g->b≠some g)∨Lb F w' os' o)
  (wW :∀(i j:Nat) (oi oj:Own) (g:Nat),os'[i]?=some oi->os'[j]?=some oj->oi.owns g->oj.owns g->i=j)
  (wX :∀o':Own,o'∈os'->∀g,o'.owns g->w.heap.size<=g∨∃o:Own,o∈os/\o.owns g)
  (qJ :∀g,b=some g->∃o:Own,o∈os/\o.owns g) :
  Rel F os' { s with st:=os'.map Own.row } a w'/\Ext F os w F os' w' k/\∀x v,Ae F w os x v->Ae F w' os' x v:=by
 have hF:∀g,F g->w'.heap[g]?=w.heap[g]?:=λg hg=>ht.GG g (hr.GG g hg) (λe=>hb g e hg);have lY:∀x v,Ae F w os x v->Ae F w' os' x v:=λx v h=>Dc (λ_ h=>h) hF os os' mK x v h;refine⟨⟨rfl,λi=>lY _ _ (hr.env i),hr.size,λi o ho=>?_,wW,λg hg=>iG (hr.GG g hg) ht.size,hr.defers⟩,⟨ht.sys,ht.tape,ht.output,ht.size,λ_ h=>h,hF,λg hg h1 h2=>⟨?_,h1,λo' lz e=>?_⟩,λi o _ ho=>mK i o ho⟩,lY⟩
 ·rcases mg i o ho with ⟨hold,lv⟩|h
  ·have lU:=hr.rows i o hold;refine⟨lU.pos,lU.lens,lU.none,λg hg=>?_,λg hg=>⟨(lU.mo g hg).1,iG (lU.mo g hg).2.1 ht.size,(lU.mo g hg).2.2⟩,
    lU.deep.keep rfl (λ_ h=>h) rfl (λg hg=>ht.GG g (lU.lt hg) (lv g hg)) (λi x j e s ys hx hc=>⟨x,hx,hc⟩)⟩
   obtain⟨h1,cur,lj,h2,h3,h4,h5⟩:=lU.some g hg;refine⟨h1,cur,?_,h2,h3,h4,λi' x hx j c hc=>?_⟩
   ·rw[ht.GG g (gk.1 lj).1 (lv g (.inl hg))];exact lj
   ·obtain⟨u,hu1,nt⟩:=h5 i' x hx j c hc;exact⟨u,hu1,lY _ _ nt⟩
  ·exact h
 ·refine ht.GG g hg (λe=>?_);obtain⟨o,ho,uO⟩:=qJ g e;exact h2 o ho uO
 ·rcases wX o' lz g e with h3|⟨o,ho,uO⟩
  ·omega
  ·exact h2 o ho uO
theorem Rel.NZ (hr:Rel F os s a w){w0:World}(qn:w0=w∨w0=w.drew){cur:Array Value}{e:TypeId}{size cap:Nat}{xs:List (List AV)}(mH:0<size)(mU :∀x∈xs,x.length=size/\∀c∈x,c.leaf=true)
  (lr:cur.size=cap*size) (hle:xs.length<=cap) (nU:cap<=maxLen)
  (lk :∀(i:Nat) x,xs[i]?=some x->∀(j:Nat) c,x[j]?=some c->∃u,cur[i*size+j]?=some u/\Ae F w os c u) :
  let o:Own:=⟨⟨0,e,size,xs⟩,some w.heap.size,cap,FP⟩
  Rel F (os++[o]) { s with st:=s.st++[o.row] } a (w0.alloc (.cells cur e))/\Ext F os w F (os++[o]) (w0.alloc (.cells cur e)) k/\(∀x v,Ae F w os x v->Ae F (w0.alloc (.cells cur e)) (os++[o]) x v):=by
 intro o;have ht:HN w (w0.alloc (.cells cur e)) none:=by
  rcases qn with rfl|rfl
  ·exact HN.alloc _ _ _
  ·exact Lf _ _ _
 have te:w0.heap.size=w.heap.size:=by rcases qn with rfl|rfl<;>rfl
 have lh:∀(i:Nat) (oi:Own) g,os[i]?=some oi->oi.owns g->g<w.heap.size:=λi oi g hi hg=>(hr.rows i oi hi).lt hg;have lW:∀(i:Nat) (oi:Own),(os++[o])[i]?=some oi->os[i]?=some oi∨(i=os.length/\oi=o):=λi oi hi=>by
  rcases iH i os.length with h|h|h
  ·rw[ft h]at hi;exact .inl hi
  ·subst h;simp at hi;exact .inr ⟨rfl,hi.symm⟩
  ·rw[fw (by omega),hH (by simp;omega)]at hi;cases hi
 have hold:∀x v,Ae F w os x v->Ae F (w0.alloc (.cells cur e)) (os++[o]) x v:=λx v h=>
  Dc (λ_ h=>h) (λg hg=>ht.GG g (hr.GG g hg) (by simp)) os _ (FF.append os [o]) x v h
 have:=hr.Vd (k:=k) ht (by simp) (os':=os++[o]) (FF.append os [o]) (λi oi hi=>by
   rcases lW i oi hi with h|⟨_,rfl⟩
   ·exact .inl ⟨h,by simp⟩
   ·refine .inr ⟨mH,λx hx=>⟨(mU x hx).1,λc hc=>Dr ((mU x hx).2 c hc)⟩,by simp[o],λg hg=>?_,λg hg=>hg.elim,Ef λx hx=>(mU x hx).2⟩;simp only[o,ff]at hg;subst hg;refine⟨λhF=>absurd (hr.GG _ hF) (Nat.lt_irrefl _),cur,by rw[<- te];exact heap_alloc_new w0 _,lr,hle,nU,λi' x hx j c hc=>?_⟩;obtain⟨u,h1,h2⟩:=lk i' x hx j c hc;exact⟨u,h1,hold _ _ h2⟩)
  (λi j oi oj g hi hj pk pn=>by
   rcases lW i oi hi with h|⟨h,rfl⟩<;>rcases lW j oj hj with h'|⟨h',rfl⟩
   ·exact hr.inj i j oi oj g h h' pk pn
   ·have:=lh i oi g h pk;simp only[Own.owns,o,FP,iB,ff]at pn;omega
   ·have:=lh j oj g h' pn;simp only[Own.owns,o,FP,iB,ff]at pk;omega
   ·omega)
  (λo' lz g hg=>by
   rcases gS.1 lz with h|h
   ·exact .inr ⟨o',h,hg⟩
   ·simp only[gB]at h;subst h;simp only[Own.owns,o,FP,iB,ff]at hg;exact .inl (by omega))
  (by simp)
 refine⟨?_,this.2.1,this.2.2⟩;have h1:=this.1;rw[iD,hr.st]at h1;simpa using h1
theorem Rel.Ov (hr:Rel F os s a w){id:Nat}{o o':Own}(ho:os[id]?=some o){w':World}(ht:HN w w' o.Fa)
  (h1:o.row.gen<=o'.row.gen) (h2:o'.row.size=o.row.size) (h3:o'.row.gen=o.row.gen->o'.Fa=o.Fa/\o'.cap=o.cap/\o'.row.xs.length=o.row.xs.length)
  (hb :∀g,o'.owns g->o.owns g∨w.heap.size<=g)
  (lU:(∀x v,Ae F w os x v->Ae F w' (os.set id o') x v)->Lb F w' (os.set id o') o') :
  Rel F (os.set id o') { s with st:=s.st.set id o'.row } a w'/\Ext F os w F (os.set id o') w' k/\(∀x v,Ae F w os x v->Ae F w' (os.set id o') x v):=by
 have mK:FF os (os.set id o'):=FF.set ho h1 h2 h3;have zE:∀i,o.Fa=some i->¬ F i:=λi hi=>(hr.rows id o ho).nF (.inl hi);have lY:∀x v,Ae F w os x v->Ae F w' (os.set id o') x v:=λx v h=>
  Dc (λ_ h=>h) (λg hg=>ht.GG g (hr.GG g hg) (λe=>zE g e hg)) os _ mK x v h
 have lh:∀(i:Nat) (oi:Own) g,os[i]?=some oi->oi.owns g->g<w.heap.size:=λi oi g hi hg=>(hr.rows i oi hi).lt hg;have lW:∀(i:Nat) (oi:Own),(os.set id o')[i]?=some oi->(i≠id/\os[i]?=some oi)∨(i=id/\oi=o'):=λi oi hi=>by
  by_cases e:i=id
  ·subst e;rw[fv (fe.1 ho).1,ff]at hi;exact .inr ⟨rfl,hi.symm⟩
  ·rw[gJ (iT e)]at hi;exact .inl ⟨e,hi⟩
 have:=hr.Vd (k:=k) ht zE mK (λi oi hi=>by
   rcases lW i oi hi with ⟨lv,h⟩|⟨_,rfl⟩
   ·exact .inl ⟨h,λg hg e=>lv (hr.inj i id oi o g h ho hg (.inl e))⟩
   ·exact .inr (lU lY))
  (λi j oi oj g hi hj pk pn=>by
   rcases lW i oi hi with ⟨lv,h⟩|⟨h,rfl⟩<;>rcases lW j oj hj with ⟨qz,h'⟩|⟨h',rfl⟩
   ·exact hr.inj i j oi oj g h h' pk pn
   ·rcases hb g pn with e|e
    ·exact absurd (hr.inj i id oi o g h ho pk e) lv
    ·have:=lh i oi g h pk;omega
   ·rcases hb g pk with e|e
    ·exact absurd (hr.inj j id oj o g h' ho pn e) qz
    ·have:=lh j oj g h' pn;omega
   ·omega)
  (λox zu g hg=>by
   obtain⟨i,hi⟩:=gG.1 zu;rcases lW i ox hi with ⟨_,h⟩|⟨_,rfl⟩
   ·exact .inr ⟨ox,fc h,hg⟩
   ·rcases hb g hg with e|e
    ·exact .inr ⟨o,fc ho,e⟩
    ·exact .inl e)
  (λg hg=>⟨o,fc ho,.inl hg⟩)
 refine⟨?_,this.2.1,this.2.2⟩;have h1:=this.1;rw[iX,hr.st]at h1;exact h1
end Go.Abs
