import Derived.Test.YtfkncfjpobjbjaaAbsC
set_option linter.all false
namespace Go.Abs
open Go
variable {P : Program} {F : Nat -> Prop} {os : List Own} {s : St} {a : Act} {w : World} {k : Nat}
def Bz (os os':List Own):Prop:=
 ∀(i:Nat) (o:Own),os[i]?=some o->∃o':Own,os'[i]?=some o'/\o.row.gen<=o'.row.gen/\o'.row.size=o.row.size/\(o'.row.gen=o.row.gen->o'.BW=o.BW/\o'.cap=o.cap/\o'.row.xs.length=o.row.xs.length)
theorem B2 (os:List Own):Bz os os:=λ_ o h=>⟨o,h,R3 _,rfl,λ_=>⟨rfl,rfl,rfl⟩⟩
theorem Bz.append (os more:List Own):Bz os (os++more):=λi o h=>
 ⟨o,by rw[Rx (Rq.1 h).1];exact h,R3 _,rfl,λ_=>⟨rfl,rfl,rfl⟩⟩
theorem Bz.set {id:Nat}{o o':Own}(ho:os[id]?=some o)(h1:o.row.gen<=o'.row.gen)(h2:o'.row.size=o.row.size)
  (h3:o'.row.gen=o.row.gen->o'.BW=o.BW/\o'.cap=o.cap/\o'.row.xs.length=o.row.xs.length):Bz os (os.set id o'):=λi oi hi=>by
 by_cases e:i=id
 ·subst e;rw[ho]at hi;cases hi;exact⟨o',by rw[Rw (Rq.1 ho).1],h1,h2,h3⟩
 ·exact⟨oi,by rw[R2 (Sc e)];exact hi,R3 _,rfl,λ_=>⟨rfl,rfl,rfl⟩⟩
structure Dz (w w':World) (b:Option Nat):Prop where
 sys:w'.os=w.os
 tape:w'.tape=w.tape
 output:w'.output=w.output
 size:w.heap.size<=w'.heap.size
 CL :∀i,i<w.heap.size->b≠some i->w'.heap[i]?=w.heap[i]?
theorem EF (w:World)(b:Option Nat):Dz w w b:=⟨rfl,rfl,rfl,R3 _,λ_ _ _=>rfl⟩
theorem Dz.alloc (w:World)(o:Obj)(b:Option Nat):Dz w (w.alloc o) b:=⟨rfl,rfl,rfl,by simp,λ_ hi _=>heap_alloc_old w o hi⟩
theorem Eo (w:World)(o:Obj)(b:Option Nat):Dz w (w.drew.alloc o) b:=⟨rfl,rfl,rfl,by simp,λ_ hi _=>heap_alloc_old w.drew o hi⟩
theorem Dz.setRow (w:World)(g:Nat)(cs:Array Value):Dz w (w.setRow g cs) (some g):=⟨rfl,rfl,rfl,by simp,λi _ hi=>setRow_other w g i cs (λe=>hi (by rw[e]))⟩
theorem Rel.Jl (hr:Rel F os s a w){w':World}{b:Option Nat}(ht:Dz w w' b)(hb :∀i,b=some i->¬ F i){os':List Own}(Uh:Bz os os')
  (Ux :∀(i:Nat) (o:Own),os'[i]?=some o->(os[i]?=some o/\∀g,o.owns g->b≠some g)∨D2 F w' os' o)
  (cY :∀(i j:Nat) (oi oj:Own) (g:Nat),os'[i]?=some oi->os'[j]?=some oj->oi.owns g->oj.owns g->i=j)
  (cZ :∀o':Own,o'∈os'->∀g,o'.owns g->w.heap.size<=g∨∃o:Own,o∈os/\o.owns g)
  (V2 :∀g,b=some g->∃o:Own,o∈os/\o.owns g) :
  Rel F os' { s with st:=os'.map Own.row } a w'/\Ext F os w F os' w' k/\∀x v,AF F w os x v->AF F w' os' x v:=by
 have hF:∀g,F g->w'.heap[g]?=w.heap[g]?:=λg hg=>ht.CL g (hr.CL g hg) (λe=>hb g e hg);have T8:∀x v,AF F w os x v->AF F w' os' x v:=λx v h=>A8 (λ_ h=>h) hF os os' Uh x v h;refine⟨⟨rfl,λi=>T8 _ _ (hr.env i),hr.size,λi o ho=>?_,cY,λg hg=>Si (hr.CL g hg) ht.size,hr.defers⟩,⟨ht.sys,ht.tape,ht.output,ht.size,λ_ h=>h,hF,λg hg h1 h2=>⟨?_,h1,λo' UZ e=>?_⟩,λi o _ ho=>Uh i o ho⟩,T8⟩
 ·rcases Ux i o ho with ⟨hold,Ua⟩|h
  ·have T6:=hr.rows i o hold;refine⟨T6.pos,T6.lens,T6.none,λg hg=>?_,λg hg=>⟨(T6.mo g hg).1,Si (T6.mo g hg).2.1 ht.size,(T6.mo g hg).2.2⟩,
    T6.deep.keep rfl (λ_ h=>h) rfl (λg hg=>ht.CL g (T6.lt hg) (Ua g hg)) (λi x j e s ys hx hc=>⟨x,hx,hc⟩)⟩
   obtain⟨h1,cur,UK,h2,h3,h4,h5⟩:=T6.some g hg;refine⟨h1,cur,?_,h2,h3,h4,λi' x hx j c hc=>?_⟩
   ·rw[ht.CL g (Sd.1 UK).1 (Ua g (.inl hg))];exact UK
   ·obtain⟨u,hu1,WE⟩:=h5 i' x hx j c hc;exact⟨u,hu1,T8 _ _ WE⟩
  ·exact h
 ·refine ht.CL g hg (λe=>?_);obtain⟨o,ho,hog⟩:=V2 g e;exact h2 o ho hog
 ·rcases cZ o' UZ g e with h3|⟨o,ho,hog⟩
  ·omega
  ·exact h2 o ho hog
theorem Rel.I4 (hr:Rel F os s a w){w0:World}(fM:w0=w∨w0=w.drew){cur:Array Value}{e:TypeId}{size cap:Nat}{xs:List (List AV)}(Ui:0<size)(Vp :∀x∈xs,x.length=size/\∀c∈x,c.leaf=true)
  (Uc:cur.size=cap*size) (hle:xs.length<=cap) (VV:cap<=maxLen)
  (UJ :∀(i:Nat) x,xs[i]?=some x->∀(j:Nat) c,x[j]?=some c->∃u,cur[i*size+j]?=some u/\AF F w os c u) :
  let o:Own:=⟨⟨0,e,size,xs⟩,some w.heap.size,cap,Cl⟩
  Rel F (os++[o]) { s with st:=s.st++[o.row] } a (w0.alloc (.cells cur e))/\Ext F os w F (os++[o]) (w0.alloc (.cells cur e)) k/\(∀x v,AF F w os x v->AF F (w0.alloc (.cells cur e)) (os++[o]) x v):=by
 intro o;have ht:Dz w (w0.alloc (.cells cur e)) none:=by
  rcases fM with rfl|rfl
  ·exact Dz.alloc _ _ _
  ·exact Eo _ _ _
 have ca:w0.heap.size=w.heap.size:=by rcases fM with rfl|rfl<;>rfl
 have UM:∀(i:Nat) (oi:Own) g,os[i]?=some oi->oi.owns g->g<w.heap.size:=λi oi g hi hg=>(hr.rows i oi hi).lt hg;have T9:∀(i:Nat) (oi:Own),(os++[o])[i]?=some oi->os[i]?=some oi∨(i=os.length/\oi=o):=λi oi hi=>by
  rcases Sb i os.length with h|h|h
  ·rw[Rx h]at hi;exact .inl hi
  ·subst h;simp at hi;exact .inr ⟨rfl,hi.symm⟩
  ·rw[Rz (by omega),SI (by simp;omega)]at hi;cases hi
 have hold:∀x v,AF F w os x v->AF F (w0.alloc (.cells cur e)) (os++[o]) x v:=λx v h=>
  A8 (λ_ h=>h) (λg hg=>ht.CL g (hr.CL g hg) (by simp)) os _ (Bz.append os [o]) x v h
 have:=hr.Jl (k:=k) ht (by simp) (os':=os++[o]) (Bz.append os [o]) (λi oi hi=>by
   rcases T9 i oi hi with h|⟨_,rfl⟩
   ·exact .inl ⟨h,by simp⟩
   ·refine .inr ⟨Ui,λx hx=>⟨(Vp x hx).1,λc hc=>Bd ((Vp x hx).2 c hc)⟩,by simp[o],λg hg=>?_,λg hg=>hg.elim,B3 λx hx=>(Vp x hx).2⟩;simp only[o,Rr]at hg;subst hg;refine⟨λhF=>absurd (hr.CL _ hF) (Th _),cur,by rw[<- ca];exact To w0 _,Uc,hle,VV,λi' x hx j c hc=>?_⟩;obtain⟨u,h1,h2⟩:=UJ i' x hx j c hc;exact⟨u,h1,hold _ _ h2⟩)
  (λi j oi oj g hi hj WL WM=>by
   rcases T9 i oi hi with h|⟨h,rfl⟩<;>rcases T9 j oj hj with h'|⟨h',rfl⟩
   ·exact hr.inj i j oi oj g h h' WL WM
   ·have:=UM i oi g h WL;simp only[Own.owns,o,Cl,or_false,Rr]at WM;omega
   ·have:=UM j oj g h' WM;simp only[Own.owns,o,Cl,or_false,Rr]at WL;omega
   ·omega)
  (λo' UZ g hg=>by
   rcases SM.1 UZ with h|h
   ·exact .inr ⟨o',h,hg⟩
   ·simp only[SC]at h;subst h;simp only[Own.owns,o,Cl,or_false,Rr]at hg;exact .inl (by omega))
  (by simp)
 refine⟨?_,this.2.1,this.2.2⟩;have h1:=this.1;rw[Sj,hr.st]at h1;simpa using h1
theorem Rel.GR (hr:Rel F os s a w){id:Nat}{o o':Own}(ho:os[id]?=some o){w':World}(ht:Dz w w' o.BW)
  (h1:o.row.gen<=o'.row.gen) (h2:o'.row.size=o.row.size) (h3:o'.row.gen=o.row.gen->o'.BW=o.BW/\o'.cap=o.cap/\o'.row.xs.length=o.row.xs.length)
  (hb :∀g,o'.owns g->o.owns g∨w.heap.size<=g)
  (T6:(∀x v,AF F w os x v->AF F w' (os.set id o') x v)->D2 F w' (os.set id o') o') :
  Rel F (os.set id o') { s with st:=s.st.set id o'.row } a w'/\Ext F os w F (os.set id o') w' k/\(∀x v,AF F w os x v->AF F w' (os.set id o') x v):=by
 have Uh:Bz os (os.set id o'):=Bz.set ho h1 h2 h3;have aN:∀i,o.BW=some i->¬ F i:=λi hi=>(hr.rows id o ho).nF (.inl hi);have T8:∀x v,AF F w os x v->AF F w' (os.set id o') x v:=λx v h=>
  A8 (λ_ h=>h) (λg hg=>ht.CL g (hr.CL g hg) (λe=>aN g e hg)) os _ Uh x v h
 have UM:∀(i:Nat) (oi:Own) g,os[i]?=some oi->oi.owns g->g<w.heap.size:=λi oi g hi hg=>(hr.rows i oi hi).lt hg;have T9:∀(i:Nat) (oi:Own),(os.set id o')[i]?=some oi->(i≠id/\os[i]?=some oi)∨(i=id/\oi=o'):=λi oi hi=>by
  by_cases e:i=id
  ·subst e;rw[Rw (Rq.1 ho).1,Rr]at hi;exact .inr ⟨rfl,hi.symm⟩
  ·rw[R2 (Sc e)]at hi;exact .inl ⟨e,hi⟩
 have:=hr.Jl (k:=k) ht aN Uh (λi oi hi=>by
   rcases T9 i oi hi with ⟨Ua,h⟩|⟨_,rfl⟩
   ·exact .inl ⟨h,λg hg e=>Ua (hr.inj i id oi o g h ho hg (.inl e))⟩
   ·exact .inr (T6 T8))
  (λi j oi oj g hi hj WL WM=>by
   rcases T9 i oi hi with ⟨Ua,h⟩|⟨h,rfl⟩<;>rcases T9 j oj hj with ⟨Yo,h'⟩|⟨h',rfl⟩
   ·exact hr.inj i j oi oj g h h' WL WM
   ·rcases hb g WM with e|e
    ·exact absurd (hr.inj i id oi o g h ho WL e) Ua
    ·have:=UM i oi g h WL;omega
   ·rcases hb g WL with e|e
    ·exact absurd (hr.inj j id oj o g h' ho WM e) Yo
    ·have:=UM j oj g h' WM;omega
   ·omega)
  (λox gh g hg=>by
   obtain⟨i,hi⟩:=R5.1 gh;rcases T9 i ox hi with ⟨_,h⟩|⟨_,rfl⟩
   ·exact .inr ⟨ox,Ro h,hg⟩
   ·rcases hb g hg with e|e
    ·exact .inr ⟨o,Ro ho,e⟩
    ·exact .inl e)
  (λg hg=>⟨o,Ro ho,.inl hg⟩)
 refine⟨?_,this.2.1,this.2.2⟩;have h1:=this.1;rw[Sf,hr.st]at h1;exact h1
end Go.Abs
