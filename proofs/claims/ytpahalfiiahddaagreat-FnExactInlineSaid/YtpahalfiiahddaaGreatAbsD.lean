import Derived.Test.YtpahalfiiahddaaGreatAbsC
namespace Go.Abs
open Go
variable {P : Program} {F : Nat → Prop} {os : List Own} {s : St} {a : Act} {w : World} {k : Nat}
def D3 (os os':List Own):Prop:=
 ∀(i:Nat) (o:Own),os[i]?=some o→∃o':Own,os'[i]?=some o'∧o.row.gen≤o'.row.gen∧o'.row.size=o.row.size∧(o'.row.gen=o.row.gen→o'.Eb=o.Eb∧o'.cap=o.cap∧o'.row.xs.length=o.row.xs.length)
theorem D3.refl (os:List Own):D3 os os:=fun _ o h=>⟨o,h,Nat.le_refl _,rfl,fun _=>⟨rfl,rfl,rfl⟩⟩
theorem D3.append (os more:List Own):D3 os (os ++ more):=fun i o h=>
 ⟨o,by rw[List.getElem?_append_left (List.getElem?_eq_some_iff.1 h).1];exact h,Nat.le_refl _,rfl,fun _=>⟨rfl,rfl,rfl⟩⟩
theorem D3.set {id:Nat} {o o':Own} (ho:os[id]?=some o) (h1:o.row.gen≤o'.row.gen) (h2:o'.row.size=o.row.size)
  (h3:o'.row.gen=o.row.gen→o'.Eb=o.Eb∧o'.cap=o.cap∧o'.row.xs.length=o.row.xs.length):D3 os (os.set id o'):=fun i oi hi=>by
 by_cases e:i=id
 ·subst e
  rw[ho] at hi;cases hi
  exact⟨o',by rw[List.getElem?_set_self (List.getElem?_eq_some_iff.1 ho).1],h1,h2,h3⟩
 ·exact⟨oi,by rw[List.getElem?_set_ne (Ne.symm e)];exact hi,Nat.le_refl _,rfl,fun _=>⟨rfl,rfl,rfl⟩⟩
structure FF (w w':World) (b:Option Nat):Prop where
 sys:w'.os=w.os
 tape:w'.tape=w.tape
 output:w'.output=w.output
 size:w.heap.size≤w'.heap.size
 EO :∀i,i < w.heap.size→b≠some i→w'.heap[i]?=w.heap[i]?
theorem FF.refl (w:World) (b:Option Nat):FF w w b:=⟨rfl,rfl,rfl,Nat.le_refl _,fun _ _ _=>rfl⟩
theorem FF.alloc (w:World) (o:Obj) (b:Option Nat):FF w (w.alloc o) b:=⟨rfl,rfl,rfl,by simp,fun _ hi _=>heap_alloc_old w o hi⟩
theorem Ij (w:World) (o:Obj) (b:Option Nat):FF w (w.drew.alloc o) b:=⟨rfl,rfl,rfl,by simp,fun _ hi _=>heap_alloc_old w.drew o hi⟩
theorem FF.setRow (w:World) (g:Nat) (cs:Array Value):FF w (w.setRow g cs) (some g):=⟨rfl,rfl,rfl,by simp,fun i _ hi=>setRow_other w g i cs (fun e=>hi (by rw[e]))⟩
theorem Rel.Tl (hr:Rel F os s a w) {w':World} {b:Option Nat} (ht:FF w w' b) (hb :∀i,b=some i→¬ F i) {os':List Own} (hos:D3 os os')
  (hrows :∀(i:Nat) (o:Own),os'[i]?=some o→(os[i]?=some o∧∀g,o.owns g→b≠some g)∨KO F w' os' o)
  (hinj :∀(i j:Nat) (oi oj:Own) (g:Nat),os'[i]?=some oi→os'[j]?=some oj→oi.owns g→oj.owns g→i=j)
  (hblk :∀o':Own,o'∈os'→∀g,o'.owns g→w.heap.size≤g∨∃o:Own,o∈os∧o.owns g)
  (hbo :∀g,b=some g→∃o:Own,o∈os∧o.owns g) :
  Rel F os' { s with st:=os'.map Own.row } a w'∧Ext F os w F os' w' k∧∀x v,Ae F w os x v→Ae F w' os' x v:=by
 have hF :∀g,F g→w'.heap[g]?=w.heap[g]?:=fun g hg=>ht.EO g (hr.EO g hg) (fun e=>hb g e hg)
 have hmono :∀x v,Ae F w os x v→Ae F w' os' x v:=fun x v h=>B6 (fun _ h=>h) hF os os' hos x v h
 refine⟨⟨rfl,fun i=>hmono _ _ (hr.env i),hr.size,fun i o ho=>?_,hinj,fun g hg=>Nat.lt_of_lt_of_le (hr.EO g hg) ht.size,hr.defers⟩,⟨ht.sys,ht.tape,ht.output,ht.size,fun _ h=>h,hF,fun g hg h1 h2=>⟨?_,h1,fun o' ho' e=>?_⟩,fun i o _ ho=>hos i o ho⟩,hmono⟩
 ·rcases hrows i o ho with ⟨hold,hne⟩ | h
  ·have hok:=hr.rows i o hold
   refine⟨hok.pos,hok.lens,hok.none,fun g hg=>?_,fun g hg=>⟨(hok.mo g hg).1,Nat.lt_of_lt_of_le (hok.mo g hg).2.1 ht.size,(hok.mo g hg).2.2⟩,
    hok.deep.keep rfl (fun _ h=>h) rfl (fun g hg=>ht.EO g (hok.lt hg) (hne g hg)) (fun i x j e s ys hx hc=>⟨x,hx,hc⟩)⟩
   obtain⟨h1,cur,hcur,h2,h3,h4,h5⟩:=hok.some g hg
   refine⟨h1,cur,?_,h2,h3,h4,fun i' x hx j c hc=>?_⟩
   ·rw[ht.EO g (Array.getElem?_eq_some_iff.1 hcur).1 (hne g (.inl hg))];exact hcur
   ·obtain⟨u,hu1,hu2⟩:=h5 i' x hx j c hc
    exact⟨u,hu1,hmono _ _ hu2⟩
  ·exact h
 ·refine ht.EO g hg (fun e=>?_)
  obtain⟨o,ho,hog⟩:=hbo g e
  exact h2 o ho hog
 ·rcases hblk o' ho' g e with h3 | ⟨o,ho,hog⟩
  ·omega
  ·exact h2 o ho hog
theorem Rel.Mv (hr:Rel F os s a w) {w0:World} (ht0:w0=w∨w0=w.drew) {cur:Array Value} {e:TypeId} {size cap:Nat} {xs:List (List AV)} (hpos:0 < size) (hlens :∀x∈xs,x.length=size∧∀c∈x,c.leaf=true)
  (hsz:cur.size=cap * size) (hle:xs.length≤cap) (hmax:cap≤maxLen)
  (hcells :∀(i:Nat) x,xs[i]?=some x→∀(j:Nat) c,x[j]?=some c→∃u,cur[i * size+j]?=some u∧Ae F w os c u) :
  let o:Own:=⟨⟨0,e,size,xs⟩,some w.heap.size,cap,Dv⟩
  Rel F (os ++ [o]) { s with st:=s.st ++ [o.row] } a (w0.alloc (.cells cur e))∧Ext F os w F (os ++ [o]) (w0.alloc (.cells cur e)) k∧(∀x v,Ae F w os x v→Ae F (w0.alloc (.cells cur e)) (os ++ [o]) x v):=by
 intro o
 have ht:FF w (w0.alloc (.cells cur e)) none:=by
  rcases ht0 with rfl | rfl
  ·exact FF.alloc _ _ _
  ·exact Ij _ _ _
 have hs0:w0.heap.size=w.heap.size:=by rcases ht0 with rfl | rfl <;> rfl
 have hlt :∀(i:Nat) (oi:Own) g,os[i]?=some oi→oi.owns g→g < w.heap.size:=fun i oi g hi hg=>(hr.rows i oi hi).lt hg
 have hget :∀(i:Nat) (oi:Own),(os ++ [o])[i]?=some oi→os[i]?=some oi∨(i=os.length∧oi=o):=fun i oi hi=>by
  rcases Nat.lt_trichotomy i os.length with h | h | h
  ·rw[List.getElem?_append_left h] at hi;exact .inl hi
  ·subst h;simp at hi;exact .inr ⟨rfl,hi.symm⟩
  ·rw[List.getElem?_append_right (by omega),List.getElem?_eq_none (by simp;omega)] at hi;cases hi
 have hold :∀x v,Ae F w os x v→Ae F (w0.alloc (.cells cur e)) (os ++ [o]) x v:=fun x v h=>
  B6 (fun _ h=>h) (fun g hg=>ht.EO g (hr.EO g hg) (by simp)) os _ (D3.append os [o]) x v h
 have:=hr.Tl (k:=k) ht (by simp) (os':=os ++ [o]) (D3.append os [o]) (fun i oi hi=>by
   rcases hget i oi hi with h | ⟨_,rfl⟩
   ·exact .inl ⟨h,by simp⟩
   ·refine .inr ⟨hpos,fun x hx=>⟨(hlens x hx).1,fun c hc=>Cp ((hlens x hx).2 c hc)⟩,by simp[o],fun g hg=>?_,fun g hg=>hg.elim,Cs fun x hx=>(hlens x hx).2⟩
    simp only[o,Option.some.injEq] at hg
    subst hg
    refine⟨fun hF=>absurd (hr.EO _ hF) (Nat.lt_irrefl _),cur,by rw[← hs0];exact heap_alloc_new w0 _,hsz,hle,hmax,fun i' x hx j c hc=>?_⟩
    obtain⟨u,h1,h2⟩:=hcells i' x hx j c hc
    exact⟨u,h1,hold _ _ h2⟩)
  (fun i j oi oj g hi hj hgi hgj=>by
   rcases hget i oi hi with h | ⟨h,rfl⟩ <;> rcases hget j oj hj with h' | ⟨h',rfl⟩
   ·exact hr.inj i j oi oj g h h' hgi hgj
   ·have:=hlt i oi g h hgi;simp only[Own.owns,o,Dv,or_false,Option.some.injEq] at hgj;omega
   ·have:=hlt j oj g h' hgj;simp only[Own.owns,o,Dv,or_false,Option.some.injEq] at hgi;omega
   ·omega)
  (fun o' ho' g hg=>by
   rcases List.mem_append.1 ho' with h | h
   ·exact .inr ⟨o',h,hg⟩
   ·simp only[List.mem_singleton] at h;subst h;simp only[Own.owns,o,Dv,or_false,Option.some.injEq] at hg;exact .inl (by omega))
  (by simp)
 refine⟨?_,this.2.1,this.2.2⟩
 have h1:=this.1
 rw[List.map_append,hr.st] at h1
 simpa using h1
theorem Rel.I8 (hr:Rel F os s a w) {id:Nat} {o o':Own} (ho:os[id]?=some o) {w':World} (ht:FF w w' o.Eb)
  (h1:o.row.gen≤o'.row.gen) (h2:o'.row.size=o.row.size) (h3:o'.row.gen=o.row.gen→o'.Eb=o.Eb∧o'.cap=o.cap∧o'.row.xs.length=o.row.xs.length)
  (hb :∀g,o'.owns g→o.owns g∨w.heap.size≤g)
  (hok:(∀x v,Ae F w os x v→Ae F w' (os.set id o') x v)→KO F w' (os.set id o') o') :
  Rel F (os.set id o') { s with st:=s.st.set id o'.row } a w'∧Ext F os w F (os.set id o') w' k∧(∀x v,Ae F w os x v→Ae F w' (os.set id o') x v):=by
 have hos:D3 os (os.set id o'):=D3.set ho h1 h2 h3
 have hFb :∀i,o.Eb=some i→¬ F i:=fun i hi=>(hr.rows id o ho).nF (.inl hi)
 have hmono :∀x v,Ae F w os x v→Ae F w' (os.set id o') x v:=fun x v h=>
  B6 (fun _ h=>h) (fun g hg=>ht.EO g (hr.EO g hg) (fun e=>hFb g e hg)) os _ hos x v h
 have hlt :∀(i:Nat) (oi:Own) g,os[i]?=some oi→oi.owns g→g < w.heap.size:=fun i oi g hi hg=>(hr.rows i oi hi).lt hg
 have hget :∀(i:Nat) (oi:Own),(os.set id o')[i]?=some oi→(i≠id∧os[i]?=some oi)∨(i=id∧oi=o'):=fun i oi hi=>by
  by_cases e:i=id
  ·subst e;rw[List.getElem?_set_self (List.getElem?_eq_some_iff.1 ho).1,Option.some.injEq] at hi;exact .inr ⟨rfl,hi.symm⟩
  ·rw[List.getElem?_set_ne (Ne.symm e)] at hi;exact .inl ⟨e,hi⟩
 have:=hr.Tl (k:=k) ht hFb hos (fun i oi hi=>by
   rcases hget i oi hi with ⟨hne,h⟩ | ⟨_,rfl⟩
   ·exact .inl ⟨h,fun g hg e=>hne (hr.inj i id oi o g h ho hg (.inl e))⟩
   ·exact .inr (hok hmono))
  (fun i j oi oj g hi hj hgi hgj=>by
   rcases hget i oi hi with ⟨hne,h⟩ | ⟨h,rfl⟩ <;> rcases hget j oj hj with ⟨hne',h'⟩ | ⟨h',rfl⟩
   ·exact hr.inj i j oi oj g h h' hgi hgj
   ·rcases hb g hgj with e | e
    ·exact absurd (hr.inj i id oi o g h ho hgi e) hne
    ·have:=hlt i oi g h hgi;omega
   ·rcases hb g hgi with e | e
    ·exact absurd (hr.inj j id oj o g h' ho hgj e) hne'
    ·have:=hlt j oj g h' hgj;omega
   ·omega)
  (fun ox hox g hg=>by
   obtain⟨i,hi⟩:=List.mem_iff_getElem?.1 hox
   rcases hget i ox hi with ⟨_,h⟩ | ⟨_,rfl⟩
   ·exact .inr ⟨ox,List.mem_of_getElem? h,hg⟩
   ·rcases hb g hg with e | e
    ·exact .inr ⟨o,List.mem_of_getElem? ho,e⟩
    ·exact .inl e)
  (fun g hg=>⟨o,List.mem_of_getElem? ho,.inl hg⟩)
 refine⟨?_,this.2.1,this.2.2⟩
 have h1:=this.1
 rw[List.map_set,hr.st] at h1
 exact h1
end Go.Abs

