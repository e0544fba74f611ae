import Derived.Test.YtcegihniiokijaaGreatGEncToEncB
import Derived.Test.YtcegihniiokijaaGreatAbsW
import Derived.Lib.AppendZerosOnto
import Derived.OrdersHeld

namespace RC
open Go Go.Abs
structure BO where
 fields:List Int
structure Ag where
 from_:Int
 to:Int
 cons:List BO
structure Wl where
 op:Int
 dst:Int
 num:Int
 Ax:Int
 args:List Int
 jumps:List Int
structure Yy where
 params:List Int
 At:List Int
 result:Int
 eA:Int
 code:List Wl
structure Zr where
 decls:List Ag
 procs:List Yy
structure Ba where
 params:List Int
 At:List Int
 result:Int
structure A1 where
 decls:List Ag
 funcs:List Ba
inductive Cy where
 | mk (op num:Int) (kids:List Cy)
def Cy.op:Cy→Int | .mk o _ _=>o
def Cy.num:Cy→Int | .mk _ n _=>n
def Cy.kids:Cy→List Cy | .mk _ _ k=>k
structure Fp where
 params:List Int
 result:Int
 body:Cy
structure Co where
 decls:List Ag
 funcs:List Fp
def Ar (c:BO):List AV:=[.sl (c.fields.map eI)]
def AG (d:Ag):List AV:=[.int .i64 d.from_,.int .i64 d.to,.sl (d.cons.map Ar)]
def BE (p:Ba):List AV:=[.sl (p.params.map eI),.sl (p.At.map eI),.int .i64 p.result]
def AL (x:A1):List AV:=[.sl (x.decls.map AG),.sl (x.funcs.map BE)]
noncomputable def Tf (s:Cy):List AV:=
 Cy.rec (motive_1:=fun _=>List AV) (motive_2:=fun _=>List (List AV)) (fun o n _ ks=>[.int .i64 o,.int .i64 n,.sl ks]) [] (fun _ _ b bs=>b :: bs) s
noncomputable def Ef (f:Fp):List AV:=[.sl (f.params.map eI),.int .i64 f.result,.int .i64 f.body.op,.int .i64 f.body.num,.sl (f.body.kids.map Tf)]
structure Ou (c:BO):Prop where
 fields:D1 IF c.fields
structure Mc (d:Ag):Prop where
 from_:IF d.from_
 to:IF d.to
 cons:D1 Ou d.cons
end RC



namespace Go.Abs
open Go
def Mk:AV→Bool
 | .int .. | .bool _ | .str _ | .zc | .N2 | .Nu | .dv ..=>true
 | _=>false
def Pk (xs:List (List AV)):Prop:=∀x∈xs,∀c∈x,Mk c=true
theorem T2 {F S:Nat→Prop} {w:World} {os:List A9} {c:AV} {u:Value} (hc:Mk c=true) (hd :∀e s ys,c≠.dv e s ys) (h:Ao F w os c u):Ch S w c u:=by
 cases c <;> simp only[Mk,Bool.false_eq_true] at hc <;> simp only[Ao] at h <;> simp only[Ch] <;> first | exact h | exact absurd rfl (hd _ _ _)
theorem Lk {F S:Nat→Prop} {w:World} {os:List A9} {c:AV} {u:Value} (h:Ch S w c u):Ao F w os c u∧c.kept=true∧Mk c=true:=by
 cases c <;> simp only[Ch] at h
 case dv=>
  refine⟨?_,rfl,rfl⟩
  simp only[Ao]
  rcases h.2 with ⟨_,a,rfl⟩ | ⟨b,cap,cur,rfl,_⟩ <;> exact⟨_,_,_,rfl⟩
 all_goals first | exact h.elim | exact⟨by simp only[Ao];exact h,rfl,rfl⟩
theorem TK {w:World} {cur:Array Value} {D:Nat→Nat→Prop} (hdis :∀j j' b,D j b→D j' b→j=j') :∀(x:List AV) (o j0:Nat),(∀(j:Nat) c,x[j]?=some c→∃u,cur[o+j]?=some u∧Ch (D (j0+j)) w c u)→
  JA (fun b=>∃j,j0≤j∧D j b) w x cur o
 | [],_,_,_=>by simp[JA]
 | c :: r,o,j0,h=>by
  simp only[JA]
  obtain⟨u,h1,h2⟩:=h 0 c rfl
  refine⟨D j0,fun b=>∃j,j0+1≤j∧D j b,fun b hb=>⟨j0,Nat.le_refl _,hb⟩,fun b ⟨j,hj,hb⟩=>⟨j,by omega,hb⟩,fun b hb ⟨j,hj,hb'⟩=>by have:=hdis _ _ _ hb hb';omega,⟨u,h1,h2⟩,?_⟩
  exact TK hdis r (o+1) (j0+1) fun j c hc=>by
   obtain⟨u,h1,h2⟩:=h (j+1) c (by simpa using hc)
   exact⟨u,by rw[← h1];congr 1;omega,by rw[show j0+1+j=j0+(j+1) by omega];exact h2⟩
theorem S9 {w:World} {cur:Array Value} {size:Nat} {D:Nat→Nat→Nat→Prop} (hdis :∀i j i' j' b,D i j b→D i' j' b→i=i'∧j=j') :∀(xs:List (List AV)) (o i0:Nat),(∀x∈xs,x.length=size)→
  (∀(i:Nat) x,xs[i]?=some x→∀(j:Nat) c,x[j]?=some c→∃u,cur[o+i * size+j]?=some u∧Ch (D (i0+i) j) w c u)→I0 (fun b=>∃i j,i0≤i∧D i j b) w xs cur o
 | [],_,_,_,_=>by simp[I0]
 | x :: r,o,i0,hs,h=>by
  simp only[I0]
  refine⟨fun b=>∃j,0≤j∧D i0 j b,fun b=>∃i j,i0+1≤i∧D i j b,fun b ⟨j,_,hb⟩=>⟨i0,j,Nat.le_refl _,hb⟩,fun b ⟨i,j,hi,hb⟩=>⟨i,j,by omega,hb⟩,fun b ⟨j,_,hb⟩ ⟨i,j',hi,hb'⟩=>by have:=(hdis _ _ _ _ _ hb hb').1;omega,?_,?_⟩
  ·exact TK (D:=D i0) (fun j j' b h1 h2=>(hdis _ _ _ _ _ h1 h2).2) x o 0 fun j c hc=>by
    obtain⟨u,h1,h2⟩:=h 0 x rfl j c hc
    exact⟨u,by rw[← h1];congr 1;omega,by simpa using h2⟩
  ·rw[hs x (by simp)]
   exact S9 hdis r (o+size) (i0+1) (fun x hx=>hs x (by simp[hx])) fun i y hy j c hc=>by
    obtain⟨u,h1,h2⟩:=h (i+1) y (by simpa using hy) j c hc
    exact⟨u,by rw[← h1];congr 1;rw[Nat.add_mul];omega,by rw[show i0+1+i=i0+(i+1) by omega];exact h2⟩
theorem RV {w:World} {cur:Array Value} :∀{x:List AV} {S:Nat→Prop} {o:Nat},JA S w x cur o→∃D:Nat→Nat→Prop,(∀j b,D j b→S b)∧(∀j j' b,D j b→D j' b→j=j')∧
  ∀(j:Nat) c,x[j]?=some c→∃u,cur[o+j]?=some u∧Ch (D j) w c u
 | [],_,_,_=>⟨fun _ _=>False,fun _ _ h=>h.elim,fun _ _ _ h=>h.elim,fun j c h=>by simp at h⟩
 | c :: r,S,o,h=>by
  simp only[JA] at h
  obtain⟨S1,S2,h1,h2,h3,⟨u,h4,h5⟩,h6⟩:=h
  obtain⟨D,d1,d2,d3⟩:=RV h6
  refine⟨fun j=>match j with | 0=>S1 | j+1=>D j,fun j b hb=>?_,fun j j' b hb hb'=>?_,fun j c' hc=>?_⟩
  ·cases j with
   | zero=>exact h1 b hb
   | succ j=>exact h2 b (d1 j b hb)
  ·cases j with
   | zero=>
    cases j' with
    | zero=>rfl
    | succ j'=>exact absurd (d1 j' b hb') (h3 b hb)
   | succ j=>
    cases j' with
    | zero=>exact absurd (d1 j b hb) (h3 b hb')
    | succ j'=>rw[d2 j j' b hb hb']
  ·cases j with
   | zero=>simp only[List.getElem?_cons_zero,Option.some.injEq] at hc;subst hc;exact⟨u,h4,h5⟩
   | succ j=>
    obtain⟨u',g1,g2⟩:=d3 j c' (by simpa using hc)
    exact⟨u',by rw[← g1];congr 1;omega,g2⟩
theorem Rm {w:World} {cur:Array Value} {size:Nat} :∀{xs:List (List AV)} {S:Nat→Prop} {o:Nat},(∀x∈xs,x.length=size)→I0 S w xs cur o→∃D:Nat→Nat→Nat→Prop,(∀i j b,D i j b→S b)∧
  (∀i j i' j' b,D i j b→D i' j' b→i=i'∧j=j')∧∀(i:Nat) x,xs[i]?=some x→∀(j:Nat) c,x[j]?=some c→∃u,cur[o+i * size+j]?=some u∧Ch (D i j) w c u
 | [],_,_,_,_=>⟨fun _ _ _=>False,fun _ _ _ h=>h.elim,fun _ _ _ _ _ h=>h.elim,fun i x h=>by simp at h⟩
 | x :: r,S,o,hs,h=>by
  simp only[I0] at h
  obtain⟨S1,S2,h1,h2,h3,h4,h5⟩:=h
  obtain⟨E,e1,e2,e3⟩:=RV h4
  obtain⟨D,d1,d2,d3⟩:=Rm (fun x hx=>hs x (by simp[hx])) h5
  refine⟨fun i=>match i with | 0=>E | i+1=>D i,fun i j b hb=>?_,fun i j i' j' b hb hb'=>?_,fun i y hy j c hc=>?_⟩
  ·cases i with
   | zero=>exact h1 b (e1 j b hb)
   | succ i=>exact h2 b (d1 i j b hb)
  ·cases i with
   | zero=>
    cases i' with
    | zero=>exact⟨rfl,e2 j j' b hb hb'⟩
    | succ i'=>exact absurd (d1 i' j' b hb') (h3 b (e1 j b hb))
   | succ i=>
    cases i' with
    | zero=>exact absurd (d1 i j b hb) (h3 b (e1 j' b hb'))
    | succ i'=>
     obtain⟨q1,q2⟩:=d2 i j i' j' b hb hb'
     exact⟨by rw[q1],q2⟩
  ·cases i with
   | zero=>
    simp only[List.getElem?_cons_zero,Option.some.injEq] at hy;subst hy
    obtain⟨u,g1,g2⟩:=e3 j c hc
    exact⟨u,by rw[← g1];congr 1;omega,g2⟩
   | succ i=>
    obtain⟨u,g1,g2⟩:=d3 i y (by simpa using hy) j c hc
    rw[hs x (by simp)] at g1
    exact⟨u,by rw[← g1];congr 1;rw[Nat.add_mul];omega,g2⟩
variable {P : Program} {F : Nat → Prop} {os : List A9} {s : St} {a : Act} {w : World} {k : Nat}
theorem QU {p:A9} (h:J1 F w os p) (hd:Pk p.row.xs) {v:Value} (hv:(p.EO=none∧∃a,v=.slice a p.row.xs.length 0)∨∃b,p.EO=some b∧v=.slice (some ⟨b,0,none⟩) p.row.xs.length p.cap) :
  Ch p.Bm w (.dv p.row.elem p.row.size p.row.xs) v:=by
 simp only[Ch]
 refine⟨h.pos,?_⟩
 rcases hv with ⟨hb,a,rfl⟩ | ⟨b,hb,rfl⟩
 ·have:=(h.none hb).1
  exact .inl ⟨this,a,by rw[this];rfl⟩
 ·obtain⟨_,cur,hcur,hsz,hle,hmax,hcells⟩:=h.some b hb
  obtain⟨D,d1,d2,d3⟩:=h.deep
  refine .inr ⟨b,p.cap,cur,rfl,hle,hmax,.inl hb,hcur,hsz,fun x hx=>(h.lens x hx).1,?_⟩
  have:=S9 (w:=w) (cur:=cur) (size:=p.row.size) d2 p.row.xs 0 0 (fun x hx=>(h.lens x hx).1) (fun i x hx j c hc=>by
   simp only[Nat.zero_add]
   by_cases hdv :∃e s ys,c=.dv e s ys
   ·obtain⟨e,s,ys,rfl⟩:=hdv
    exact d3 b hb cur _ _ hcur i x j e s ys hx hc
   ·obtain⟨u,g1,g2⟩:=hcells i x hx j c hc
    exact⟨u,g1,T2 (hd x (List.mem_of_getElem? hx) c (List.mem_of_getElem? hc)) (fun e s ys e'=>hdv ⟨e,s,ys,e'⟩) g2⟩)
  exact NH (fun c ⟨i,j,_,hc⟩=>⟨.inr (d1 i j c hc),fun e=>(h.mo c (d1 i j c hc)).2.2 (by rw[hb,e])⟩) (fun _ _=>rfl) _ _ _ this
theorem Ll {id m g gm size sz n i j nn:Nat} {el el':TypeId} {xs ys:List (List AV)} {x:List AV} {e:Nat→AV} {st st':List Row} (hrow:st[id]?=some ⟨g,el,size,xs⟩) (hx:xs[i]?=some x) (hc:x[j]?=some (.own m gm n))
  (hm:st[m]?=some ⟨gm,el',sz,ys⟩) (hn:n=ys.length) (hne:id≠m) (hkm:k≤m) (hd:Pk ys) (hst:(st.set id ⟨g,el,size,xs.set i (x.set j (.dv el' sz ys))⟩).set m ⟨gm+1,el',sz,[]⟩=st') :
  Wk k ⟨nn,e,st⟩ ⟨nn,e,st'⟩:=fun F os a w hr=>by
 subst hst;subst hn
 obtain⟨o,ho,hor⟩:=hr.row hrow
 obtain⟨p,hp,hpr⟩:=hr.row hm
 have hok:=hr.rows id o ho
 have hpk:=hr.rows m p hp
 have hst:os.map A9.row=st:=hr.st
 have hxs:o.row.xs=xs:=by rw[hor]
 have hpx:p.row.xs=ys:=by rw[hpr]
 let o':A9:={ o with row:={ o.row with xs:=xs.set i (x.set j (.dv el' sz ys)) },more:=fun b=>o.more b∨p.Bm b }
 let p':A9:=⟨{ p.row with gen:=p.row.gen+1,xs:=[] },none,0,EZ⟩
 have hil:i < xs.length:=(List.getElem?_eq_some_iff.1 hx).1
 have hjl:j < x.length:=(List.getElem?_eq_some_iff.1 hc).1
 have hidl:=(List.getElem?_eq_some_iff.1 ho).1
 have hml:=(List.getElem?_eq_some_iff.1 hp).1
 have hdis :∀b,o.Bm b→¬ p.Bm b:=fun b h1 h2=>hne (hr.inj id m o p b ho hp h1 h2)
 have hget :∀(q:Nat) (oq:A9),((os.set id o').set m p')[q]?=some oq→(q≠id∧q≠m∧os[q]?=some oq)∨(q=id∧oq=o')∨(q=m∧oq=p'):=fun q oq hq=>by
  by_cases e:q=m
  ·subst e
   rw[List.getElem?_set_self (by simpa using hml),Option.some.injEq] at hq
   exact .inr (.inr ⟨rfl,hq.symm⟩)
  ·rw[List.getElem?_set_ne (Ne.symm e)] at hq
   by_cases e2:q=id
   ·subst e2
    rw[List.getElem?_set_self hidl,Option.some.injEq] at hq
    exact .inr (.inl ⟨rfl,hq.symm⟩)
   ·rw[List.getElem?_set_ne (Ne.symm e2)] at hq
    exact .inl ⟨e2,e,hq⟩
 have hos:Ex os ((os.set id o').set m p'):=fun q oq hq=>by
  by_cases e:q=m
  ·subst e
   rw[hp] at hq;cases hq
   exact⟨p',List.getElem?_set_self (by simpa using hml),Nat.le_succ _,rfl,fun e=>by simp[p'] at e⟩
  ·rw[List.getElem?_set_ne (Ne.symm e)]
   by_cases e2:q=id
   ·subst e2
    rw[ho] at hq;cases hq
    exact⟨o',List.getElem?_set_self hidl,Nat.le_refl _,rfl,fun _=>⟨rfl,rfl,by simp[o',hxs]⟩⟩
   ·rw[List.getElem?_set_ne (Ne.symm e2)]
    exact⟨oq,hq,Nat.le_refl _,rfl,fun _=>⟨rfl,rfl,rfl⟩⟩
 have hmono :∀y v,Ao F w os y v→Ao F w ((os.set id o').set m p') y v:=fun y v h=>DN (fun _ h=>h) (fun _ _=>rfl) os _ hos y v h
 have howns :∀b,o'.Bm b→o.Bm b∨p.Bm b:=fun b hb=>by
  rcases hb with hb | hb | hb
  ·exact .inl (.inl hb)
  ·exact .inl (.inr hb)
  ·exact .inr hb
 have hpn :∀b,¬ p'.Bm b:=fun b hb=>by
  rcases hb with hb | hb
  ·simp[p'] at hb
  ·exact hb
 obtain⟨bo,hbo⟩ :∃b,o.EO=some b:=by
  cases hb:o.EO with
  | none=>have:=(hok.none hb).1;rw[hxs] at this;rw[this] at hil;simp at hil
  | some b=>exact⟨b,rfl⟩
 obtain⟨hnF,cur,hcur,hsz,hle,hmax,hcells⟩:=hok.some bo hbo
 obtain⟨uv,hu1,hu2⟩:=hcells i x (by rw[hxs];exact hx) j _ hc
 have huv:(p.EO=none∧∃a,uv=.slice a p.row.xs.length 0)∨∃b,p.EO=some b∧uv=.slice (some ⟨b,0,none⟩) p.row.xs.length p.cap:=by
  simp only[Ao] at hu2
  obtain⟨q,hq,_,_,hv⟩:=hu2
  rw[hp] at hq;cases hq
  have:=(hv (by rw[hpr])).2
  rw[hpx];exact this
 have hRD:Ch p.Bm w (.dv el' sz ys) uv:=by
  have:=QU hpk (by rw[hpx];exact hd) huv
  rw[hpr] at this;exact this
 refine⟨F,(os.set id o').set m p',⟨?_,fun t=>hmono _ _ (hr.env t),hr.size,fun q oq hq=>?_,fun q q' oq oq' b hq hq' hb hb'=>?_,hr.FY,hr.defers⟩,⟨rfl,rfl,rfl,Nat.le_refl _,fun _ h=>h,fun _ _=>rfl,fun b _ h1 h2=>⟨rfl,h1,fun oq hoq hb=>?_⟩,fun q oq _ hq=>hos q oq hq⟩⟩
 ·rw[List.map_set,List.map_set,hst]
  simp only[o',p',hor,hpr]
 ·rcases hget q oq hq with ⟨_,_,h⟩ | ⟨_,rfl⟩ | ⟨_,rfl⟩
  ·have h0:=hr.rows q oq h
   refine⟨h0.pos,h0.lens,h0.none,fun b hb=>?_,h0.mo,h0.deep⟩
   obtain⟨e1,cur,e2,e3,e4,e5,e6⟩:=h0.some b hb
   exact⟨e1,cur,e2,e3,e4,e5,fun i' y hy j' c hc=>by obtain⟨u,f1,f2⟩:=e6 i' y hy j' c hc;exact⟨u,f1,hmono _ _ f2⟩⟩
  ·refine⟨hok.pos,fun y hy=>?_,(fun hn=>by simp only[o'] at hn;rw[hbo] at hn;cases hn),fun b hb=>?_,fun b hb=>?_,?_⟩
   ·rcases List.mem_or_eq_of_mem_set hy with hy | rfl
    ·exact hok.lens y (by rw[hxs];exact hy)
    ·have h0:=hok.lens x (by rw[hxs];exact List.mem_of_getElem? hx)
     refine⟨by rw[List.length_set];exact h0.1,fun c hcm=>?_⟩
     rcases List.mem_or_eq_of_mem_set hcm with h | rfl
     ·exact h0.2 c h
     ·rfl
   ·simp only[o'] at hb
    rw[hbo] at hb;cases hb
    refine⟨hnF,cur,hcur,hsz,by simpa [o',hxs] using hle,hmax,fun i' y hy j' c hcy=>?_⟩
    simp only[o'] at hy ⊢
    by_cases hi:i'=i
    ·subst hi
     rw[List.getElem?_set_self hil,Option.some.injEq] at hy
     subst hy
     by_cases hj:j'=j
     ·subst hj
      rw[List.getElem?_set_self hjl,Option.some.injEq] at hcy
      subst hcy
      exact⟨uv,hu1,(Lk hRD).1⟩
     ·rw[List.getElem?_set_ne (Ne.symm hj)] at hcy
      obtain⟨u,f1,f2⟩:=hcells i' x (by rw[hxs];exact hx) j' c hcy
      exact⟨u,f1,hmono _ _ f2⟩
    ·rw[List.getElem?_set_ne (Ne.symm hi)] at hy
     obtain⟨u,f1,f2⟩:=hcells i' y (by rw[hxs];exact hy) j' c hcy
     exact⟨u,f1,hmono _ _ f2⟩
   ·rcases hb with hb | hb
    ·exact hok.mo b hb
    ·exact⟨hpk.nF hb,hpk.lt hb,fun e=>hdis b (.inl e) hb⟩
   ·obtain⟨D,d1,d2,d3⟩:=hok.deep
    refine⟨fun i' j' b=>if i'=i∧j'=j then p.Bm b else D i' j' b,fun i' j' b hb=>?_,fun i1 j1 i2 j2 b h1 h2=>?_,fun b hb cur' el2 l hcur' i' y j' e2 s2 zs hy hcy=>?_⟩
    ·simp only at hb
     split at hb
     ·exact .inr hb
     ·exact .inl (d1 i' j' b hb)
    ·simp only at h1 h2
     split at h1 <;> split at h2
     ·rename_i q1 q2;exact⟨q1.1.trans q2.1.symm,q1.2.trans q2.2.symm⟩
     ·exact absurd h1 (hdis b (.inr (d1 _ _ _ h2)))
     ·exact absurd h2 (hdis b (.inr (d1 _ _ _ h1)))
     ·exact d2 _ _ _ _ _ h1 h2
    ·simp only[o'] at hb hy ⊢
     rw[hbo] at hb;cases hb
     rw[hcur] at hcur';cases hcur'
     by_cases hij:i'=i∧j'=j
     ·obtain⟨rfl,rfl⟩:=hij
      rw[List.getElem?_set_self hil,Option.some.injEq] at hy
      subst hy
      rw[List.getElem?_set_self hjl,Option.some.injEq] at hcy
      cases hcy
      exact⟨uv,hu1,by simpa using hRD⟩
     ·have hold :∃y0,o.row.xs[i']?=some y0∧y0[j']?=some (.dv e2 s2 zs):=by
       rw[hxs]
       by_cases hi:i'=i
       ·subst hi
        rw[List.getElem?_set_self hil,Option.some.injEq] at hy
        subst hy
        have hj:j'≠j:=fun e=>hij ⟨rfl,e⟩
        rw[List.getElem?_set_ne (Ne.symm hj)] at hcy
        exact⟨x,hx,hcy⟩
       ·rw[List.getElem?_set_ne (Ne.symm hi)] at hy
        exact⟨y,hy,hcy⟩
      obtain⟨y0,hy0,hc0⟩:=hold
      obtain⟨u,f1,f2⟩:=d3 bo hbo cur _ _ hcur i' y0 j' e2 s2 zs hy0 hc0
      exact⟨u,f1,by simpa only[hij,if_false] using f2⟩
  ·exact⟨hpk.pos,by simp[p'],by simp[p'],by simp[p'],fun b hb=>hb.elim,FM (by simp[p'])⟩
 ·rcases hget q oq hq with ⟨q1,q2,h⟩ | ⟨rfl,rfl⟩ | ⟨_,rfl⟩ <;> rcases hget q' oq' hq' with ⟨q1',q2',h'⟩ | ⟨rfl,rfl⟩ | ⟨_,rfl⟩
  ·exact hr.inj q q' oq oq' b h h' hb hb'
  ·rcases howns b hb' with e | e
   ·exact hr.inj q _ oq o b h ho hb e
   ·exact absurd (hr.inj q m oq p b h hp hb e) q2
  ·exact absurd hb' (hpn b)
  ·rcases howns b hb with e | e
   ·exact hr.inj _ q' o oq' b ho h' e hb'
   ·exact absurd (hr.inj m q' p oq' b hp h' e hb').symm q2'
  ·rfl
  ·exact absurd hb' (hpn b)
  ·exact absurd hb (hpn b)
  ·exact absurd hb (hpn b)
  ·exact absurd hb (hpn b)
 ·obtain⟨q,hq⟩:=List.mem_iff_getElem?.1 hoq
  rcases hget q oq hq with ⟨_,_,h⟩ | ⟨_,rfl⟩ | ⟨_,rfl⟩
  ·exact h2 oq (List.mem_of_getElem? h) hb
  ·rcases howns b hb with e | e
   ·exact h2 o (List.mem_of_getElem? ho) e
   ·exact h2 p (List.mem_of_getElem? hp) e
  ·exact hpn b hb
end Go.Abs



namespace Go.Abs
open Go
variable {P : Program} {F : Nat → Prop} {os : List A9} {s : St} {a : Act} {w : World} {k : Nat}
theorem TQ {S:Nat→Prop} {el sz:Nat} {ys:List (List AV)} {u:Value} (hS :∀b,S b→¬ F b∧b < w.heap.size) (h:Ch S w (.dv el sz ys) u) :
  ∃p:A9,p.row=⟨0,el,sz,ys⟩∧(∀b,p.Bm b→S b)∧(∀os,J1 F w os p)∧((p.EO=none∧∃a,u=.slice a ys.length 0)∨∃b,p.EO=some b∧u=.slice (some ⟨b,0,none⟩) ys.length p.cap):=by
 simp only[Ch] at h
 obtain⟨hp,h⟩:=h
 rcases h with ⟨rfl,a,rfl⟩ | ⟨b,cap,cur,rfl,h2,h3,h4,h5,h6,h7,h8⟩
 ·refine⟨⟨⟨0,el,sz,[]⟩,none,0,EZ⟩,rfl,fun b hb=>?_,fun os=>⟨hp,by simp,by simp,by simp,fun b hb=>hb.elim,FM (by simp)⟩,.inl ⟨rfl,a,rfl⟩⟩
  rcases hb with hb | hb
  ·cases hb
  ·exact hb.elim
 ·obtain⟨D,d1,d2,d3⟩:=Rm h7 h8
  refine⟨⟨⟨0,el,sz,ys⟩,some b,cap,fun c=>S c∧c≠b⟩,rfl,fun c hc=>?_,fun os=>⟨hp,fun x hx=>⟨h7 x hx,fun c hc=>?_⟩,by simp,fun b' hb'=>?_,fun c hc=>⟨(hS c hc.1).1,(hS c hc.1).2,fun e=>hc.2 (by simpa using e.symm)⟩,⟨D,d1,d2,fun b' hb' cur' el2 l hcur' i x j e s zs hx hc=>?_⟩⟩,.inr ⟨b,rfl,rfl⟩⟩
  ·rcases hc with hc | hc
   ·cases hc;exact h4
   ·exact hc.1
  ·obtain⟨i,hi⟩:=List.mem_iff_getElem?.1 hx
   obtain⟨j,hj⟩:=List.mem_iff_getElem?.1 hc
   obtain⟨u,_,g2⟩:=d3 i x hi j c hj
   exact (Lk (F:=F) (os:=os) g2).2.1
  ·simp only[Option.some.injEq] at hb'
   subst hb'
   refine⟨(hS _ h4).1,cur,h5,h6,h2,h3,fun i x hx j c hc=>?_⟩
   obtain⟨u,g1,g2⟩:=d3 i x hx j c hc
   exact⟨u,by simpa using g1,(Lk g2).1⟩
  ·simp only[Option.some.injEq] at hb'
   subst hb'
   rw[h5] at hcur';cases hcur'
   obtain⟨u,g1,g2⟩:=d3 i x hx j _ hc
   exact⟨u,by simpa using g1,g2⟩
theorem Wk.Zo {id m g size sz n i j nn:Nat} {el el':TypeId} {xs ys:List (List AV)} {x:List AV} {e:Nat→AV} {st st':List Row} (hrow:st[id]?=some ⟨g,el,size,xs⟩) (hx:xs[i]?=some x) (hc:x[j]?=some (.dv el' sz ys))
  (hm:st.length=m) (hn:n=ys.length) (hst:st.set id ⟨g,el,size,xs.set i (x.set j (.own m 0 n))⟩ ++ [⟨0,el',sz,ys⟩]=st'):Wk k ⟨nn,e,st⟩ ⟨nn,e,st'⟩:=fun F os a w hr=>by
 subst hst;subst hn;subst hm
 obtain⟨o,ho,hor⟩:=hr.row hrow
 have hok:=hr.rows id o ho
 have hst:os.map A9.row=st:=hr.st
 have hol:os.length=st.length:=by rw[← hst];simp
 have hxs:o.row.xs=xs:=by rw[hor]
 have hil:i < xs.length:=(List.getElem?_eq_some_iff.1 hx).1
 have hjl:j < x.length:=(List.getElem?_eq_some_iff.1 hc).1
 have hidl:=(List.getElem?_eq_some_iff.1 ho).1
 obtain⟨bo,hbo⟩ :∃b,o.EO=some b:=by
  cases hb:o.EO with
  | none=>have:=(hok.none hb).1;rw[hxs] at this;rw[this] at hil;simp at hil
  | some b=>exact⟨b,rfl⟩
 obtain⟨hnF,cur,hcur,hsz,hle,hmax,hcells⟩:=hok.some bo hbo
 obtain⟨D,d1,d2,d3⟩:=hok.deep
 obtain⟨uv,hu1,hu2⟩:=d3 bo hbo cur _ _ hcur i x j el' sz ys (by rw[hxs];exact hx) hc
 obtain⟨p,hpr,hpo,hpk,hpv⟩:=TQ (F:=F) (fun b hb=>⟨(hok.mo b (d1 _ _ _ hb)).1,(hok.mo b (d1 _ _ _ hb)).2.1⟩) hu2
 let o':A9:={ o with row:={ o.row with xs:=xs.set i (x.set j (.own st.length 0 ys.length)) },more:=fun b=>o.more b∧¬ D i j b }
 have hget :∀(q:Nat) (oq:A9),(os.set id o' ++ [p])[q]?=some oq→(q≠id∧q < os.length∧os[q]?=some oq)∨(q=id∧oq=o')∨(q=os.length∧oq=p):=fun q oq hq=>by
  rcases Nat.lt_trichotomy q os.length with h | h | h
  ·rw[List.getElem?_append_left (by simpa using h)] at hq
   by_cases e2:q=id
   ·subst e2
    rw[List.getElem?_set_self hidl,Option.some.injEq] at hq
    exact .inr (.inl ⟨rfl,hq.symm⟩)
   ·rw[List.getElem?_set_ne (Ne.symm e2)] at hq
    exact .inl ⟨e2,h,hq⟩
  ·subst h
   rw[List.getElem?_append_right (by simp)] at hq
   simp at hq
   exact .inr (.inr ⟨rfl,hq.symm⟩)
  ·rw[List.getElem?_eq_none (by simp;omega)] at hq;cases hq
 have hpget:(os.set id o' ++ [p])[st.length]?=some p:=by
  rw[List.getElem?_append_right (by simp;omega)]
  simp[hol]
 have hos:Ex os (os.set id o' ++ [p]):=fun q oq hq=>by
  have hql:=(List.getElem?_eq_some_iff.1 hq).1
  rw[List.getElem?_append_left (by simpa using hql)]
  by_cases e2:q=id
  ·subst e2
   rw[ho] at hq;cases hq
   exact⟨o',List.getElem?_set_self hidl,Nat.le_refl _,rfl,fun _=>⟨rfl,rfl,by simp[o',hxs]⟩⟩
  ·rw[List.getElem?_set_ne (Ne.symm e2)]
   exact⟨oq,hq,Nat.le_refl _,rfl,fun _=>⟨rfl,rfl,rfl⟩⟩
 have hmono :∀y v,Ao F w os y v→Ao F w (os.set id o' ++ [p]) y v:=fun y v h=>DN (fun _ h=>h) (fun _ _=>rfl) os _ hos y v h
 have ho'o :∀b,o'.Bm b→o.Bm b:=fun b hb=>by
  rcases hb with hb | hb
  ·exact .inl hb
  ·exact .inr hb.1
 have hpoo :∀b,p.Bm b→o.Bm b:=fun b hb=>.inr (d1 _ _ _ (hpo b hb))
 have hdis :∀b,o'.Bm b→¬ p.Bm b:=fun b h1 h2=>by
  have h3:=hpo b h2
  rcases h1 with h1 | h1
  ·exact (hok.mo b (d1 _ _ _ h3)).2.2 h1
  ·exact h1.2 h3
 have hnew:Ao F w (os.set id o' ++ [p]) (.own st.length 0 ys.length) uv:=by
  simp only[Ao]
  refine⟨p,hpget,Nat.zero_le _,?_,fun _=>⟨by rw[hpr];exact Nat.le_refl _,hpv⟩⟩
  rcases hpv with ⟨_,a,rfl⟩ | ⟨b,_,rfl⟩ <;> exact⟨_,_,_,rfl⟩
 refine⟨F,os.set id o' ++ [p],⟨?_,fun t=>hmono _ _ (hr.env t),hr.size,fun q oq hq=>?_,fun q q' oq oq' b hq hq' hb hb'=>?_,hr.FY,hr.defers⟩,⟨rfl,rfl,rfl,Nat.le_refl _,fun _ h=>h,fun _ _=>rfl,fun b _ h1 h2=>⟨rfl,h1,fun oq hoq hb=>?_⟩,fun q oq _ hq=>hos q oq hq⟩⟩
 ·rw[List.map_append,List.map_set,hst]
  simp only[o',hor,List.map_cons,List.map_nil,hpr]
 ·rcases hget q oq hq with ⟨_,_,h⟩ | ⟨_,rfl⟩ | ⟨_,rfl⟩
  ·have h0:=hr.rows q oq h
   refine⟨h0.pos,h0.lens,h0.none,fun b hb=>?_,h0.mo,h0.deep⟩
   obtain⟨e1,cur,e2,e3,e4,e5,e6⟩:=h0.some b hb
   exact⟨e1,cur,e2,e3,e4,e5,fun i' y hy j' c hc=>by obtain⟨u,f1,f2⟩:=e6 i' y hy j' c hc;exact⟨u,f1,hmono _ _ f2⟩⟩
  ·refine⟨hok.pos,fun y hy=>?_,(fun hn=>by simp only[o'] at hn;rw[hbo] at hn;cases hn),fun b hb=>?_,fun b hb=>hok.mo b hb.1,?_⟩
   ·rcases List.mem_or_eq_of_mem_set hy with hy | rfl
    ·exact hok.lens y (by rw[hxs];exact hy)
    ·have h0:=hok.lens x (by rw[hxs];exact List.mem_of_getElem? hx)
     refine⟨by rw[List.length_set];exact h0.1,fun c hcm=>?_⟩
     rcases List.mem_or_eq_of_mem_set hcm with h | rfl
     ·exact h0.2 c h
     ·rfl
   ·simp only[o'] at hb
    rw[hbo] at hb;cases hb
    refine⟨hnF,cur,hcur,hsz,by simpa [o',hxs] using hle,hmax,fun i' y hy j' c hcy=>?_⟩
    simp only[o'] at hy ⊢
    by_cases hi:i'=i
    ·subst hi
     rw[List.getElem?_set_self hil,Option.some.injEq] at hy
     subst hy
     by_cases hj:j'=j
     ·subst hj
      rw[List.getElem?_set_self hjl,Option.some.injEq] at hcy
      subst hcy
      exact⟨uv,hu1,hnew⟩
     ·rw[List.getElem?_set_ne (Ne.symm hj)] at hcy
      obtain⟨u,f1,f2⟩:=hcells i' x (by rw[hxs];exact hx) j' c hcy
      exact⟨u,f1,hmono _ _ f2⟩
    ·rw[List.getElem?_set_ne (Ne.symm hi)] at hy
     obtain⟨u,f1,f2⟩:=hcells i' y (by rw[hxs];exact hy) j' c hcy
     exact⟨u,f1,hmono _ _ f2⟩
   ·refine⟨fun i' j' b=>if i'=i∧j'=j then False else D i' j' b,fun i' j' b hb=>?_,fun i1 j1 i2 j2 b h1 h2=>?_,fun b hb cur' el2 l hcur' i' y j' e2 s2 zs hy hcy=>?_⟩
    ·simp only at hb
     split at hb
     ·exact hb.elim
     ·rename_i hij
      exact⟨d1 i' j' b hb,fun h=>hij (d2 _ _ _ _ _ hb h)⟩
    ·simp only at h1 h2
     split at h1 <;> split at h2 <;> first | exact h1.elim | exact h2.elim | exact d2 _ _ _ _ _ h1 h2
    ·simp only[o'] at hb hy ⊢
     rw[hbo] at hb;cases hb
     rw[hcur] at hcur';cases hcur'
     have hold:(¬ (i'=i∧j'=j))∧∃y0,o.row.xs[i']?=some y0∧y0[j']?=some (.dv e2 s2 zs):=by
      rw[hxs]
      by_cases hi:i'=i
      ·subst hi
       rw[List.getElem?_set_self hil,Option.some.injEq] at hy
       subst hy
       by_cases hj:j'=j
       ·subst hj
        rw[List.getElem?_set_self hjl,Option.some.injEq] at hcy
        cases hcy
       ·rw[List.getElem?_set_ne (Ne.symm hj)] at hcy
        exact⟨fun h=>hj h.2,x,hx,hcy⟩
      ·rw[List.getElem?_set_ne (Ne.symm hi)] at hy
       exact⟨fun h=>hi h.1,y,hy,hcy⟩
     obtain⟨hij,y0,hy0,hc0⟩:=hold
     obtain⟨u,f1,f2⟩:=d3 bo hbo cur _ _ hcur i' y0 j' e2 s2 zs hy0 hc0
     exact⟨u,f1,by simpa only[hij,if_false] using f2⟩
  ·exact hpk _
 ·rcases hget q oq hq with ⟨q1,q2,h⟩ | ⟨rfl,rfl⟩ | ⟨rfl,rfl⟩ <;> rcases hget q' oq' hq' with ⟨q1',q2',h'⟩ | ⟨rfl,rfl⟩ | ⟨rfl,rfl⟩
  ·exact hr.inj q q' oq oq' b h h' hb hb'
  ·exact hr.inj q _ oq o b h ho hb (ho'o b hb')
  ·exact absurd (hr.inj q id oq o b h ho hb (hpoo b hb')) q1
  ·exact hr.inj _ q' o oq' b ho h' (ho'o b hb) hb'
  ·rfl
  ·exact absurd hb' (hdis b hb)
  ·exact absurd (hr.inj id q' o oq' b ho h' (hpoo b hb) hb').symm q1'
  ·exact absurd hb (hdis b hb')
  ·rfl
 ·obtain⟨q,hq⟩:=List.mem_iff_getElem?.1 hoq
  rcases hget q oq hq with ⟨_,_,h⟩ | ⟨_,rfl⟩ | ⟨_,rfl⟩
  ·exact h2 oq (List.mem_of_getElem? h) hb
  ·exact h2 o (List.mem_of_getElem? ho) (ho'o b hb)
  ·exact h2 o (List.mem_of_getElem? ho) (hpoo b hb)
variable {α β : Type} {l : List α} {enc : α → List AV}
def hole (l:List α) (enc:α→List AV) (i:Int) (x:List AV):List (List AV):=(l.map enc).set i.toNat x
theorem WD {i:Int} {u:α} {x:List AV} (h:x=enc u):hole l enc i x=(Sh.put l i u).map enc:=by subst h;exact VH
theorem Gl {i:Int} {u:α} {x:List AV} (h:Sh.get l i=some u):(hole l enc i x)[i.toNat]?=some x:=by
 have:=(Sh.get_some h).2.2
 have h0:=(Sh.get_some h).1
 exact List.getElem?_set_self (by simp;omega)
theorem TF {i:Int} {x y:List AV}:(hole l enc i x).set i.toNat y=hole l enc i y:=by unfold hole;rw[List.set_set]
theorem GP {id m g size sz nn j:Nat} {el el':TypeId} {i:Int} {c:α} {ys:List β} {encY:β→List AV} {x x':List AV} {e:Nat→AV} {st st':List Row} (hrow:st[id]?=some ⟨g,el,size,l.map enc⟩) (hi:Sh.get l i=some c) (hx:enc c=x) (hc:x[j]?=some (.dv el' sz (ys.map encY)))
  (hm:st.length=m) (hx':x.set j (.own m 0 ys.length)=x') (hst:st.set id ⟨g,el,size,hole l enc i x'⟩ ++ [⟨0,el',sz,ys.map encY⟩]=st'):Wk k ⟨nn,e,st⟩ ⟨nn,e,st'⟩:=by
 subst hst;subst hx';subst hx
 exact Wk.Zo hrow (ER hi) hc hm (n:=ys.length) (by simp) rfl
theorem Wk.take {id m g gm size sz nn j n:Nat} {el el':TypeId} {i:Int} {c:α} {ys:List β} {encY:β→List AV} {x x':List AV} {e:Nat→AV} {st st':List Row} (hrow:st[id]?=some ⟨g,el,size,hole l enc i x⟩) (hi:Sh.get l i=some c) (hc:x[j]?=some (.own m gm n))
  (hm:st[m]?=some ⟨gm,el',sz,ys.map encY⟩) (hn:n=ys.length) (hne:id≠m) (hkm:k≤m) (hd :∀y,(encY y).all Mk=true) (hx':x.set j (.dv el' sz (ys.map encY))=x') (hst:(st.set id ⟨g,el,size,hole l enc i x'⟩).set m ⟨gm+1,el',sz,[]⟩=st') :
  Wk k ⟨nn,e,st⟩ ⟨nn,e,st'⟩:=by
 subst hst;subst hx'
 refine Ll hrow (Gl hi) hc hm (by simpa using hn) hne hkm (fun y hy c hc=>?_) (by rw[TF])
 obtain⟨z,_,rfl⟩:=List.mem_map.1 hy
 exact List.all_eq_true.1 (hd z) c hc
theorem DK {id g size nn:Nat} {el:TypeId} {i:Int} {u:α} {x:List AV} {e:Nat→AV} {st st':List Row} (hrow:st[id]?=some ⟨g,el,size,hole l enc i x⟩) (hx:x=enc u) (hst:st.set id ⟨g,el,size,(Sh.put l i u).map enc⟩=st'):Wk k ⟨nn,e,st⟩ ⟨nn,e,st'⟩:=by
 rw[WD hx] at hrow
 have:st.set id ⟨g,el,size,(Sh.put l i u).map enc⟩=st:=by
  obtain⟨h1,h2⟩:=List.getElem?_eq_some_iff.1 hrow
  rw[← h2];exact List.set_getElem_self h1
 rw[this] at hst
 exact DQ hst
section
variable {ops : Array Oper} {Q : Exit → St → Prop} {ds : List (Option Tmp)} {r : List Oper} {n : Nat} {e : Nat → AV} {st st' : List Row} {ty : TypeId} {ps : String} {ed : Array Edge} {t : Tmp} {v : AV} {gd : Option (Nat × Bool)} {T : TypeId} {x y : Operand} {ag : Bool} {sz id g size : Nat} {el : TypeId} {cs : List AV} {c : α} {i : Int}
theorem PF (hg:GO ds gd e) (ht:CP P T=some (ag,sz)) (hx:St.ev ⟨n,e,st⟩ x=.ptr id g i.toNat 0) (hr:st[id]?=some ⟨g,el,size,l.map enc⟩) (hi:Sh.get l i=some c) (hv:St.ev ⟨n,e,st⟩ y=v) (hc:Ih v=some cs) (hn:cs.length=sz) (hle:cs.length≤size)
  (hlen:(enc c).length=cs.length) (hst:st.set id ⟨g,el,size,hole l enc i cs⟩=st') (hk:AO P k ops Q (ds ++ [none]) r ⟨n,e,st'⟩):AO P k ops Q ds (⟨none,.store T x y,ty,ps,ed,gd⟩ :: r) ⟨n,e,st⟩:=by
 refine A3 hg ht hx hr (ER hi) hv hc hn (by omega) ?_ hk
 rw[← hst]
 have:FW (enc c) 0 cs=cs:=by
  unfold FW
  rw[List.take_zero,List.nil_append,Nat.zero_add,List.drop_eq_nil_of_le (by omega),List.append_nil]
 rw[this];rfl
end
end Go.Abs



namespace Go.Abs
open Go
variable {P : Program} {F : Nat → Prop} {os : List A9} {s : St} {a : Act} {w : World} {k : Nat}
theorem Rel.Y0 (hr:Rel F os s a w) {cur:Array Value} {e:TypeId} {size cap:Nat} {xs:List (List AV)} (hpos:0 < size) (hlens :∀x∈xs,x.length=size∧∀c∈x,c.kept=true)
  (hsz:cur.size=cap * size) (hle:xs.length≤cap) (hmax:cap≤maxLen)
  (hcells :∀(i:Nat) x,xs[i]?=some x→∀(j:Nat) c,x[j]?=some c→∃u,cur[i * size+j]?=some u∧Ao F w os c u∧∀e s ys,c=.dv e s ys→Ch EZ w c u) :
  let o:A9:=⟨⟨0,e,size,xs⟩,some w.heap.size,cap,EZ⟩
  Rel F (os ++ [o]) { s with st:=s.st ++ [o.row] } a (w.alloc (.cells cur e))∧Ext F os w F (os ++ [o]) (w.alloc (.cells cur e)) k:=by
 intro o
 have ht:IX w (w.alloc (.cells cur e)) none:=IX.alloc _ _ _
 have hlt :∀(i:Nat) (oi:A9) g,os[i]?=some oi→oi.Bm g→g < w.heap.size:=fun i oi g hi hg=>(hr.rows i oi hi).lt hg
 have hget :∀(i:Nat) (oi:A9),(os ++ [o])[i]?=some oi→os[i]?=some oi∨(i=os.length∧oi=o):=fun i oi hi=>by
  rcases Nat.lt_trichotomy i os.length with h | h | h
  ·rw[List.getElem?_append_left h] at hi;exact .inl hi
  ·subst h;simp at hi;exact .inr ⟨rfl,hi.symm⟩
  ·rw[List.getElem?_append_right (by omega),List.getElem?_eq_none (by simp;omega)] at hi;cases hi
 have hold :∀x v,Ao F w os x v→Ao F (w.alloc (.cells cur e)) (os ++ [o]) x v:=fun x v h=>
  DN (fun _ h=>h) (fun g hg=>ht.FY g (hr.FY g hg) (by simp)) os _ (Ex.append os [o]) x v h
 have hown :∀g,o.Bm g→g=w.heap.size:=fun g hg=>by
  simp only[A9.Bm,o,EZ,or_false,Option.some.injEq] at hg;exact hg.symm
 have:=hr.TG (k:=k) ht (by simp) (os':=os ++ [o]) (Ex.append os [o]) (fun i oi hi=>by
   rcases hget i oi hi with h | ⟨_,rfl⟩
   ·exact .inl ⟨h,by simp⟩
   ·refine .inr ⟨hpos,hlens,by simp[o],fun g hg=>?_,fun g hg=>hg.elim,⟨fun _ _ _=>False,fun _ _ _ h=>h.elim,fun _ _ _ _ _ h=>h.elim,fun b hb cur' el l hcur' i x j e' s' ys hx hc=>?_⟩⟩
    ·simp only[o,Option.some.injEq] at hg
     subst hg
     refine⟨fun hF=>absurd (hr.FY _ hF) (Nat.lt_irrefl _),cur,heap_alloc_new w _,hsz,hle,hmax,fun i' x hx j c hc=>?_⟩
     obtain⟨u,h1,h2,_⟩:=hcells i' x hx j c hc
     exact⟨u,h1,hold _ _ h2⟩
    ·simp only[o,Option.some.injEq] at hb
     subst hb
     rw[heap_alloc_new w _] at hcur'
     cases hcur'
     obtain⟨u,h1,_,h3⟩:=hcells i x hx j _ hc
     exact⟨u,h1,I5 (fun _ h=>h.elim) (fun _ h=>h.elim) _ u (h3 _ _ _ rfl)⟩)
  (fun i j oi oj g hi hj hgi hgj=>by
   rcases hget i oi hi with h | ⟨h,rfl⟩ <;> rcases hget j oj hj with h' | ⟨h',rfl⟩
   ·exact hr.inj i j oi oj g h h' hgi hgj
   ·have:=hlt i oi g h hgi;have:=hown g hgj;omega
   ·have:=hlt j oj g h' hgj;have:=hown g hgi;omega
   ·omega)
  (fun o' ho' g hg=>by
   rcases List.mem_append.1 ho' with h | h
   ·exact .inr ⟨o',h,hg⟩
   ·simp only[List.mem_singleton] at h;subst h;exact .inl (by have:=hown g hg;omega))
  (by simp)
 refine⟨?_,this.2.1⟩
 have h1:=this.1
 rw[List.map_append,hr.st] at h1
 simpa using h1
def ZD:List AV→List AV→Prop
 | [],[]=>True
 | x :: r,y :: r'=>((x=y∧x.leaf=true)∨(x=.sl []∧∃el s,y=.dv el s []∧0 < s))∧ZD r r'
 | _,_=>False
theorem ZD.len :∀{xs ys:List AV},ZD xs ys→xs.length=ys.length
 | [],[],_=>rfl
 | x :: r,y :: r',h=>by simp[ZD.len h.2]
theorem ZD.get :∀{xs ys:List AV},ZD xs ys→∀(j:Nat) y,ys[j]?=some y→∃x,xs[j]?=some x∧((x=y∧x.leaf=true)∨(x=.sl []∧∃el s,y=.dv el s []∧0 < s))
 | [],[],_,j,y,h=>by simp at h
 | x :: r,y :: r',h,j,z,hz=>by
  cases j with
  | zero=>simp only[List.getElem?_cons_zero,Option.some.injEq] at hz;subst hz;exact⟨x,rfl,h.1⟩
  | succ j=>exact ZD.get h.2 j z (by simpa using hz)
theorem Uq {v:Value} (h:IP v=.sl []):v=.slice none 0 0:=by
 unfold IP at h
 split at h
 ·rfl
 ·unfold Jq at h
  split at h <;> cases h
theorem Vg {t:TypeId} {ei:Vy} {l c:AV} {ul uc:Value} {zd:List AV} {kl kc:IntKind} {n:Int} (hr:Rel F os s a w) (he:CF P t=some ei) (hzd:ZD ei.zero zd) (h0:0≤n) (hb:n * (ei.bytes:Int)≤281474976710656) (hm:n≤9223372036854775807) (el:l=.int kl n) (ec:c=.int kc n) (hl:Ao F w os l ul) (hc:Ao F w os c uc) :
  FK P k F os s a w (Instr.makeSlice t ul uc) (fun v st=>v=.own s.st.length 0 n.toNat∧st=s.st ++ [⟨0,ei.e,ei.size,List.replicate n.toNat zd⟩]):=by
 obtain⟨inf,z,hu,hi,hz,hzs,hpos,hsz,hby,hzero,hzl⟩:=GM he
 subst el;subst ec
 simp only[Ao] at hl hc
 subst hl;subst hc
 obtain⟨N,rfl⟩:=Int.eq_ofNat_of_zero_le h0
 simp only[Int.toNat_natCast]
 have hrun:=run_make (P:=P) w t ei.e inf z hu hi hz kl kc N N (by omega) (Int.le_refl _) (by rw[← hby,Int.mul_comm];omega) (by omega)
 simp only[Int.toNat_natCast] at hrun
 have hzl':zd.length=ei.size:=by rw[← hzd.len,hzero,hsz,← hzs];simp
 have:=hr.Y0 (k:=k) (cur:=madeCells z.cells (N * inf.size)) (e:=ei.e) (size:=ei.size) (cap:=N) (xs:=List.replicate N zd) (by omega)
  (fun x hx=>by
   rw[List.mem_replicate] at hx;rw[hx.2]
   refine⟨hzl',fun c hc=>?_⟩
   obtain⟨j,hj⟩:=List.mem_iff_getElem?.1 hc
   obtain⟨x,_,h⟩:=hzd.get j c hj
   rcases h with ⟨rfl,h⟩ | ⟨_,el,s,rfl,_⟩
   ·exact DZ h
   ·rfl) (by rw[size_madeCells,hsz]) (by simp) (by simp[maxLen];omega) (fun i x hx j c hc=>by
   rw[List.getElem?_replicate] at hx
   split at hx <;> simp only[Option.some.injEq,reduceCtorEq] at hx
   subst hx
   rename_i hiN
   have hjl:j < ei.size:=by rw[← hzl'];exact (List.getElem?_eq_some_iff.1 hc).1
   have hj2:j < z.cells.size:=by omega
   obtain⟨x0,hx0,hcase⟩:=hzd.get j c hc
   rw[hzero] at hx0
   simp only[List.getElem?_map,Array.getElem?_toList,Array.getElem?_eq_getElem hj2,Option.map_some,Option.some.injEq] at hx0
   refine⟨z.cells[j],?_,?_⟩
   ·have hlt:i * ei.size+j < N * inf.size:=by
     have:(i+1) * ei.size≤N * ei.size:=Nat.mul_le_mul_right _ hiN
     rw[Nat.add_mul] at this;rw[← hsz];omega
    have hmod:(i * ei.size+j) % z.cells.size=j:=by rw[hzs,← hsz,Nat.mul_comm,Nat.mul_add_mod];exact Nat.mod_eq_of_lt hjl
    simp[madeCells,hlt,hmod,hj2]
   ·rcases hcase with ⟨rfl,hlf⟩ | ⟨rfl,el,s,rfl,hs⟩
    ·rw[← hx0]
     refine⟨Io F w os _,fun e s ys e'=>?_⟩
     rw[hx0] at e';rw[e'] at hlf;simp[AV.leaf] at hlf
    ·have:=Uq hx0
     rw[this]
     refine⟨by simp only[Ao];exact⟨_,_,_,rfl⟩,fun e s' ys e'=>?_⟩
     simp only[Ch]
     exact⟨hs,.inl ⟨trivial,none,rfl⟩⟩)
 refine⟨_,_,_,_,_,⟨rfl,rfl⟩,hrun,this.1,?_,this.2⟩
 simp only[Ao]
 refine⟨⟨⟨0,ei.e,ei.size,List.replicate N zd⟩,some w.heap.size,N,EZ⟩,by rw[hr.len];simp,by simp,⟨_,_,_,rfl⟩,fun _=>⟨by simp,.inr ⟨_,rfl,rfl⟩⟩⟩
theorem AO.LM {ops:Array Oper} {Q:Exit→St→Prop} {ds:List (Option Tmp)} {r:List Oper} {o:Oper} {s s':St} (hgd:o.guard=none)
  (h :∀F os a w,Rel F os s a w→Dk s.n o.dst=true→∀(next:Act→World→Prop) (Q':Exit→Act→World→Prop),(∀a' w',Step k s.n F os w (·=s') a' w'→next a' w')→o.wp P a w next Q')
  (hk:AO P k ops Q (ds ++ [o.dst]) r s'):AO P k ops Q ds (o :: r) s:=by
 intro hl hds hdst F os a w hr Q' hQ
 have ho:ops[ds.length]?=some o:=by have:=hl 0;simpa using this.symm
 have hod:Dk s.n o.dst=true:=hdst o (by have:=List.mem_of_getElem? (l:=ops.toList) (i:=ds.length) (by simpa using ho);exact this)
 have hl' :∀(j:Nat),r[j]?=ops[(ds ++ [o.dst]).length+j]?:=fun j=>by
  have:=hl (j+1)
  simp only[List.getElem?_cons_succ] at this
  rw[this];congr 1;simp;omega
 have hds' :∀(j:Nat) d,(ds ++ [o.dst])[j]?=some d→(ops[j]?).map (·.dst)=some d:=fun j d hj=>by
  rcases Nat.lt_trichotomy j ds.length with h1 | h1 | h1
  ·rw[List.getElem?_append_left h1] at hj;exact hds j d hj
  ·subst h1;rw[Hf,Option.some.injEq] at hj;rw[ho];simp[hj]
  ·rw[List.getElem?_eq_none (by simp;omega)] at hj;cases hj
 unfold wpList
 have hw:Region.wanted o (yielded ops a.tmps)=true:=by unfold Region.wanted;rw[hgd]
 rw[if_pos hw]
 refine .inl (h F os a w hr hod _ _ ?_)
 rintro a' w' ⟨s2,F2,os2,hn2,rfl,hR2,hE2⟩
 exact hk hl' hds' (by rw[hn2];exact hdst) F2 os2 a' w' hR2 Q' fun _ _ _ hp=>hQ _ _ _ (hp.trans hE2)
section
variable {α : Type} {l : List α} {enc : α → List AV}
variable {ops : Array Oper} {Q : Exit → St → Prop} {ds : List (Option Tmp)} {r : List Oper} {n : Nat} {e : Nat → AV} {st st' : List Row} {ty : TypeId} {ps : String} {ed : Array Edge} {t : Tmp} {T : TypeId} {x y : Operand} {m bytes size : Nat} {el : TypeId} {zz : List AV} {u : α} {j : Int} {kk kk' : IntKind}
theorem LJ (he:CF P T=some ⟨el,size,bytes,zz⟩) (hx:St.ev ⟨n,e,st⟩ x=.int kk j) (hy:St.ev ⟨n,e,st⟩ y=.int kk' j) (hz:ZD zz (enc u)) (hl:Sh.mk u j bytes=some l) (hm:st.length=m) (hst:st ++ [⟨0,el,size,l.map enc⟩]=st')
  (hk:AO P k ops Q (ds ++ [some t]) r ⟨n,Ei e t (.own m 0 l.length),st'⟩):AO P k ops Q ds (⟨some t,.makeSlice T x y,ty,ps,ed,none⟩ :: r) ⟨n,e,st⟩:=by
 subst hm;subst hst
 unfold Sh.mk at hl
 split at hl
 case isFalse=>cases hl
 rename_i h
 simp only[Option.some.injEq] at hl
 subst hl
 refine AO.LM rfl (fun F os a w hr hd next Q' hn=>?_) hk
 obtain⟨v,st',u',w',os',⟨rfl,rfl⟩,h2,h3,h4,h5⟩:=Vg (k:=k) (ei:=⟨el,size,bytes,zz⟩) hr he hz h.1 h.2.1 h.2.2 hx hy (hr.ev x) (hr.ev y)
 unfold Oper.wp
 simp only[execOp,Sem.run_bind,h2,Result.andThen_ok,Sem.run_pure,Oper.upon]
 refine hn _ _ (J3 hd ?_ h3 h4 h5)
 simp[St.put,List.map_replicate]
end
end Go.Abs



namespace Go.Abs
open Go
variable {P : Program} {F : Nat → Prop} {os : List A9} {s : St} {a : Act} {w : World} {k : Nat}
theorem Wk.cm {id g size sz i j nn:Nat} {el el':TypeId} {xs:List (List AV)} {x:List AV} {e:Nat→AV} {st st':List Row} (hrow:st[id]?=some ⟨g,el,size,xs⟩) (hx:xs[i]?=some x) (hc:x[j]?=some .zc)
  (hs:0 < sz) (hst:st.set id ⟨g,el,size,xs.set i (x.set j (.dv el' sz []))⟩=st'):Wk k ⟨nn,e,st⟩ ⟨nn,e,st'⟩:=fun F os a w hr=>by
 subst hst
 obtain⟨o,ho,hor⟩:=hr.row hrow
 have hok:=hr.rows id o ho
 have hst:os.map A9.row=st:=hr.st
 have hxs:o.row.xs=xs:=by rw[hor]
 have hil:i < xs.length:=(List.getElem?_eq_some_iff.1 hx).1
 have hjl:j < x.length:=(List.getElem?_eq_some_iff.1 hc).1
 have hidl:=(List.getElem?_eq_some_iff.1 ho).1
 obtain⟨bo,hbo⟩ :∃b,o.EO=some b:=by
  cases hb:o.EO with
  | none=>have:=(hok.none hb).1;rw[hxs] at this;rw[this] at hil;simp at hil
  | some b=>exact⟨b,rfl⟩
 obtain⟨hnF,cur,hcur,hsz,hle,hmax,hcells⟩:=hok.some bo hbo
 obtain⟨D,d1,d2,d3⟩:=hok.deep
 obtain⟨uv,hu1,hu2⟩:=hcells i x (by rw[hxs];exact hx) j _ hc
 simp only[Ao] at hu2
 obtain⟨au,rfl⟩:=hu2
 let o':A9:={ o with row:={ o.row with xs:=xs.set i (x.set j (.dv el' sz [])) } }
 have hret :∀(hmono :∀y v,Ao F w os y v→Ao F w (os.set id o') y v),J1 F w (os.set id o') o':=fun hmono=>by
  refine⟨hok.pos,fun y hy=>?_,(fun hn=>by simp only[o'] at hn;rw[hbo] at hn;cases hn),fun b hb=>?_,hok.mo,?_⟩
  ·rcases List.mem_or_eq_of_mem_set hy with hy | rfl
   ·exact hok.lens y (by rw[hxs];exact hy)
   ·have h0:=hok.lens x (by rw[hxs];exact List.mem_of_getElem? hx)
    refine⟨by rw[List.length_set];exact h0.1,fun c hcm=>?_⟩
    rcases List.mem_or_eq_of_mem_set hcm with h | rfl
    ·exact h0.2 c h
    ·rfl
  ·simp only[o'] at hb
   rw[hbo] at hb;cases hb
   refine⟨hnF,cur,hcur,hsz,by simpa [o',hxs] using hle,hmax,fun i' y hy j' c hcy=>?_⟩
   simp only[o'] at hy ⊢
   by_cases hi:i'=i
   ·subst hi
    rw[List.getElem?_set_self hil,Option.some.injEq] at hy
    subst hy
    by_cases hj:j'=j
    ·subst hj
     rw[List.getElem?_set_self hjl,Option.some.injEq] at hcy
     subst hcy
     exact⟨_,hu1,by simp only[Ao];exact⟨_,_,_,rfl⟩⟩
    ·rw[List.getElem?_set_ne (Ne.symm hj)] at hcy
     obtain⟨u,f1,f2⟩:=hcells i' x (by rw[hxs];exact hx) j' c hcy
     exact⟨u,f1,hmono _ _ f2⟩
   ·rw[List.getElem?_set_ne (Ne.symm hi)] at hy
    obtain⟨u,f1,f2⟩:=hcells i' y (by rw[hxs];exact hy) j' c hcy
    exact⟨u,f1,hmono _ _ f2⟩
  ·refine⟨fun i' j' b=>if i'=i∧j'=j then False else D i' j' b,fun i' j' b hb=>?_,fun i1 j1 i2 j2 b h1 h2=>?_,fun b hb cur' el2 l hcur' i' y j' e2 s2 zs hy hcy=>?_⟩
   ·simp only at hb
    split at hb
    ·exact hb.elim
    ·exact d1 i' j' b hb
   ·simp only at h1 h2
    split at h1 <;> split at h2 <;> first | exact h1.elim | exact h2.elim | exact d2 _ _ _ _ _ h1 h2
   ·simp only[o'] at hb hy ⊢
    rw[hbo] at hb;cases hb
    rw[hcur] at hcur';cases hcur'
    by_cases hij:i'=i∧j'=j
    ·obtain⟨rfl,rfl⟩:=hij
     rw[List.getElem?_set_self hil,Option.some.injEq] at hy
     subst hy
     rw[List.getElem?_set_self hjl,Option.some.injEq] at hcy
     cases hcy
     refine⟨_,hu1,?_⟩
     simp only[Ch]
     exact⟨hs,.inl ⟨trivial,au,rfl⟩⟩
    ·have hold :∃y0,o.row.xs[i']?=some y0∧y0[j']?=some (.dv e2 s2 zs):=by
      rw[hxs]
      by_cases hi:i'=i
      ·subst hi
       rw[List.getElem?_set_self hil,Option.some.injEq] at hy
       subst hy
       have hj:j'≠j:=fun e=>hij ⟨rfl,e⟩
       rw[List.getElem?_set_ne (Ne.symm hj)] at hcy
       exact⟨x,hx,hcy⟩
      ·rw[List.getElem?_set_ne (Ne.symm hi)] at hy
       exact⟨y,hy,hcy⟩
     obtain⟨y0,hy0,hc0⟩:=hold
     obtain⟨u,f1,f2⟩:=d3 bo hbo cur _ _ hcur i' y0 j' e2 s2 zs hy0 hc0
     exact⟨u,f1,by simpa only[hij,if_false] using f2⟩
 have:=hr.LG (k:=k) (o':=o') ho (w':=w) (Hg w _) (Nat.le_refl _) rfl (fun _=>⟨rfl,rfl,by simp[o',hxs]⟩) (fun g hg=>.inl hg) hret
 refine⟨F,os.set id o',?_,this.2.1⟩
 have h1:=this.1
 simp only[o',hor] at h1 ⊢
 exact h1
variable {α β : Type} {l : List α} {enc : α → List AV}
theorem Wk.cX {id g size sz nn j:Nat} {el el':TypeId} {i:Int} {c:α} {x x':List AV} {e:Nat→AV} {st st':List Row} (hrow:st[id]?=some ⟨g,el,size,hole l enc i x⟩) (hi:Sh.get l i=some c) (hc:x[j]?=some .zc)
  (hs:0 < sz) (hx':x.set j (.dv el' sz [])=x') (hst:st.set id ⟨g,el,size,hole l enc i x'⟩=st'):Wk k ⟨nn,e,st⟩ ⟨nn,e,st'⟩:=by
 subst hst;subst hx'
 exact Wk.cm hrow (Gl hi) hc hs (by rw[TF])
theorem KC {id g size nn:Nat} {el:TypeId} {i:Int} {c:α} {x:List AV} {e:Nat→AV} {st st':List Row} (hrow:st[id]?=some ⟨g,el,size,hole l enc i x⟩) (hi:Sh.get l i=some c) (hx:x=enc c) (hst:st.set id ⟨g,el,size,l.map enc⟩=st'):Wk k ⟨nn,e,st⟩ ⟨nn,e,st'⟩:=by
 have h2:hole l enc i x=l.map enc:=by
  subst hx
  unfold hole
  have:=ER (enc:=enc) hi
  obtain⟨h1,h2⟩:=List.getElem?_eq_some_iff.1 this
  rw[← h2];exact List.set_getElem_self h1
 rw[h2] at hrow
 have:st.set id ⟨g,el,size,l.map enc⟩=st:=by
  obtain⟨h1,h2⟩:=List.getElem?_eq_some_iff.1 hrow
  rw[← h2];exact List.set_getElem_self h1
 rw[this] at hst
 exact DQ hst
end Go.Abs
namespace Go.Abs
open Go
theorem RM {α:Type} {l l':List α} {c:α} {b:Nat} (h:Sh.app l [c] b=some l'):Sh.get l' (Sh.len l)=some c:=by
 unfold Sh.app at h
 split at h
 ·simp only[Option.some.injEq] at h
  subst h
  unfold Sh.get Sh.len
  rw[if_pos (Int.natCast_nonneg _)]
  simp
 ·cases h
section
variable {P : Program} {k : Nat} {α : Type} {l l' : List α} {enc : α → List AV} {c : α}
variable {ops : Array Oper} {Q : Exit → St → Prop} {ds : List (Option Tmp)} {r : List Oper} {n : Nat} {e : Nat → AV} {st st' : List Row} {ty : TypeId} {ps : String} {ed : Array Edge} {t : Tmp} {gd : Option (Nat × Bool)} {T : TypeId} {x y : Operand} {bytes size id g m q gq size' : Nat} {el el' : TypeId} {zz cs : List AV}
theorem Tj (hg:GO ds gd e) (he:CF P T=some ⟨el,size,bytes,zz⟩) (hx:St.ev ⟨n,e,st⟩ x=.own id g m) (hr:st[id]?=some ⟨g,el,size,l.map enc⟩) (hm:m=l.length) (hy:St.ev ⟨n,e,st⟩ y=.own q gq 1) (hq:st[q]?=some ⟨gq,el',size',[cs]⟩)
  (hlf:cs.all AV.leaf=true) (hcs:cs.length=size) (ha:Sh.app l [c] bytes=some l') (hst:st.set id ⟨g+1,el,size,hole l' enc (Sh.len l) cs⟩=st') (hk:AO P k ops Q (ds ++ [some t]) r ⟨n,Ei e t (.own id (g+1) l'.length),st'⟩) :
  AO P k ops Q ds (⟨some t,.call ⟨.builtin .append,#[x,y],#[T,T]⟩,ty,ps,ed,gd⟩ :: r) ⟨n,e,st⟩:=by
 subst hst;subst hm
 refine Jj hg ?_
 rw[R9]
 refine⟨rfl,?_⟩
 rw[hx,hy]
 unfold Sh.app at ha
 split at ha
 ·rename_i h
  simp only[Option.some.injEq] at ha
  subst ha
  refine Aw _ he (Aw _ hq ⟨rfl,fun z hz c hc=>?_,fun z hz=>?_,Aw _ hr ⟨rfl,rfl,rfl,by simpa using h.1,by simpa using h.2,?_⟩⟩)
  ·simp only[List.mem_singleton] at hz
   subst hz
   exact List.all_eq_true.1 hlf c hc
  ·simp only[List.take_one,List.head?_cons,Option.toList_some,List.mem_singleton] at hz
   subst hz;exact hcs
  ·have e1:(l.map enc).take l.length=l.map enc:=by rw[← List.length_map (f:=enc) (as:=l),List.take_length]
   have e3:List.map enc l ++ [cs]=hole (l ++ [c]) enc (Sh.len l) cs:=by simp[hole,Sh.len]
   simp only[e1,List.take_one,List.head?_cons,Option.toList_some,e3,List.length_singleton]
   rw[show l.length+1=(l ++ [c]).length by simp]
   exact hk
 ·cases ha
end
end Go.Abs



namespace Go.Abs
open Go
variable {P : Program} {F : Nat → Prop} {os : List A9} {s : St} {a : Act} {w : World} {k : Nat}
def Jh (id g:Nat) (xs:List (List AV)):AV→AV
 | .own id' g' n=>if id'=id∧g'=g then (if n=xs.length then .sl (Hc xs) else .Eb) else .own id' g' n
 | v=>v
def Zz (id g:Nat) (xs:List (List AV)):AV→AV
 | .agg cs=>.agg (cs.map (Jh id g xs))
 | .BZ cs=>.BZ (cs.map (Jh id g xs))
 | v=>Jh id g xs v
theorem Wk.YM {id:Nat} {row:Row} (hid:k≤id) (hrow:s.st[id]?=some row) (hp:Pk row.xs) :
  Wk k s ⟨s.n,fun t=>Zz id row.gen row.xs (s.env t),s.st.set id { row with gen:=row.gen+1,xs:=[] }⟩:=fun F os a w hr=>by
 obtain⟨o,ho,rfl⟩:=hr.row hrow
 have hok:=hr.rows id o ho
 refine⟨fun b=>F b∨o.Bm b,os.set id ⟨{ o.row with gen:=o.row.gen+1,xs:=[] },none,0,EZ⟩,?_,?_⟩
 case refine_2=>
  refine⟨rfl,rfl,rfl,Nat.le_refl _,fun _ h=>.inl h,fun _ _=>rfl,fun b _ h1 h2=>⟨rfl,fun h=>h.elim h1 (fun e=>h2 o (List.mem_of_getElem? ho) e),fun o' ho'=>?_⟩,fun i oi hi hoi=>⟨oi,?_,Nat.le_refl _,rfl,fun _=>⟨rfl,rfl,rfl⟩⟩⟩
  ·rcases List.mem_or_eq_of_mem_set ho' with h | rfl
   ·exact h2 o' h
   ·intro hh
    rcases hh with hh | hh
    ·simp at hh
    ·exact hh
  ·rw[List.getElem?_set_ne (by omega)];exact hoi
 have hF :∀b,F b→(fun b=>F b∨o.Bm b) b:=fun _ h=>.inl h
 have hos:Ex os (os.set id ⟨{ o.row with gen:=o.row.gen+1,xs:=[] },none,0,EZ⟩):=Ex.set ho (by simp) rfl (fun e=>by simp at e)
 have hmono :∀x v,Ao F w os x v→Ao (fun b=>F b∨o.Bm b) w (os.set id ⟨{ o.row with gen:=o.row.gen+1,xs:=[] },none,0,EZ⟩) x v:=fun x v h=>
  DN hF (fun _ _=>rfl) os _ hos x v h
 have h1 :∀x v,Ao F w os x v→Ao (fun b=>F b∨o.Bm b) w (os.set id ⟨{ o.row with gen:=o.row.gen+1,xs:=[] },none,0,EZ⟩) (Jh id o.row.gen o.row.xs x) v:=fun x v h=>by
  cases x with
  | own id' g' n=>
   simp only[Jh]
   split
   ·rename_i hif
    obtain⟨rfl,rfl⟩:=hif
    split
    ·rename_i hn0
     subst hn0
     simp only[Ao] at h
     obtain⟨o',ho',_,_,h⟩:=h
     rw[ho] at ho';cases ho'
     obtain⟨_,hv⟩:=h rfl
     have hD:=QU hok hp (v:=v) hv
     have:=(Pd (F:=fun b=>F b∨o.Bm b) (fun b hb=>.inr hb) _ _ hD).1
     simp only[Ln,Ao] at this ⊢
     exact this
    ·simp[Ao]
   ·exact hmono _ _ h
  | _=>exact hmono _ _ h
 have hL :∀xs us,BR F w os xs us→BR (fun b=>F b∨o.Bm b) w (os.set id ⟨{ o.row with gen:=o.row.gen+1,xs:=[] },none,0,EZ⟩) (xs.map (Jh id o.row.gen o.row.xs)) us:=fun xs us h=>
  Cx (by simp[BH h]) fun i x u hx hu=>by
   simp only[List.getElem?_map,Option.map_eq_some_iff] at hx
   obtain⟨y,hy,rfl⟩:=hx
   obtain⟨u',e1,e2⟩:=Bc h i y hy
   rw[hu] at e1;cases e1
   exact h1 _ _ e2
 have hget :∀(i:Nat) (oi:A9),(os.set id ⟨{ o.row with gen:=o.row.gen+1,xs:=[] },none,0,EZ⟩)[i]?=some oi→(i≠id∧os[i]?=some oi)∨(i=id∧oi=⟨{ o.row with gen:=o.row.gen+1,xs:=[] },none,0,EZ⟩):=fun i oi hi=>by
  by_cases e:i=id
  ·subst e;rw[List.getElem?_set_self (List.getElem?_eq_some_iff.1 ho).1,Option.some.injEq] at hi;exact .inr ⟨rfl,hi.symm⟩
  ·rw[List.getElem?_set_ne (Ne.symm e)] at hi;exact .inl ⟨e,hi⟩
 refine⟨by rw[List.map_set,hr.st],fun t=>?_,hr.size,fun i oi hi=>?_,fun i j oi oj b hi hj hbi hbj=>?_,fun b hb=>?_,hr.defers⟩
 ·have:=hr.env t
  simp only
  generalize s.env t=x at this ⊢
  cases x with
  | agg cs=>simp only[Zz,Ao] at this ⊢;obtain⟨us,e,h⟩:=this;exact⟨us,e,hL _ _ h⟩
  | BZ cs=>simp only[Zz,Ao] at this ⊢;obtain⟨us,e,h⟩:=this;exact⟨us,e,hL _ _ h⟩
  | _=>exact h1 _ _ this
 ·rcases hget i oi hi with ⟨hne,h⟩ | ⟨_,rfl⟩
  ·have hoki:=hr.rows i oi h
   refine⟨hoki.pos,hoki.lens,hoki.none,fun b hb=>?_,fun b hb=>⟨fun hF=>hF.elim (hoki.mo b hb).1 (fun hob=>hne (hr.inj i id oi o b h ho (.inr hb) hob)),(hoki.mo b hb).2⟩,hoki.deep⟩
   obtain⟨e1,cur,e2,e3,e4,e5,e6⟩:=hoki.some b hb
   refine⟨fun hF=>hF.elim e1 (fun hob=>hne (hr.inj i id oi o b h ho (.inl hb) hob)),cur,e2,e3,e4,e5,fun i' x hx j c hc=>?_⟩
   obtain⟨u,f1,f2⟩:=e6 i' x hx j c hc
   exact⟨u,f1,hmono _ _ f2⟩
  ·exact⟨hok.pos,by simp,by simp,by simp,fun b hb=>hb.elim,FM (by simp)⟩
 ·rcases hget i oi hi with ⟨hne,h⟩ | ⟨h,rfl⟩ <;> rcases hget j oj hj with ⟨hne',h'⟩ | ⟨h',rfl⟩
  ·exact hr.inj i j oi oj b h h' hbi hbj
  ·exact hbj.elim (fun e=>by simp at e) fun e=>e.elim
  ·exact hbi.elim (fun e=>by simp at e) fun e=>e.elim
  ·omega
 ·rcases hb with hb | hb | hb
  ·exact hr.FY b hb
  ·obtain⟨_,cur,hcur,_⟩:=hok.some b hb
   exact (Array.getElem?_eq_some_iff.1 hcur).1
  ·exact (hok.mo b hb).2.1
variable {α : Type} {l : List α} {enc enc' : α → List AV} {n id g m size : Nat} {e : Nat → AV} {st st' : List Row} {L : List (Nat × AV)} {el : TypeId} {xs : List (List AV)}
theorem Vd (h:m=l.length) (hu :∀x,FZ (enc x)=enc' x):Jh id g (l.map enc) (.own id g m)=.sl (l.map enc'):=by
 subst h
 simp only[Jh,and_self,if_true,List.length_map]
 rw[F3,List.map_map]
 congr 1
 exact List.map_congr_left fun x _=>hu x
theorem le.Jh (h:m=l.length) (hu :∀x,FZ (enc x)=enc' x):le (Abs.Jh id g (l.map enc) (.own id g m)) (.sl (l.map enc')):=le.of (Vd h hu)
theorem GQ (h :∀x,(enc x).all Mk=true):Pk (l.map enc):=fun x hx c hc=>by
 obtain⟨y,_,rfl⟩:=List.mem_map.1 hx
 exact List.all_eq_true.1 (h y) c hc
theorem I6 (hrow:st[id]?=some ⟨g,el,size,xs⟩) (hid:k≤id) (hp:Pk xs) (h:ME (fun t=>Abs.Zz id g xs (e t)) L) (hst:st.set id ⟨g+1,el,size,[]⟩=st'):Wk k ⟨n,e,st⟩ ⟨n,Ad L,st'⟩:=by
 subst hst
 exact (Wk.YM (s:=⟨n,e,st⟩) hid hrow hp).trans (AF h)
end Go.Abs



namespace Go.Abs
open Go
variable {P : Program} {F : Nat → Prop} {os : List A9} {s : St} {a : Act} {w : World} {k : Nat}
section
variable {P : Program} {ops : Array Oper} {Q : Exit → St → Prop} {n N f i : Nat} {listed listed' : Array Bool} {e : Nat → AV} {ty : TypeId} {p : String} {ed : Array Edge} {t : Tmp} {α : Type} {l l2 l' : List α} {enc : α → List AV} {x y : Operand} {g m size bytes : Nat} {el : TypeId} {zz : List AV} {T : TypeId} {rst : List Row} {k : Nat}
theorem AR (h:listed=listed') {s:St} (ha:AX P k ops Q N f listed s):AX P k ops Q N f listed' s:=h ▸ ha
theorem NT {s:St} (h :∀A:Nat→Array Bool→St→Prop,(∀f l s,A f l s↔AX P k ops Q N f l s)→A f listed s):AX P k ops Q N f listed s:=
 h (AX P k ops Q N) (fun _ _ _=>Iff.rfl)
end
section
variable {P : Program} {ds : List (Option Tmp)} {r : List Oper} {KS : St → Prop} {n : Nat} {e : Nat → AV} {st : List Row} {ty : TypeId} {ps : String} {ed : Array Edge} {t : Tmp} {gd : Option (Nat × Bool)} {α : Type} {l l' : List α} {enc : α → List AV} {x : Operand} {size bytes : Nat} {el T : TypeId} {zz : List AV}
theorem Yg {lo hi:Option Operand} {i j:Int} (hg:GO ds gd e) (he:CF P T=some ⟨el,size,bytes,zz⟩) (hx:St.ev ⟨n,e,st⟩ x=.sl (l.map enc)) (h1:Pz (lo.map (St.ev ⟨n,e,st⟩)) 0=some i) (h2:Pz (hi.map (St.ev ⟨n,e,st⟩)) l.length=some j) (hs :∀a,(enc a).length=size) (hl:Sh.sl l i j=some l')
  (hk:Cc P (ds ++ [some t]) r KS ⟨n,Ei e t (.sl (l'.map enc)),st⟩):Cc P ds (⟨some t,.slice T x lo hi none,ty,ps,ed,gd⟩ :: r) KS ⟨n,e,st⟩:=by
 refine Xl hg rfl (fun s0 e1 e2 hd k F os a w hr next Q hn=>?_) hk
 refine NP (k:=k) (K:=(·=s0.put (some t) (.sl (l'.map enc)))) hr hd ?_ hn
 show RF P s0.st T (s0.ev x) (lo.map s0.ev) (hi.map s0.ev) (Option.map s0.ev none) (fun v st=>({ s0 with st:=st }:St).put (some t) v=s0.put (some t) (.sl (l'.map enc)))
 have ex:s0.ev x=St.ev ⟨n,e,st⟩ x:=e2 x (by simp[Op.operands])
 have elo:lo.map s0.ev=lo.map (St.ev ⟨n,e,st⟩):=by
  cases lo with
  | none=>rfl
  | some y=>simp only[Option.map_some];rw[e2 y (by simp[Op.operands])]
 have ehi:hi.map s0.ev=hi.map (St.ev ⟨n,e,st⟩):=by
  cases hi with
  | none=>rfl
  | some y=>simp only[Option.map_some];rw[e2 y (by simp[Op.operands])]
 rw[ex,elo,ehi,hx]
 unfold Sh.sl at hl
 split at hl
 ·rename_i h
  simp only[Option.some.injEq] at hl
  subst hl
  refine Aw _ he (Aw _ h1 (Aw _ (by rw[List.length_map];exact h2) ⟨h.1,h.2.1,by simpa using h.2.2,fun z hz=>?_,?_⟩))
  ·obtain⟨q,_,rfl⟩:=List.mem_map.1 hz;exact hs q
  ·rw[List.map_drop,List.map_take]
 ·cases hl
end
end Go.Abs



namespace Go.Abs
open Go
section
variable {P : Program} {k : Nat} {ops : Array Oper} {Q : Exit → St → Prop} {ds : List (Option Tmp)} {r : List Oper} {n : Nat} {e : Nat → AV} {st st' : List Row} {ty : TypeId} {p : String} {ed : Array Edge} {t : Tmp} {x y : Operand} {size bytes m : Nat} {el T Tn : TypeId} {zz : List AV} {α : Type} {enc : α → List AV} {u : α} {l' : List α} {kk : IntKind} {j : Int} {v : AV} {o : Oper}
theorem Vh (hn:o.guard=none) (h :∀F os a w,Rel F os ⟨n,e,st⟩ a w→∃z w' F' os',(execOp a.eval o).run P w=.ok (.value z) w'∧Rel F' os' ⟨n,e,st'⟩ a w'∧Ao F' w' os' v z∧Ext F os w F' os' w' k)
  (hk:AO P k ops Q (ds ++ [o.dst]) r (St.put ⟨n,e,st'⟩ o.dst v)):AO P k ops Q ds (o :: r) ⟨n,e,st⟩:=by
 intro hl hds hdst F os a w hr Q' hQ
 have ho:ops[ds.length]?=some o:=by have:=hl 0;simpa using this.symm
 have hod:Dk n o.dst=true:=hdst o (by have:=List.mem_of_getElem? (l:=ops.toList) (i:=ds.length) (by simpa using ho);exact this)
 have hl' :∀(j:Nat),r[j]?=ops[(ds ++ [o.dst]).length+j]?:=fun j=>by
  have:=hl (j+1)
  simp only[List.getElem?_cons_succ] at this
  rw[this];congr 1;simp;omega
 have hds' :∀(j:Nat) d,(ds ++ [o.dst])[j]?=some d→(ops[j]?).map (·.dst)=some d:=fun j d hj=>by
  rcases Nat.lt_trichotomy j ds.length with h1 | h1 | h1
  ·rw[List.getElem?_append_left h1] at hj;exact hds j d hj
  ·subst h1;rw[Hf,Option.some.injEq] at hj;rw[ho];simp[hj]
  ·rw[List.getElem?_eq_none (by simp;omega)] at hj;cases hj
 obtain⟨z,w',F',os',h1,h2,h3,h4⟩:=h F os a w hr
 unfold wpList
 rw[if_pos (by unfold Region.wanted;rw[hn])]
 refine .inl ?_
 unfold Oper.wp
 rw[h1]
 simp only[Oper.upon]
 refine hk hl' hds' (by cases o.dst <;> exact hdst) F' os' _ w' (h2.put hod h3) Q' fun _ _ _ hp=>hQ _ _ _ (hp.trans h4)
theorem Uy (hs:CI P T=true) (hx:St.ev ⟨n,e,st⟩ x=.zc) (hk:AO P k ops Q (ds ++ [some t]) r ⟨n,Ei e t (i64 0),st⟩) :
  AO P k ops Q ds (⟨some t,.call ⟨.builtin .cap,#[x],#[T]⟩,ty,p,ed,none⟩ :: r) ⟨n,e,st⟩:=by
 refine Vh rfl (st':=st) (v:=i64 0) (fun F os a w hr=>?_) hk
 have h1:=hr.ev x
 rw[hx] at h1
 simp only[Ao] at h1
 obtain⟨ad,h1⟩:=h1
 unfold CI at hs
 split at hs
 case h_2=>cases hs
 rename_i el hu
 refine⟨.int .i64 0,w,F,os,?_,hr,by simp[Ao],C9 _ _ _ _⟩
 simp only[execOp,resolve,invoke,builtin,Sem.run_bind,Sem.run_pure,Result.andThen_ok,List.map_toArray,List.map_cons,List.map_nil,h1,Builtin.cap_]
 simp[run_underlying hu,goInt]
theorem Zk {hi:Option Operand} (he:CF P T=some ⟨el,size,bytes,zz⟩) (hx:St.ev ⟨n,e,st⟩ x=.zc) (h2:Pz (hi.map (St.ev ⟨n,e,st⟩)) 0=some 0)
  (hk:AO P k ops Q (ds ++ [some t]) r ⟨n,Ei e t .zc,st⟩):AO P k ops Q ds (⟨some t,.slice T x none hi none,ty,p,ed,none⟩ :: r) ⟨n,e,st⟩:=by
 refine Jj Ah ?_
 rw[QD]
 simp only[Option.map_none]
 rw[hx]
 exact Aw _ he (Aw _ rfl (Aw _ h2 ⟨rfl,rfl,hk⟩))
theorem ZE {kn:IntKind} (he:CF P T=some ⟨el,size,bytes,zz⟩) (hn:P.underlying Tn=some (.int kn)) (hx:St.ev ⟨n,e,st⟩ x=.zc) (hy:St.ev ⟨n,e,st⟩ y=.int kk j) (h0:decide (0 < j)=true) (hz:enc u=zz) (hj:Sh.mk u j bytes=some l') (hm:st.length=m) (hst:st ++ [⟨0,el,size,l'.map enc⟩]=st')
  (hk:AO P k ops Q (ds ++ [some t]) r ⟨n,Ei e t (.own m 0 l'.length),st'⟩):AO P k ops Q ds (⟨some t,.call ⟨.builtin .append,#[x,y],#[T,Tn]⟩,ty,p,ed,none⟩ :: r) ⟨n,e,st⟩:=by
 subst hm;subst hst;subst hz
 unfold Sh.mk at hj
 split at hj
 case isFalse=>cases hj
 rename_i hbd
 simp only[Option.some.injEq] at hj
 subst hj
 refine Vh rfl (st':=st ++ [(⟨0,el,size,(List.replicate j.toNat u).map enc⟩:Row)]) (v:=.own st.length 0 (List.replicate j.toNat u).length) (fun F os a w hr=>?_) hk
 have h1:=hr.ev x
 rw[hx] at h1
 simp only[Ao] at h1
 obtain⟨ad,h1⟩:=h1
 have h2:=hr.ev y
 rw[hy] at h2
 simp only[Ao] at h2
 obtain⟨inf,z,hu,hi,hz,hzs,hpos,hsz,hby,hzz,hlf⟩:=GM he
 dsimp only at hu hi hzs hpos hsz hby hzz hlf
 have hj0:0 < j:=of_decide_eq_true h0
 obtain⟨q,rfl⟩:=Int.eq_ofNat_of_zero_le (Int.le_of_lt hj0)
 rw[Int.toNat_natCast]
 have hq0:0 < q:=by omega
 have hq48:q * inf.bytes≤281474976710656:=by
  have h9:((q * bytes:Nat):Int)≤281474976710656:=by rw[Int.natCast_mul];exact hbd.2.1
  rw[← hby];omega
 have hold:(Builtin.firstCells inf.size 0 (.slice ad 0 0)).run P w.drew=.ok ([]:List Value).toArray w.drew:=by
  cases ad with
  | none=>exact run_firstCells_none w.drew inf.size 0 0 0
  | some ad=>exact run_firstCells_some w.drew inf.size 0 ad 0 0 [] (by simp) (by simp)
 have hfit:Builtin.nextslicecap (0+q) 0 * inf.bytes≤281474976710656:=by rw[Nat.zero_add,nextslicecap_zero hq0];exact hq48
 have hrun:=Lib.run_append_grow_zeros (P:=P) w T Tn ty el inf z kk kn hu hn hi hz ad 0 0 [] hold q hq0 (by omega) (by omega) (by omega) hq48 hfit
 rw[Nat.zero_add] at hrun
 have hge:=grownCap_ge w q 0 el
 have hle:=grownCap_le_maxLen w q 0 el (by unfold maxLen;omega)
 have hzc :∀i,i < z.cells.size→∃c',z.cells[i]?=some c':=fun i hi=>⟨_,Array.getElem?_eq_getElem hi⟩
 have hadd:=hr.NQ (k:=k) (.inr rfl) (cur:=([]:List Value).toArray ++ Builtin.zeroCells z.cells q ++ Builtin.zeroCells z.cells (grownCap w q 0 el - q)) (e:=el) (size:=size) (cap:=grownCap w q 0 el) (xs:=(List.replicate q u).map enc)
  (by omega) (fun x hx=>by
   rw[List.map_replicate] at hx
   rw[List.eq_of_mem_replicate hx,hzz]
   refine⟨by simp[hzs,hsz],fun c hc=>hlf c (by rw[hzz];exact hc)⟩)
  (by
   simp only[Array.size_append,List.size_toArray,List.length_nil,size_zeroCells,hzs,hsz,Nat.zero_add,← Nat.add_mul]
   congr 1;omega)
  (by rw[List.length_map,List.length_replicate];omega) hle (fun i x hx jj c hc=>by
   rw[List.map_replicate] at hx
   have hi:i < q:=by
    have:=(List.getElem?_eq_some_iff.1 hx).1
    simpa using this
   have hx':x=enc u:=List.eq_of_mem_replicate (List.mem_of_getElem? hx)
   subst hx'
   rw[hzz] at hc
   simp only[List.getElem?_map,Option.map_eq_some_iff,Array.getElem?_toList] at hc
   obtain⟨c',hc1,rfl⟩:=hc
   have hjl:jj < z.cells.size:=(Array.getElem?_eq_some_iff.1 hc1).1
   refine⟨c',?_,Io F w os c'⟩
   have hlt:i * size+jj < q * size:=by
    have:(i+1) * size≤q * size:=Nat.mul_le_mul_right _ hi
    rw[Nat.add_mul] at this
    omega
   rw[Array.append_assoc,show (([]:List Value).toArray ++ (Builtin.zeroCells z.cells q ++ Builtin.zeroCells z.cells (grownCap w q 0 el - q)))=(Builtin.zeroCells z.cells q ++ Builtin.zeroCells z.cells (grownCap w q 0 el - q)) by simp]
   rw[Array.getElem?_append_left (by rw[size_zeroCells,hzs,← hsz];exact hlt)]
   unfold Builtin.zeroCells
   rw[Array.getElem?_map,Array.getElem?_range]
   rw[if_pos (by rw[hzs,← hsz];exact hlt)]
   simp only[Option.map_some,Option.some.injEq]
   have hmod:(i * size+jj) % z.cells.size=jj:=by
    rw[hzs,← hsz,Nat.mul_comm,Nat.mul_add_mod]
    exact Nat.mod_eq_of_lt (by omega)
   rw[hmod]
   simp[Array.getElem!_eq_getD,Array.getD,hjl,(Array.getElem?_eq_some_iff.1 hc1).2])
 refine⟨.slice (some ⟨w.heap.size,0,none⟩) q (grownCap w q 0 el),_,F,_,?_,hadd.1,?_,hadd.2.1⟩
 ·simp only[execOp,resolve,invoke,builtin,Sem.run_bind,Sem.run_pure,Result.andThen_ok,List.map_toArray,List.map_cons,List.map_nil,h1,h2]
  rw[hrun]
  simp
 ·simp only[Ao]
  have hlen:st.length=os.length:=hr.len
  exact⟨_,by rw[hlen];exact Hf _ _,Nat.le_refl _,⟨_,_,_,rfl⟩,fun _=>⟨by simp,.inr ⟨_,rfl,by simp⟩⟩⟩
end
section
variable {P : Program} {ds : List (Option Tmp)} {r : List Oper} {KS : St → Prop} {n : Nat} {e : Nat → AV} {st : List Row} {ty : TypeId} {ps : String} {ed : Array Edge} {t : Tmp} {gd : Option (Nat × Bool)} {α : Type} {l : List α} {enc : α → List AV} {u : α} {x y : Operand} {size bytes : Nat} {el T : TypeId} {zz : List AV} {kk kk' : IntKind} {j : Int}
theorem dp (hg:GO ds gd e) (he:CF P T=some ⟨el,size,bytes,zz⟩) (hx:St.ev ⟨n,e,st⟩ x=.int kk j) (hy:St.ev ⟨n,e,st⟩ y=.int kk' j) (hz:enc u=zz) (hl:Sh.mk u j bytes=some l) (hpu:Fi (l.map enc))
  (hk:Cc P (ds ++ [some t]) r KS ⟨n,Ei e t (.sl (l.map enc)),st⟩):Cc P ds (⟨some t,.makeSlice T x y,ty,ps,ed,gd⟩ :: r) KS ⟨n,e,st⟩:=by
 subst hz
 refine Xl hg rfl (fun s0 e1 e2 hd k F os a w hr next Q hn=>?_) hk
 have ex:s0.ev x=.int kk j:=(e2 x (by simp[Op.operands])).trans hx
 have ey:s0.ev y=.int kk' j:=(e2 y (by simp[Op.operands])).trans hy
 have hxr:=hr.ev x
 have hyr:=hr.ev y
 rw[ex] at hxr
 rw[ey] at hyr
 unfold Sh.mk at hl
 split at hl
 case isFalse=>cases hl
 rename_i h
 simp only[Option.some.injEq] at hl
 subst hl
 have h9:FK P 0 F [] ⟨s0.n,fun _=>.Eb,[]⟩ a w (Instr.makeSlice T (a.eval x) (a.eval y)) (fun z st=>z=.own 0 0 (List.replicate j.toNat u).length∧st=[⟨0,el,size,(List.replicate j.toNat u).map enc⟩]):=by
  refine Sr (l:=.int kk j) (c:=.int kk' j) hr.bare (Aw _ he ⟨rfl,h.1,h.2.1,h.2.2,?_⟩) (GL (x:=.int kk j) rfl [] hxr) (GL (x:=.int kk' j) rfl [] hyr)
  simp
 obtain⟨u',w',F',g1,g2,g3,g4⟩:=Iz (k:=k) hr h9 (OL hpu) rfl
 unfold Oper.wp
 simp only[execOp,Sem.run_bind,g1,Result.andThen_ok,Sem.run_pure,Oper.upon]
 exact hn _ _ (J3 (st':=s0.st) hd rfl g2 g3 g4)
end
section
variable {P : Program} {k : Nat} {ops : Array Oper} {Q : Exit → St → Prop} {ds : List (Option Tmp)} {r : List Oper} {n : Nat} {e : Nat → AV} {st st' : List Row} {ty : TypeId} {p : String} {ed : Array Edge} {t : Tmp} {x y : Operand} {size bytes m : Nat} {el T : TypeId} {zz : List AV} {kk kk' : IntKind} {c : Nat}
theorem Va {α:Type} {u:α} {l':List α} {j:Int} (he:CF P T=some ⟨el,size,bytes,zz⟩) (hx:St.ev ⟨n,e,st⟩ x=.int kk 0) (hy:St.ev ⟨n,e,st⟩ y=.int kk' j) (hj:Sh.mk u j bytes=some l') (hm:st.length=m) (hst:st ++ [⟨0,el,size,[]⟩]=st')
  (hk:AO P k ops Q (ds ++ [some t]) r ⟨n,Ei e t (.own m 0 0),st'⟩):AO P k ops Q ds (⟨some t,.makeSlice T x y,ty,p,ed,none⟩ :: r) ⟨n,e,st⟩:=by
 subst hm;subst hst
 unfold Sh.mk at hj
 split at hj
 case isFalse=>cases hj
 rename_i hb0
 obtain⟨c,rfl⟩:=Int.eq_ofNat_of_zero_le hb0.1
 have hbd:c * bytes≤281474976710656∧c≤9223372036854775807:=by
  have h9:((c * bytes:Nat):Int)≤281474976710656:=by rw[Int.natCast_mul];exact hb0.2.1
  have h8:=hb0.2.2
  omega
 refine Vh rfl (st':=st ++ [(⟨0,el,size,[]⟩:Row)]) (v:=.own st.length 0 0) (fun F os a w hr=>?_) hk
 have h1:=hr.ev x
 rw[hx] at h1
 simp only[Ao] at h1
 have h2:=hr.ev y
 rw[hy] at h2
 simp only[Ao] at h2
 obtain⟨inf,z,hu,hi,hz,hzs,hpos,hsz,hby,hzz,hlf⟩:=GM he
 dsimp only at hu hi hzs hpos hsz hby hzz hlf
 have hrun:=run_make (P:=P) w T el inf z hu hi hz kk kk' 0 (c:Int) (by omega) (by omega) (by rw[← hby,← Int.natCast_mul,Nat.mul_comm];omega) (by omega)
 have hadd:=hr.NQ (k:=k) (.inl rfl) (cur:=madeCells z.cells (c * inf.size)) (e:=el) (size:=size) (cap:=c) (xs:=[]) (by omega) (by simp) (by rw[size_madeCells,hsz]) (by simp) (by simp[maxLen];omega) (by simp)
 refine⟨.slice (some ⟨w.heap.size,0,none⟩) 0 c,_,F,_,?_,hadd.1,?_,hadd.2.1⟩
 ·simp only[execOp,Sem.run_bind,Sem.run_pure,Result.andThen_ok,h1,h2]
  rw[hrun]
  simp
 ·simp only[Ao]
  have hlen:st.length=os.length:=hr.len
  exact⟨_,by rw[hlen];exact Hf _ _,Nat.le_refl _,⟨_,_,_,rfl⟩,fun _=>⟨by simp,.inr ⟨_,rfl,by simp⟩⟩⟩
end
end Go.Abs



namespace RC
open Go Go.Abs
structure Ac where
 params:List Int
 At:List Int
 result:Int
 body:Block
noncomputable def AT (r:Ac):List AV:=[.sl (r.params.map eI),.sl (r.At.map eI),.int .i64 r.result,.sl (r.body.steps.map Al),.int .i64 r.body.result]
structure Aj where
 decls:List Ag
 AD:List Ac
noncomputable def TL (p:Aj):List AV:=[.sl (p.decls.map AG),.sl (p.AD.map AT)]
end RC



namespace RC
open Go Go.Abs
theorem MW {α:Type} {l:List α} {enc enc':α→List AV} (h :∀x,FZ (enc x)=enc' x):Hc (l.map enc)=l.map enc':=by
 rw[F3,List.map_map]
 exact List.map_congr_left fun x _=>h x
theorem TZ (n:Int):FZ (eI n)=eI n:=rfl
end RC



namespace RC
open Go Go.Abs
end RC



namespace RC
open Go Go.Abs
def BD (a:Nat) (c:BO):List AV:=[.dv a 1 (c.fields.map eI)]
theorem U1 {a:Nat} (c:BO):FZ (BD a c)=Ar c:=by
 simp only[BD,FZ,Ln,MW TZ,Ar]
def Ab (a b:Nat) (d:Ag):List AV:=[.int .i64 d.from_,.int .i64 d.to,.dv a 1 (d.cons.map (BD b))]
theorem Eh {a b:Nat} (d:Ag):FZ (Ab a b d)=AG d:=by
 simp only[Ab,FZ,Ln,MW U1,AG]
end RC



namespace Go.Abs
open Go
variable {P : Program} {n : Nat} {e : Nat → AV} {st : List Row} {t : Tmp} {ty : TypeId} {ps : String} {ed : Array Edge} {x : Operand}
theorem Rp {id g i off off' el size j f:Nat} {tt:TypeId} {xs:List (List AV)} (hf:G6 P tt f=some j) (h:St.ev ⟨n,e,st⟩ x=.ptr id g i off) (hrow:st[id]?=some ⟨g,el,size,xs⟩) (hl:off+j≤size) (ho:off+j=off'):OI P ⟨n,e,st⟩ ⟨some t,.fieldAddr tt x f,ty,ps,ed,none⟩ (.ptr id g i off'):=
 ⟨rfl,fun F os a w hr=>by
  subst ho
  have h1:=hr.ev x
  rw[h] at h1
  unfold G6 at hf
  split at hf <;> try (cases hf;done)
  rename_i fs hu
  split at hf <;> try (cases hf;done)
  rename_i g1 hg
  split at hf <;> try (cases hf;done)
  rename_i i1 hi
  split at hf
  ·cases hf
  rename_i hz
  simp only[Option.some.injEq] at hf
  have hrun :∀b off w',(Instr.fieldAt tt (.pointer (some ⟨b,off,none⟩)) f).run P w'=.ok (.pointer (some ⟨b,off+j,none⟩)) w':=fun b off w'=>by
   simp[Instr.fieldAt,run_underlying hu,hg,Instr.sureAddr,fieldPlace,sizeOf,typeInfo,hi,hz,CZ,hf]
  obtain⟨ow,how,hrw⟩:=hr.row hrow
  simp only[Ao] at h1
  obtain⟨o',ho',hge,_,hv⟩:=h1
  rw[how] at ho';cases ho'
  have hgg:ow.row.gen=g:=by rw[hrw]
  obtain⟨h2,h3,b,hb,e2⟩:=hv hgg
  refine⟨.pointer (some ⟨b,i * ow.row.size+off+j,none⟩),fun w'=>?_,?_⟩
  ·simp[execOp,e2,hrun]
  ·simp only[Ao]
   exact⟨ow,how,hge,⟨_,rfl⟩,fun _=>⟨h2,by rw[hrw];exact hl,b,hb,by rw[Nat.add_assoc]⟩⟩⟩
end Go.Abs



namespace Go.Abs
open Go
def SF (F:Nat→Prop) (w:World):World→Prop:=fun w'=>∀b,F b→w'.heap[b]?=w.heap[b]?
section
variable {P : Program} {k : Nat} {ops : Array Oper} {Q : Exit → St → Prop} {N f i : Nat} {listed listed' : Array Bool} {s s' : St} {o : Oper}
def AY (P:Program) (k:Nat) (ops:Array Oper) (Q:Exit→St→Prop) (N f:Nat) (listed:Array Bool) (s:St):Prop:=
 s.n=N∧∀F0 os0 w0 F os a w,Rel F os s a w→Ext F0 os0 w0 F os w k→wpAnyH P .any ops (LR k Q F0 os0 w0) (SF F0 w0) f listed a w
def KG (P:Program) (k:Nat) (ops:Array Oper) (Q:Exit→St→Prop) (N f:Nat) (listed:Array Bool) (s:St) (i:Nat):Prop:=
 ∀F0 os0 w0 F os a w,Rel F os s a w→Ext F0 os0 w0 F os w k→wpOp P ops (LR k Q F0 os0 w0) i (fun a' w'=>SF F0 w0 w'∧wpAnyH P .any ops (LR k Q F0 os0 w0) (SF F0 w0) f (listed.setIfInBounds i true) a' w') a w
def YX (P:Program) (k:Nat) (ops:Array Oper) (Q:Exit→St→Prop) (N f:Nat) (listed:Array Bool) (s:St):List Nat→Prop
 | []=>True
 | i :: r=>KG P k ops Q N f listed s i∧YX P k ops Q N f listed s r
theorem YX.get :∀{l:List Nat},YX P k ops Q N f listed s l→∀i∈l,KG P k ops Q N f listed s i
 | j :: r,h,i,hi=>by
  rcases List.mem_cons.1 hi with rfl | hi
  ·exact h.1
  ·exact YX.get h.2 i hi
theorem FF (rs:List Nat) (hn:s.n=N) (hr:Region.ready .any ops listed=rs) (hne:rs≠[]) (h:YX P k ops Q N f listed s rs):AY P k ops Q N (f+1) listed s:=
 ⟨hn,fun F0 os0 w0 F os a w hrel he=>wpAnyH_all hr hne fun i hi=>h.get i hi F0 os0 w0 F os a w hrel he⟩
theorem AY.done (hn:s.n=N) (hr:Region.ready .any ops listed=[]) (h:Q .normal s):AY P k ops Q N f listed s:=
 ⟨hn,fun _ _ _ F os a w hrel he=>wpAnyH_done hr ⟨s,F,os,⟨rfl,h⟩,hrel,he⟩ f⟩
theorem Bq (hw:Wk k s s') (h:AY P k ops Q N f listed s') (hn:s.n=N):AY P k ops Q N f listed s:=
 ⟨hn,fun F0 os0 w0 F os a w hrel he=>by
  obtain⟨F1,os1,h1,e1⟩:=hw F os a w hrel
  exact h.2 F0 os0 w0 F1 os1 a w h1 (he.trans e1)⟩
theorem DM (h:listed=listed') (ha:AY P k ops Q N f listed s):AY P k ops Q N f listed' s:=h ▸ ha
theorem AY.one (h :∀A:Nat→Array Bool→St→Prop,(∀f l s,A f l s↔AY P k ops Q N f l s)→A f listed s):AY P k ops Q N f listed s:=
 h (AY P k ops Q N) (fun _ _ _=>Iff.rfl)
theorem KG.of (ho:ops[i]?=some o) (hg:PK o i=true) (hd:(ops.toList.all fun o=>Dk s.n o.dst)=true)
  (h:AO P k (ops.extract 0 (i+1)) (fun e s'=>e=.normal∧AY P k ops Q N f (listed.setIfInBounds i true) s') ((ops.toList.take i).map (·.dst)) [o] s):KG P k ops Q N f listed s i:=by
 intro F0 os0 w0 F os a w hrel he
 have hi:i < ops.size:=(Array.getElem?_eq_some_iff.1 ho).1
 have hex :∀j,(ops.extract 0 (i+1))[j]?=if j < i+1 then ops[j]? else none:=fun j=>by
  rw[Array.getElem?_extract]
  split <;> split <;> simp_all <;> omega
 have h1:=h (fun j=>by
   have hlen:((ops.toList.take i).map (·.dst)).length=i:=by simp;omega
   rw[hlen,hex]
   cases j with
   | zero=>simp[ho]
   | succ j=>rw[if_neg (by omega)];simp) (fun j d hj=>by
   simp only[List.getElem?_map,List.getElem?_take] at hj
   split at hj
   ·rw[hex,if_pos (by omega)];simpa using hj
   ·cases hj) (fun o' ho'=>by
   obtain⟨j,hj⟩:=List.mem_iff_getElem?.1 ho'
   rw[Array.getElem?_toList,hex] at hj
   split at hj
   ·exact List.all_eq_true.1 hd o' (List.mem_of_getElem? (i:=j) (by simpa using hj))
   ·cases hj) F os a w hrel (fun e a' w'=>e=.normal∧SF F0 w0 w'∧wpAnyH P .any ops (LR k Q F0 os0 w0) (SF F0 w0) f (listed.setIfInBounds i true) a' w') (by
   rintro e a' w' ⟨s',F',os',⟨rfl,hax⟩,hr',he'⟩
   exact⟨rfl,(he.trans he').H4,hax.2 F0 os0 w0 F' os' a' w' hr' (he.trans he')⟩)
 have hy:Region.wanted o (yielded (ops.extract 0 (i+1)) a.tmps)=Region.wanted o (yielded ops a.tmps):=by
  unfold Region.wanted
  unfold PK at hg
  cases hgd:o.guard with
  | none=>rfl
  | some p=>
   obtain⟨j,want⟩:=p
   rw[hgd] at hg
   simp only[decide_eq_true_eq] at hg
   simp only[yielded,hex,if_pos hg]
 unfold wpList at h1
 unfold wpOp
 simp only[ho]
 rw[hy] at h1
 split at h1
 ·rename_i hw
  rw[if_pos hw]
  rcases h1 with h1 | ⟨_,a1,w1,h1,_⟩
  ·refine .inl (Oper.wp_mono (fun a' w' h'=>?_) (O8 (fun c a' w' h'=>?_) (fun h'=>?_) h1))
   ·exact h'.2
   ·exact nomatch h'.1
   ·obtain⟨_,_,h2,_⟩:=h';exact nomatch h2
  ·exact nomatch h1
 ·rename_i hw
  rw[if_neg hw]
  exact h1.2
theorem AY.hoist (i:Nat) {v:AV} (hn:s.n=N) (ho:ops[i]?=some o) (hs:Region.noSelect ops=true) (hf:Region.free .any ops listed i=true) (hr:(Region.ready .any ops listed).contains i=true) (hd:Dk s.n o.dst=true) (hh:OI P s o v)
  (h:AY P k ops Q N f (listed.setIfInBounds i true) (s.put o.dst v)):AY P k ops Q N (f+1) listed s:=
 ⟨hn,fun F0 os0 w0 F os a w hrel he=>by
  obtain⟨hg,hh⟩:=hh
  obtain⟨u,hu,hv⟩:=hh F os a w hrel
  refine wpAnyH_take ho hs hf hr (fun c a w ⟨_,_,_,hp,_⟩=>nomatch hp.1) (.inl ⟨by unfold Region.wanted;rw[hg],fun w' _=>hu w'⟩) he.H4 ?_
  exact h.2 F0 os0 w0 F os _ w (hrel.put hd hv) he⟩
def AZ (P:Program) (k:Nat) (ops:Array Oper) (Q:Exit→St→Prop) (N f:Nat) (listed:Array Bool) (s:St):Prop:=
 s.n=N∧∀F os a w,Rel F os s a w→wpAnyH P .any ops (LR k Q F os w) (SF F w) f listed a w
theorem AZ.st {f':Nat} (hf:f=f') (hl:listed=listed') (h:AZ P k ops Q N f' listed' s):AZ P k ops Q N f listed s:=hf ▸ hl ▸ h
theorem AZ.on (h:AY P k ops Q N f listed s):AZ P k ops Q N f listed s:=
 ⟨h.1,fun F os a w hr=>h.2 F os w F os a w hr (C9 F os w k)⟩
theorem AW.cG {id:Nat} (hm:P.follows .mixedOrders=true) (h:AZ P k ops Q s.n ops.size (Array.replicate ops.size false) s):AW P k (.region id ops true) Q s:=by
 intro F os a w hr
 obtain⟨hr1,he1⟩:=hr.drew (k:=k)
 refine wp_mono (wp_region_held hm (h.2 F os a w.drew hr1)) ?_
 rintro e a' w' ⟨s',F',os',⟨rfl,hq⟩,h1,h2⟩
 exact⟨s',F',os',hq,h1,he1.trans h2⟩
def Q9 (P:Program) (s:St) (o:Oper) (v:AV):Prop:=
 o.guard=none∧∀F os a w,Rel F os s a w→∃u,(∀w',SF F w w'→(execOp a.eval o).run P w'=.ok (.value u) w')∧Ao F w os v u
theorem I9 {v:AV} (h:OI P s o v):Q9 P s o v:=⟨h.1,fun F os a w hr=>let ⟨u,h1,h2⟩:=h.2 F os a w hr;⟨u,fun w' _=>h1 w',h2⟩⟩
theorem Eu (i:Nat) {v:AV} (hn:s.n=N) (ho:ops[i]?=some o) (hs:Region.noSelect ops=true) (hf:Region.free .any ops listed i=true) (hr:(Region.ready .any ops listed).contains i=true) (hd:Dk s.n o.dst=true) (hh:Q9 P s o v)
  (h:AZ P k ops Q N f (listed.setIfInBounds i true) (s.put o.dst v)):AZ P k ops Q N (f+1) listed s:=
 ⟨hn,fun F os a w hrel=>by
  obtain⟨hg,hh⟩:=hh
  obtain⟨u,hu,hv⟩:=hh F os a w hrel
  refine wpAnyH_take ho hs hf hr (fun c a w ⟨_,_,_,hp,_⟩=>nomatch hp.1) (.inl ⟨by unfold Region.wanted;rw[hg],hu⟩) (fun _ _=>rfl) ?_
  exact h.2 F os _ w (hrel.put hd hv)⟩
end
section
variable {P : Program} {n : Nat} {e : Nat → AV} {st : List Row} {t : Tmp} {ty : TypeId} {ps : String} {ed : Array Edge} {x : Operand}
theorem Lm {off off' j f:Nat} {tt:TypeId} {cs:List AV} (hf:G6 P tt f=some j) (h:St.ev ⟨n,e,st⟩ x=.BF cs off) (ho:off+j=off'):OI P ⟨n,e,st⟩ ⟨some t,.fieldAddr tt x f,ty,ps,ed,none⟩ (.BF cs off'):=
 ⟨rfl,fun F os a w hr=>by
  subst ho
  have h1:=hr.ev x
  rw[h] at h1
  unfold G6 at hf
  split at hf <;> try (cases hf;done)
  rename_i fs hu
  split at hf <;> try (cases hf;done)
  rename_i g1 hg
  split at hf <;> try (cases hf;done)
  rename_i i1 hi
  split at hf
  ·cases hf
  rename_i hz
  simp only[Option.some.injEq] at hf
  have hrun :∀b off w',(Instr.fieldAt tt (.pointer (some ⟨b,off,none⟩)) f).run P w'=.ok (.pointer (some ⟨b,off+j,none⟩)) w':=fun b off w'=>by
   simp[Instr.fieldAt,run_underlying hu,hg,Instr.sureAddr,fieldPlace,sizeOf,typeInfo,hi,hz,CZ,hf]
  simp only[Ao] at h1
  obtain⟨b,o',e2,hb,hc⟩:=h1
  refine⟨.pointer (some ⟨b,o' + off+j,none⟩),fun w'=>?_,?_⟩
  ·simp[execOp,e2,hrun]
  ·simp only[Ao]
   exact⟨b,o',by rw[Nat.add_assoc],hb,hc⟩⟩
theorem OS {off sz:Nat} {tt:TypeId} {cs:List AV} {c:AV} (hti:CP P tt=some (false,sz)) (h:St.ev ⟨n,e,st⟩ x=.BF cs off) (hc:cs[off]?=some c):Q9 P ⟨n,e,st⟩ ⟨some t,.load tt x,ty,ps,ed,none⟩ c:=
 ⟨rfl,fun F os a w hr=>by
  have h1:=hr.ev x
  rw[h] at h1
  simp only[Ao] at h1
  obtain⟨b,o',e2,hb,hcs⟩:=h1
  obtain⟨d,i,hud,hi,e1,e3⟩:=JO hti
  obtain⟨u,hu1,hu2,hu3⟩:=JE (os:=os) hcs off c hc
  refine⟨u,fun w' hw'=>?_,hu3⟩
  have hag:=LU (w:=w') hud
  rw[← e1] at hag
  have hcell:w'.cell? ⟨b,o' + off,none⟩=some u:=by rw[← hu1];exact World.cell?_of_block (hw' b hb)
  simp[execOp,e2,Instr.loadAt,Instr.sureAddr,loadVar,hag,hcell]⟩
theorem QO {off sz:Nat} {tt:TypeId} {cs:List AV} {c:AV} (hti:CP P tt=some (true,sz)) (h:St.ev ⟨n,e,st⟩ x=.BF cs off) (hl:off+sz≤cs.length) (hc:.agg ((cs.drop off).take sz)=c):Q9 P ⟨n,e,st⟩ ⟨some t,.load tt x,ty,ps,ed,none⟩ c:=
 ⟨rfl,fun F os a w hr=>by
  subst hc
  have h1:=hr.ev x
  rw[h] at h1
  simp only[Ao] at h1
  obtain⟨b,o',e2,hb,hcs⟩:=h1
  obtain⟨d,i,hud,hi,e1,e3⟩:=JO hti
  have hx:=JE (os:=os) hcs
  have hch :∃f:Nat→Value,∀j,j < sz→w.cell? ((⟨b,o' + off,none⟩:Addr).add j)=some (f j)∧∀c,cs[off+j]?=some c→Ao F w os c (f j):=
   ⟨fun j=>(w.cell? ((⟨b,o' + off,none⟩:Addr).add j)).getD undef,fun j hj=>by
    have hlt:off+j < cs.length:=by omega
    obtain⟨u,hu1,_,hu2⟩:=hx (off+j) cs[off+j] (List.getElem?_eq_getElem hlt)
    have hu1':w.cell? ((⟨b,o' + off,none⟩:Addr).add j)=some u:=by rw[CZ,← hu1,Nat.add_assoc]
    simp only[hu1',Option.getD_some]
    refine⟨trivial,fun c hc=>?_⟩
    rw[List.getElem?_eq_getElem hlt,Option.some.injEq] at hc
    exact hc ▸ hu2⟩
  obtain⟨f,hf⟩:=hch
  refine⟨.agg ((List.range sz).map f).toArray,fun w' hw'=>?_,?_⟩
  ·have hag:=LU (w:=w') hud
   rw[← e1] at hag
   have hsz:(sizeOf tt).run P w'=.ok i.size w':=by simp[sizeOf,typeInfo,hi]
   have hlc:=run_loadCells (P:=P) w' ⟨b,o' + off,none⟩ sz f (fun j hj=>by
    rw[← (hf j hj).1,CZ]
    exact World.cell?_of_block (hw' b hb))
   simp only at e3
   simp[execOp,e2,Instr.loadAt,Instr.sureAddr,loadVar,hag,hsz,← e3,hlc]
  ·simp only[Ao]
   refine⟨_,rfl,Cx (by simp;omega) fun j c u hc hu=>?_⟩
   simp only[List.getElem?_take,List.getElem?_drop] at hc
   split at hc
   ·rename_i hj
    simp only[List.getElem?_map,List.getElem?_range hj,Option.map_some,Option.some.injEq] at hu
    subst hu
    exact (hf j hj).2 c hc
   ·cases hc⟩
end
section
variable {P : Program} {k : Nat} {α : Type} {l : List α} {enc : α → List AV}
variable {ops : Array Oper} {Q : Exit → St → Prop} {ds : List (Option Tmp)} {r : List Oper} {n : Nat} {e : Nat → AV} {st st' : List Row} {ty : TypeId} {ps : String} {ed : Array Edge} {v : AV} {gd : Option (Nat × Bool)} {T : TypeId} {x y : Operand} {ag : Bool} {sz id g size off : Nat} {el : TypeId} {cs cs' : List AV} {c : α} {i : Int}
theorem Zn (hg:GO ds gd e) (ht:CP P T=some (ag,sz)) (hx:St.ev ⟨n,e,st⟩ x=.ptr id g i.toNat off) (hr:st[id]?=some ⟨g,el,size,l.map enc⟩) (hi:Sh.get l i=some c) (hv:St.ev ⟨n,e,st⟩ y=v) (hc:Ih v=some cs) (hn:cs.length=sz) (hle:off+cs.length≤size)
  (hsp:FW (enc c) off cs=cs') (hst:st.set id ⟨g,el,size,hole l enc i cs'⟩=st') (hk:AO P k ops Q (ds ++ [none]) r ⟨n,e,st'⟩):AO P k ops Q ds (⟨none,.store T x y,ty,ps,ed,gd⟩ :: r) ⟨n,e,st⟩:=by
 refine A3 hg ht hx hr (ER hi) hv hc hn (by omega) ?_ hk
 rw[← hst,hsp];rfl
end
end Go.Abs



namespace RC
open Go Go.Abs
noncomputable def Am (x y z:Nat) (s:Step):List AV:=
 Step.rec (motive_1:=fun _=>List AV) (motive_2:=fun _=>List (List AV)) (motive_3:=fun _=>List AV) (motive_4:=fun _=>List (List AV))
  (fun o n i a _ ks=>[.int .i64 o,.int .i64 n,.int .i64 i,.dv x 1 (a.map eI),.dv y 2 ks])
  [] (fun _ _ b bs=>b :: bs) (fun _ r ss=>[.dv z 5 ss,.int .i64 r]) [] (fun _ _ s ss=>s :: ss) s
noncomputable def A0 (x y z:Nat) (b:Block):List AV:=[.dv z 5 (b.steps.map (Am x y z)),.int .i64 b.result]
theorem TY (x y z:Nat) (ks:List Block) :
  Step.rec_1 (motive_1:=fun _=>List AV) (motive_2:=fun _=>List (List AV)) (motive_3:=fun _=>List AV) (motive_4:=fun _=>List (List AV))
  (fun o n i a _ ks=>[.int .i64 o,.int .i64 n,.int .i64 i,.dv x 1 (a.map eI),.dv y 2 ks])
  [] (fun _ _ b bs=>b :: bs) (fun _ r ss=>[.dv z 5 ss,.int .i64 r]) [] (fun _ _ s ss=>s :: ss) ks=ks.map (A0 x y z):=by
 have key :∀ss:List Step,Step.rec_3 (motive_1:=fun _=>List AV) (motive_2:=fun _=>List (List AV)) (motive_3:=fun _=>List AV) (motive_4:=fun _=>List (List AV))
  (fun o n i a _ ks=>[.int .i64 o,.int .i64 n,.int .i64 i,.dv x 1 (a.map eI),.dv y 2 ks])
  [] (fun _ _ b bs=>b :: bs) (fun _ r ss=>[.dv z 5 ss,.int .i64 r]) [] (fun _ _ s ss=>s :: ss) ss=ss.map (Am x y z):=by
  intro ss
  induction ss with
  | nil=>rfl
  | cons s ss ih=>exact congrArg (Am x y z s :: ·) ih
 induction ks with
 | nil=>rfl
 | cons b ks ih=>
  obtain⟨ss,r⟩:=b
  exact (congrArg (· :: _) (congrArg (fun x=>[AV.dv z 5 x,AV.int .i64 r]) (key ss))).trans (congrArg (A0 x y z ⟨ss,r⟩ :: ·) ih)
theorem DX {x y z:Nat} (s:Step):Am x y z s=[.int .i64 s.op,.int .i64 s.num,.int .i64 s.Ax,.dv x 1 (s.args.map eI),.dv y 2 (s.kids.map (A0 x y z))]:=by
 obtain⟨o,n,i,a,k⟩:=s
 exact congrArg (fun q=>[AV.int .i64 o,.int .i64 n,.int .i64 i,.dv x 1 (a.map eI),.dv y 2 q]) (TY x y z k)
theorem BQ {x y z:Nat} (s:Step):(Am x y z s).all EF=true:=by rw[DX];rfl
theorem HO {x y z:Nat} (s:Step):(Am x y z s).all Mk=true:=by rw[DX];rfl
theorem Uz {x y z:Nat} (s:Step):(Am x y z s).length=5:=by rw[DX];rfl
mutual
theorem QX {x y z:Nat} :∀s:Step,FZ (Am x y z s)=Al s
 | .mk o n i a k=>by
  rw[DX,Bw]
  simp only[FZ,Ln,Step.op,Step.num,Step.Ax,Step.args,Step.kids,MW TZ,Nv k]
theorem Nv {x y z:Nat} :∀l:List (E8 Step),Hc (l.map (A0 x y z))=l.map A2
 | []=>rfl
 | b :: l=>by simp only[List.map_cons,Hc,Tc b,Nv l]
theorem Tc {x y z:Nat} :∀b:E8 Step,FZ (A0 x y z b)=A2 b
 | ⟨ss,r⟩=>by
  show FZ [.dv z 5 (ss.map (Am x y z)),.int .i64 r]=[.sl (ss.map Al),.int .i64 r]
  simp only[FZ,Ln,Oq ss]
theorem Oq {x y z:Nat} :∀l:List Step,Hc (l.map (Am x y z))=l.map Al
 | []=>rfl
 | s :: l=>by simp only[List.map_cons,Hc,QX s,Oq l]
end
noncomputable def AM (a b x y z:Nat) (r:Ac):List AV:=[.dv a 1 (r.params.map eI),.dv b 1 (r.At.map eI),.int .i64 r.result,.dv z 5 (r.body.steps.map (Am x y z)),.int .i64 r.body.result]
theorem Da {a b x y z:Nat} (r:Ac):FZ (AM a b x y z r)=AT r:=by
 simp only[AM,FZ,Ln,MW TZ,MW QX,AT]
end RC


namespace RC
def Fh (p0:(List Int)) (p1:Int):Option (Int):=
 if (decide ((Sh.w (p1 - (Sh.len p0))) < 0))=true then
  some (-1)
 else
  some (Sh.w (p1 - (Sh.len p0)))
def D2 (p0:(List Int)):Nat→Int→(List Int)→Option ((List Int))
 | 0,_,_=>none
 | n+1,i6,l7=>
  if (decide (i6 < (Sh.len p0)))=true then
   Option.bind (Sh.get p0 i6) fun c15=>
   Option.bind (Sh.get l7 i6) fun c16=>
   D2 p0 n (Sh.w (i6+1)) (Sh.put l7 i6 c15)
  else
   some l7
def Fa (N:Nat) (p0:(List Int)):Option ((List Int)):=
 Option.bind (Sh.mk 0 (Sh.len p0) 8) fun l3=>
 Option.bind (D2 p0 N 0 l3) fun l8=>
 some l8
def BT (p0:Int) (p1:Int) (p2:Int):Option (Bool):=
 Option.bind (
  if (decide (p1≤p0))=true then
   some (decide (p0≤p2))
  else
   some false
 ) fun t3=>
 some t3
def QG (p0:(List Int)):Nat→Int→Option ((Bool) ⊕ (Unit))
 | 0,_=>none
 | n+1,i4=>
  if (decide (i4 < (Sh.len p0)))=true then
   Option.bind (Sh.get p0 i4) fun c12=>
   if (!decide (c12=0))=true then
    some (Sum.inl false)
   else
    QG p0 n (Sh.w (i4+1))
  else
   some (Sum.inr ())
def Be (p0:(List Int)):Option ((List Int)):=
 Option.bind (Sh.app ([]:List Int) p0 8) fun l6=>
 some l6
def D6 (p0:(List Int)) (p1:(List Int)):Nat→Int→Option ((Bool) ⊕ (Unit))
 | 0,_=>none
 | n+1,i10=>
  if (decide (i10 < (Sh.len p0)))=true then
   Option.bind (Sh.get p0 i10) fun c18=>
   Option.bind (Sh.get p1 i10) fun c19=>
   if (!decide (c18=c19))=true then
    some (Sum.inl false)
   else
    D6 p0 p1 n (Sh.w (i10+1))
  else
   some (Sum.inr ())
def Fg (N:Nat) (p0:(List Int)) (p1:(List Int)):Option (Bool):=
 if (!decide ((Sh.len p0)=(Sh.len p1)))=true then
  some false
 else
  Sh.cont (D6 p0 p1 N 0) (id) fun ()=>
  some true
end RC


namespace RC
def JL (p0:BO) (p1:Int):Option (Int):=
 Option.bind (Fh p0.fields p1) fun q3=>
 if (decide (q3 < 0))=true then
  some (-1)
 else
  some q3
def EU (p0:(List BO)):Nat→Int→Int→Option ((Int) ⊕ (Int))
 | 0,_,_=>none
 | n+1,left9,i10=>
  if (decide (i10 < (Sh.len p0)))=true then
   Option.bind (Sh.get p0 i10) fun c19=>
   Option.bind (JL c19 left9) fun q20=>
   if (decide (q20 < 0))=true then
    some (Sum.inl (-1))
   else
    EU p0 n q20 (Sh.w (i10+1))
  else
   some (Sum.inr left9)
def IS (N:Nat) (p0:(List BO)) (p1:Int):Option (Int):=
 if (decide ((Sh.w (p1 - (Sh.len p0))) < 0))=true then
  some (-1)
 else
  Sh.cont (EU p0 N (Sh.w (p1 - (Sh.len p0))) 0) (id) fun left11=>
  some left11
def IY (N:Nat) (p0:Ag) (p1:Int):Option (Int):=
 Option.bind (IS N p0.cons p1) fun q3=>
 if (decide (q3 < 0))=true then
  some (-1)
 else
  some q3
def ED (N:Nat) (p0:(List Ag)):Nat→Int→Int→Option ((Int) ⊕ (Int))
 | 0,_,_=>none
 | n+1,left9,i10=>
  if (decide (i10 < (Sh.len p0)))=true then
   Option.bind (Sh.get p0 i10) fun c19=>
   Option.bind (IY N c19 left9) fun q20=>
   if (decide (q20 < 0))=true then
    some (Sum.inl (-1))
   else
    ED N p0 n q20 (Sh.w (i10+1))
  else
   some (Sum.inr left9)
def He (N:Nat) (p0:(List Ag)) (p1:Int):Option (Int):=
 if (decide ((Sh.w (p1 - (Sh.len p0))) < 0))=true then
  some (-1)
 else
  Sh.cont (ED N p0 N (Sh.w (p1 - (Sh.len p0))) 0) (id) fun left11=>
  some left11
def JP (N:Nat) (p0:BO):Option (BO):=
 Option.bind (Fa N p0.fields) fun q4=>
 some (BO.mk q4)
def EV (N:Nat) (p0:(List BO)):Nat→Int→(List BO)→Option ((List BO))
 | 0,_,_=>none
 | n+1,i6,l7=>
  if (decide (i6 < (Sh.len p0)))=true then
   Option.bind (Sh.get p0 i6) fun c15=>
   Option.bind (JP N c15) fun q16=>
   Option.bind (Sh.get l7 i6) fun c17=>
   EV N p0 n (Sh.w (i6+1)) (Sh.put l7 i6 q16)
  else
   some l7
def IT (N:Nat) (p0:(List BO)):Option ((List BO)):=
 Option.bind (Sh.mk (BO.mk []) (Sh.len p0) 24) fun l3=>
 Option.bind (EV N p0 N 0 l3) fun l8=>
 some l8
def IV (N:Nat) (p0:Ag):Option (Ag):=
 Option.bind (IT N p0.cons) fun q6=>
 some (Ag.mk p0.from_ p0.to q6)
def EA (N:Nat) (p0:(List Ag)):Nat→Int→(List Ag)→Option ((List Ag))
 | 0,_,_=>none
 | n+1,i6,l7=>
  if (decide (i6 < (Sh.len p0)))=true then
   Option.bind (Sh.get p0 i6) fun c15=>
   Option.bind (IV N c15) fun q16=>
   Option.bind (Sh.get l7 i6) fun c17=>
   EA N p0 n (Sh.w (i6+1)) (Sh.put l7 i6 q16)
  else
   some l7
def Hh (N:Nat) (p0:(List Ag)):Option ((List Ag)):=
 Option.bind (Sh.mk (Ag.mk 0 0 []) (Sh.len p0) 40) fun l3=>
 Option.bind (EA N p0 N 0 l3) fun l8=>
 some l8
def Dl (p0:(List Ag)) (p1:(List Int)):Nat→Int→Option ((Bool) ⊕ (Unit))
 | 0,_=>none
 | n+1,i4=>
  if (decide (i4 < (Sh.len p1)))=true then
   Option.bind (Sh.get p1 i4) fun c12=>
   Option.bind (BT c12 0 (Sh.len p0)) fun q13=>
   if (!q13)=true then
    some (Sum.inl false)
   else
    Dl p0 p1 n (Sh.w (i4+1))
  else
   some (Sum.inr ())
def F4 (N:Nat) (p0:(List Ag)) (p1:(List Int)):Option (Bool):=
 Sh.cont (Dl p0 p1 N 0) (id) fun ()=>
 some true
def DU (N:Nat) (c3:Ag) (p0:(List Ag)):Nat→Int→Option ((Bool) ⊕ (Unit))
 | 0,_=>none
 | n+1,i15=>
  if (decide (i15 < (Sh.len c3.cons)))=true then
   Option.bind (
    Option.bind (Sh.get c3.cons i15) fun c27=>
    if (decide (3 < (Sh.len c27.fields)))=true then
     some true
    else
     Option.bind (F4 N p0 c27.fields) fun q29=>
     some (!q29)
   ) fun t23=>
   if t23=true then
    some (Sum.inl false)
   else
    DU N c3 p0 n (Sh.w (i15+1))
  else
   some (Sum.inr ())
def DW (c3:Ag) (p0:(List Ag)) (p1:Int):Nat→Int→Option ((Bool) ⊕ (Unit))
 | 0,_=>none
 | n+1,i34=>
  if (decide (i34 < p1))=true then
   Option.bind (
    Option.bind (Sh.get p0 i34) fun c51=>
    if (decide ((Sh.len c51.cons)=0))=true then
     if (decide (c51.from_=c3.from_))=true then
      some (decide (c51.to=c3.to))
     else
      some false
    else
     some false
   ) fun t47=>
   if t47=true then
    some (Sum.inl false)
   else
    DW c3 p0 p1 n (Sh.w (i34+1))
  else
   some (Sum.inr ())
def Gj (N:Nat) (p0:(List Ag)) (p1:Int):Option (Bool):=
 Option.bind (Sh.get p0 p1) fun c3=>
 if (decide (0 < (Sh.len c3.cons)))=true then
  Option.bind (
   if (decide (3 < (Sh.len c3.cons)))=true then
    some true
   else
   if (!decide (c3.from_=0))=true then
    some true
   else
    some (!decide (c3.to=0))
  ) fun t9=>
  if t9=true then
   some false
  else
   Sh.cont (DU N c3 p0 N 0) (id) fun ()=>
   some true
 else
  Sh.cont (DW c3 p0 p1 N 0) (id) fun ()=>
  Option.bind (
   Option.bind (BT c3.from_ 0 (Sh.len p0)) fun q39=>
   if q39=true then
    Option.bind (BT c3.to 0 (Sh.len p0)) fun q41=>
    some q41
   else
    some false
  ) fun t37=>
  some t37
def C5 (N:Nat) (p0:(List Ag)):Nat→Int→Option ((Bool) ⊕ (Unit))
 | 0,_=>none
 | n+1,i8=>
  if (decide (i8 < (Sh.len p0)))=true then
   Option.bind (Gj N p0 i8) fun q16=>
   if (!q16)=true then
    some (Sum.inl false)
   else
    C5 N p0 n (Sh.w (i8+1))
  else
   some (Sum.inr ())
def Fz (N:Nat) (p0:(List Ag)):Option (Bool):=
 if (decide (4 < (Sh.len p0)))=true then
  some false
 else
  Sh.cont (C5 N p0 N 0) (id) fun ()=>
  some true
def Cu (N:Nat) (p0:Co):Nat→Int→Option ((Bool) ⊕ (Unit))
 | 0,_=>none
 | n+1,i10=>
  if (decide (i10 < (Sh.len p0.funcs)))=true then
   Option.bind (Sh.get p0.funcs i10) fun c22=>
   Option.bind (
    if (decide (3 < (Sh.len c22.params)))=true then
     some true
    else
     Option.bind (F4 N p0.decls c22.params) fun q29=>
     if (!q29)=true then
      some true
     else
      Option.bind (BT c22.result 0 (Sh.len p0.decls)) fun q31=>
      some (!q31)
   ) fun t24=>
   if t24=true then
    some (Sum.inl false)
   else
    Cu N p0 n (Sh.w (i10+1))
  else
   some (Sum.inr ())
def Gk (N:Nat) (p0:Co):Option (Bool):=
 Option.bind (
  Option.bind (Fz N p0.decls) fun q32=>
  if (!q32)=true then
   some true
  else
   Option.bind (BT (Sh.len p0.funcs) 1 4) fun q34=>
   some (!q34)
 ) fun t4=>
 if t4=true then
  some false
 else
  Sh.cont (Cu N p0 N 0) (id) fun ()=>
  Option.bind (
   Option.bind (Sh.get p0.funcs 0) fun c15=>
   if (decide ((Sh.len c15.params)=0))=true then
    some (decide (c15.result=0))
   else
    some false
  ) fun t13=>
  some t13
def DS (p0:(List Int)) (p1:(List Int)):Nat→Int→Option ((Bool) ⊕ (Unit))
 | 0,_=>none
 | n+1,i4=>
  if (decide (i4 < (Sh.len p1)))=true then
   Option.bind (
    Option.bind (Sh.get p1 i4) fun c16=>
    Option.bind (BT c16 0 (Sh.w ((Sh.len p0) - 1))) fun q17=>
    if (!q17)=true then
     some true
    else
     Option.bind (Sh.get p0 c16) fun c19=>
     if (decide (c19=0))=true then
      some true
     else
     if (decide (0 < i4))=true then
      Option.bind (Sh.get p1 (Sh.w (i4 - 1))) fun c22=>
      some (decide (c16≤c22))
     else
      some false
   ) fun t12=>
   if t12=true then
    some (Sum.inl false)
   else
    DS p0 p1 n (Sh.w (i4+1))
  else
   some (Sum.inr ())
def Gh (N:Nat) (p0:(List Int)) (p1:(List Int)):Option (Bool):=
 Sh.cont (DS p0 p1 N 0) (id) fun ()=>
 some true
def Gm (p0:Int):Option (Bool):=
 Option.bind (BT p0 0 11) fun q3=>
 some q3
def DH (p0:(List Ag)) (p1:Int):Nat→Int→Int→Option (Int)
 | 0,_,_=>none
 | n+1,n5,i6=>
  if (decide (i6 < p1))=true then
   Option.bind (Sh.get p0 i6) fun c14=>
   DH p0 p1 n (Sh.w (n5+(Sh.len c14.cons))) (Sh.w (i6+1))
  else
   some n5
def FQ (N:Nat) (p0:(List Ag)) (p1:Int):Option (Int):=
 Option.bind (DH p0 p1 N 0 0) fun n7=>
 some n7
def Cd (N:Nat) (p0:(List Ag)) (p1:Int):Nat→Int→Option ((Int) ⊕ (Unit))
 | 0,_=>none
 | n+1,i4=>
  if (decide (i4 < (Sh.len p0)))=true then
   Option.bind (FQ N p0 i4) fun q12=>
   Option.bind (Sh.get p0 i4) fun c14=>
   Option.bind (BT p1 q12 (Sh.w ((Sh.w (q12+(Sh.len c14.cons))) - 1))) fun q15=>
   if q15=true then
    some (Sum.inl (Sh.w (i4+1)))
   else
    Cd N p0 p1 n (Sh.w (i4+1))
  else
   some (Sum.inr ())
def CO (N:Nat) (p0:(List Ag)) (p1:Int):Option (Int):=
 Sh.cont (Cd N p0 p1 N 0) (id) fun ()=>
 some (-1)
def C0 (N:Nat) (p0:(List Ag)) (p1:Int):Option ((List Int)):=
 Option.bind (CO N p0 p1) fun q3=>
 if (decide (q3 < 1))=true then
  some []
 else
  Option.bind (Sh.get p0 (Sh.w (q3 - 1))) fun c9=>
  Option.bind (FQ N p0 (Sh.w (q3 - 1))) fun q10=>
  Option.bind (Sh.get c9.cons (Sh.w (p1 - q10))) fun c11=>
  some c11.fields
def D4 (N:Nat) (p0:(List Ag)) (p1:Int):Nat→Int→(List Int)→Option ((List Int))
 | 0,_,_=>none
 | n+1,i12,l13=>
  Option.bind (Sh.get p0 (Sh.w (p1 - 1))) fun c19=>
  if (decide (i12 < (Sh.len c19.cons)))=true then
   Option.bind (FQ N p0 (Sh.w (p1 - 1))) fun q22=>
   Option.bind (Sh.app l13 [Sh.w (q22+i12)] 8) fun l23=>
   D4 N p0 p1 n (Sh.w (i12+1)) l23
  else
   some l13
def Ig (N:Nat) (p0:(List Ag)) (p1:Int):Option ((List Int)):=
 Option.bind (BT p1 1 (Sh.len p0)) fun q5=>
 if (!q5)=true then
  some []
 else
  Option.bind (D4 N p0 p1 N 0 []) fun l14=>
  some l14
def Fb (p0:(List Ag)) (p1:Int):Option (Bool):=
 Option.bind (
  if (decide (0≤p1))=true then
   some (decide (p1≤(Sh.len p0)))
  else
   some false
 ) fun t3=>
 some t3
def Du (p0:(List Ag)) (p1:(List Int)):Nat→Int→Option ((Bool) ⊕ (Unit))
 | 0,_=>none
 | n+1,t4=>
  if (decide (t4 < (Sh.len p1)))=true then
   Option.bind (Sh.get p1 t4) fun c12=>
   Option.bind (Fb p0 c12) fun q14=>
   if (!q14)=true then
    some (Sum.inl false)
   else
    Du p0 p1 n (Sh.w (t4+1))
  else
   some (Sum.inr ())
def GJ (N:Nat) (p0:(List Ag)) (p1:(List Int)):Option (Bool):=
 Sh.cont (Du p0 p1 N 0) (id) fun ()=>
 some true
def CX (c16:Ag) (l28:(List Ag)):Nat→Int→Option ((Bool) ⊕ (Unit))
 | 0,_=>none
 | n+1,t29=>
  if (decide (t29 < (Sh.len l28)))=true then
   Option.bind (Sh.get l28 t29) fun c36=>
   Option.bind (
    if (decide ((Sh.len c16.cons)=0))=true then
     if (decide ((Sh.len c36.cons)=0))=true then
      if (decide (c36.from_=c16.from_))=true then
       some (decide (c36.to=c16.to))
      else
       some false
     else
      some false
    else
     some false
   ) fun t38=>
   if t38=true then
    some (Sum.inl false)
   else
    CX c16 l28 n (Sh.w (t29+1))
  else
   some (Sum.inr ())
def CY (N:Nat) (c16:Ag) (p0:(List Ag)):Nat→Int→Option ((Bool) ⊕ (Unit))
 | 0,_=>none
 | n+1,t25=>
  if (decide (t25 < (Sh.len c16.cons)))=true then
   Option.bind (Sh.get c16.cons t25) fun c50=>
   Option.bind (
    if (decide (3 < (Sh.len c50.fields)))=true then
     some true
    else
     Option.bind (GJ N p0 c50.fields) fun q57=>
     some (!q57)
   ) fun t52=>
   if t52=true then
    some (Sum.inl false)
   else
    CY N c16 p0 n (Sh.w (t25+1))
  else
   some (Sum.inr ())
def C3 (N:Nat) (p0:(List Ag)):Nat→Int→Option ((Bool) ⊕ (Unit))
 | 0,_=>none
 | n+1,t8=>
  if (decide (t8 < (Sh.len p0)))=true then
   Option.bind (Sh.get p0 t8) fun c16=>
   Option.bind (
    Option.bind (Fb p0 c16.from_) fun q58=>
    if (!q58)=true then
     some true
    else
     Option.bind (Fb p0 c16.to) fun q60=>
     if (!q60)=true then
      some true
     else
     if (decide (3 < (Sh.len c16.cons)))=true then
      some true
     else
     if (decide (0 < (Sh.len c16.cons)))=true then
      if (!decide (c16.from_=0))=true then
       some true
      else
       some (!decide (c16.to=0))
     else
      some false
   ) fun t19=>
   if t19=true then
    some (Sum.inl false)
   else
    Sh.cont (CY N c16 p0 N 0) (fun x=>Sum.inl x) fun ()=>
    Option.bind (Sh.sl p0 0 t8) fun l28=>
    Sh.cont (CX c16 l28 N 0) (fun x=>Sum.inl x) fun ()=>
    C3 N p0 n (Sh.w (t8+1))
  else
   some (Sum.inr ())
def F9 (N:Nat) (p0:(List Ag)):Option (Bool):=
 if (decide (4 < (Sh.len p0)))=true then
  some false
 else
  Sh.cont (C3 N p0 N 0) (id) fun ()=>
  some true
def Cq (c18:Ba):Nat→Int→Option ((Bool) ⊕ (Unit))
 | 0,_=>none
 | n+1,t26=>
  if (decide (t26 < (Sh.len c18.At)))=true then
   Option.bind (Sh.get c18.At t26) fun c33=>
   Option.bind (
    if (decide (c33 < 0))=true then
     some true
    else
    if (decide ((Sh.len c18.params)≤c33))=true then
     some true
    else
     Option.bind (Sh.get c18.params c33) fun c41=>
     if (decide (c41=0))=true then
      some true
     else
     if (decide (0 < t26))=true then
      Option.bind (Sh.get c18.At (Sh.w (t26 - 1))) fun c44=>
      some (decide (c33≤c44))
     else
      some false
   ) fun t35=>
   if t35=true then
    some (Sum.inl false)
   else
    Cq c18 n (Sh.w (t26+1))
  else
   some (Sum.inr ())
def Cr (N:Nat) (p0:(List Ag)) (p1:(List Ba)):Nat→Int→Option ((Bool) ⊕ (Unit))
 | 0,_=>none
 | n+1,t10=>
  if (decide (t10 < (Sh.len p1)))=true then
   Option.bind (Sh.get p1 t10) fun c18=>
   Option.bind (
    if (decide (3 < (Sh.len c18.params)))=true then
     some true
    else
     Option.bind (GJ N p0 c18.params) fun q46=>
     if (!q46)=true then
      some true
     else
      Option.bind (Fb p0 c18.result) fun q48=>
      some (!q48)
   ) fun t21=>
   if t21=true then
    some (Sum.inl false)
   else
    Sh.cont (Cq c18 N 0) (fun x=>Sum.inl x) fun ()=>
    Cr N p0 p1 n (Sh.w (t10+1))
  else
   some (Sum.inr ())
def Gi (N:Nat) (p0:(List Ag)) (p1:(List Ba)):Option (Bool):=
 Option.bind (
  Option.bind (F9 N p0) fun q49=>
  if (!q49)=true then
   some true
  else
  if (decide ((Sh.len p1) < 1))=true then
   some true
  else
  if (decide (4 < (Sh.len p1)))=true then
   some true
  else
   Option.bind (Sh.get p1 0) fun c53=>
   if (decide (0 < (Sh.len c53.params)))=true then
    some true
   else
    some (!decide (c53.result=0))
 ) fun t4=>
 if t4=true then
  some false
 else
  Sh.cont (Cr N p0 p1 N 0) (id) fun ()=>
  some true
def DF (p0:(List Ag)):Nat→Int→Int→Option (Int)
 | 0,_,_=>none
 | n+1,n5,t6=>
  if (decide (t6 < (Sh.len p0)))=true then
   Option.bind (Sh.get p0 t6) fun c15=>
   DF p0 n (Sh.w (n5+(Sh.len c15.cons))) (Sh.w (t6+1))
  else
   some n5
def G4 (N:Nat) (p0:(List Ag)):Option (Int):=
 Option.bind (DF p0 N 0 0) fun n7=>
 some n7
def D3 (c14:Ag) (q10:Int):Nat→Int→(List Int)→Option ((List Int))
 | 0,_,_=>none
 | n+1,t15,l16=>
  if (decide (t15 < (Sh.len c14.cons)))=true then
   Option.bind (Sh.app l16 [Sh.w (q10+t15)] 8) fun l25=>
   D3 c14 q10 n (Sh.w (t15+1)) l25
  else
   some l16
def IQ (N:Nat) (p0:(List Ag)) (p1:Int):Option ((List Int)):=
 Option.bind (
  if (decide (p1 < 1))=true then
   some true
  else
   some (decide ((Sh.len p0) < p1))
 ) fun t4=>
 if t4=true then
  some []
 else
  Option.bind (Sh.sl p0 0 (Sh.w (p1 - 1))) fun l9=>
  Option.bind (G4 N l9) fun q10=>
  Option.bind (Sh.get p0 (Sh.w (p1 - 1))) fun c14=>
  Option.bind (D3 c14 q10 N 0 []) fun l17=>
  some l17
def D0 (p0:(List Ag)):Nat→Int→Int→Option ((Int×BO) ⊕ (Unit))
 | 0,_,_=>none
 | n+1,c4,t5=>
  if (decide (t5 < (Sh.len p0)))=true then
   Option.bind (Sh.get p0 t5) fun c13=>
   Option.bind (
    if (decide (0≤c4))=true then
     some (decide (c4 < (Sh.len c13.cons)))
    else
     some false
   ) fun t16=>
   if t16=true then
    Option.bind (Sh.get c13.cons c4) fun c20=>
    some (Sum.inl (Sh.w (t5+1),c20))
   else
    D0 p0 n (Sh.w (c4 - (Sh.len c13.cons))) (Sh.w (t5+1))
  else
   some (Sum.inr ())
def GN (N:Nat) (p0:(List Ag)) (p1:Int):Option (Int×BO):=
 Sh.cont (D0 p0 N p1 0) (id) fun ()=>
 some (-1,(BO.mk []))
def FL (N:Nat) (p0:(List Ag)) (p1:Int):Option ((List Int)):=
 Option.bind (GN N p0 p1) fun q3=>
 some q3.2.fields
def JU (N:Nat) (p0:BO) (p1:BO):Option (Bool):=
 Option.bind (Fg N p0.fields p1.fields) fun q4=>
 if (!q4)=true then
  some false
 else
  some true
def EW (N:Nat) (p0:(List BO)) (p1:(List BO)):Nat→Int→Option ((Bool) ⊕ (Unit))
 | 0,_=>none
 | n+1,i10=>
  if (decide (i10 < (Sh.len p0)))=true then
   Option.bind (Sh.get p0 i10) fun c18=>
   Option.bind (Sh.get p1 i10) fun c19=>
   Option.bind (JU N c18 c19) fun q20=>
   if (!q20)=true then
    some (Sum.inl false)
   else
    EW N p0 p1 n (Sh.w (i10+1))
  else
   some (Sum.inr ())
def IN (N:Nat) (p0:(List BO)) (p1:(List BO)):Option (Bool):=
 if (!decide ((Sh.len p0)=(Sh.len p1)))=true then
  some false
 else
  Sh.cont (EW N p0 p1 N 0) (id) fun ()=>
  some true
def IU (N:Nat) (p0:Ag) (p1:Ag):Option (Bool):=
 if (!decide (p0.from_=p1.from_))=true then
  some false
 else
 if (!decide (p0.to=p1.to))=true then
  some false
 else
  Option.bind (IN N p0.cons p1.cons) fun q16=>
  if (!q16)=true then
   some false
  else
   some true
def EG (N:Nat) (p0:(List Ag)) (p1:(List Ag)):Nat→Int→Option ((Bool) ⊕ (Unit))
 | 0,_=>none
 | n+1,i10=>
  if (decide (i10 < (Sh.len p0)))=true then
   Option.bind (Sh.get p0 i10) fun c18=>
   Option.bind (Sh.get p1 i10) fun c19=>
   Option.bind (IU N c18 c19) fun q20=>
   if (!q20)=true then
    some (Sum.inl false)
   else
    EG N p0 p1 n (Sh.w (i10+1))
  else
   some (Sum.inr ())
def HY (N:Nat) (p0:(List Ag)) (p1:(List Ag)):Option (Bool):=
 if (!decide ((Sh.len p0)=(Sh.len p1)))=true then
  some false
 else
  Sh.cont (EG N p0 p1 N 0) (id) fun ()=>
  some true
end RC


namespace RC
end RC


namespace RC
def DL (p0:(List Block)) (rec_laws_szBlock:Block→Int→Option (Int)):Nat→Int→Int→Option ((Int) ⊕ (Int))
 | 0,_,_=>none
 | n+1,left9,i10=>
  if (decide (i10 < (Sh.len p0)))=true then
   Option.bind (Sh.get p0 i10) fun c19=>
   Option.bind (rec_laws_szBlock c19 left9) fun q20=>
   if (decide (q20 < 0))=true then
    some (Sum.inl (-1))
   else
    DL p0 rec_laws_szBlock n q20 (Sh.w (i10+1))
  else
   some (Sum.inr left9)
def G9 (N:Nat) (rec_laws_szBlock:Block→Int→Option (Int)) (p0:(List Block)) (p1:Int):Option (Int):=
 if (decide ((Sh.w (p1 - (Sh.len p0))) < 0))=true then
  some (-1)
 else
  Sh.cont (DL p0 rec_laws_szBlock N (Sh.w (p1 - (Sh.len p0))) 0) (id) fun left11=>
  some left11
def Il (N:Nat) (rec_laws_szBlock:Block→Int→Option (Int)) (p0:Step) (p1:Int):Option (Int):=
 Option.bind (Fh p0.args p1) fun q3=>
 if (decide (q3 < 0))=true then
  some (-1)
 else
  Option.bind (G9 N rec_laws_szBlock p0.kids q3) fun q9=>
  if (decide (q9 < 0))=true then
   some (-1)
  else
   some q9
def Dg (N:Nat) (p0:(List Step)) (rec_laws_szBlock:Block→Int→Option (Int)):Nat→Int→Int→Option ((Int) ⊕ (Int))
 | 0,_,_=>none
 | n+1,left9,i10=>
  if (decide (i10 < (Sh.len p0)))=true then
   Option.bind (Sh.get p0 i10) fun c19=>
   Option.bind (Il N rec_laws_szBlock c19 left9) fun q20=>
   if (decide (q20 < 0))=true then
    some (Sum.inl (-1))
   else
    Dg N p0 rec_laws_szBlock n q20 (Sh.w (i10+1))
  else
   some (Sum.inr left9)
def JG (N:Nat) (rec_laws_szBlock:Block→Int→Option (Int)) (p0:(List Step)) (p1:Int):Option (Int):=
 if (decide ((Sh.w (p1 - (Sh.len p0))) < 0))=true then
  some (-1)
 else
  Sh.cont (Dg N p0 rec_laws_szBlock N (Sh.w (p1 - (Sh.len p0))) 0) (id) fun left11=>
  some left11
def Hs (N:Nat) (rec_laws_szBlock:Block→Int→Option (Int)) (p0:Block) (p1:Int):Option (Int):=
 Option.bind (JG N rec_laws_szBlock p0.steps p1) fun q3=>
 if (decide (q3 < 0))=true then
  some (-1)
 else
  some q3
def E2 (N:Nat):Nat→Block→Int→Option (Int)
 | 0,_,_=>none
 | n+1,p0,p1=>Hs N (E2 N n) p0 p1
def JC (N:Nat) (p0:Block) (p1:Int):Option (Int):=E2 N N p0 p1
def DE (p0:(List Block)) (rec_laws_toBlock:Block→Option (Block)):Nat→Int→(List Block)→Option ((List Block))
 | 0,_,_=>none
 | n+1,i6,l7=>
  if (decide (i6 < (Sh.len p0)))=true then
   Option.bind (Sh.get p0 i6) fun c15=>
   Option.bind (rec_laws_toBlock c15) fun q16=>
   Option.bind (Sh.get l7 i6) fun c17=>
   DE p0 rec_laws_toBlock n (Sh.w (i6+1)) (Sh.put l7 i6 q16)
  else
   some l7
def Ib (N:Nat) (rec_laws_toBlock:Block→Option (Block)) (p0:(List Block)):Option ((List Block)):=
 Option.bind (Sh.mk (Block.mk [] 0) (Sh.len p0) 32) fun l3=>
 Option.bind (DE p0 rec_laws_toBlock N 0 l3) fun l8=>
 some l8
def IM (N:Nat) (rec_laws_toBlock:Block→Option (Block)) (p0:Step):Option (Step):=
 Option.bind (Fa N p0.args) fun q7=>
 Option.bind (Ib N rec_laws_toBlock p0.kids) fun q9=>
 some (Step.mk p0.op p0.num p0.Ax q7 q9)
def De (N:Nat) (p0:(List Step)) (rec_laws_toBlock:Block→Option (Block)):Nat→Int→(List Step)→Option ((List Step))
 | 0,_,_=>none
 | n+1,i6,l7=>
  if (decide (i6 < (Sh.len p0)))=true then
   Option.bind (Sh.get p0 i6) fun c15=>
   Option.bind (IM N rec_laws_toBlock c15) fun q16=>
   Option.bind (Sh.get l7 i6) fun c17=>
   De N p0 rec_laws_toBlock n (Sh.w (i6+1)) (Sh.put l7 i6 q16)
  else
   some l7
def JB (N:Nat) (rec_laws_toBlock:Block→Option (Block)) (p0:(List Step)):Option ((List Step)):=
 Option.bind (Sh.mk (Step.mk 0 0 0 [] []) (Sh.len p0) 72) fun l3=>
 Option.bind (De N p0 rec_laws_toBlock N 0 l3) fun l8=>
 some l8
def Hr (N:Nat) (rec_laws_toBlock:Block→Option (Block)) (p0:Block):Option (Block):=
 Option.bind (JB N rec_laws_toBlock p0.steps) fun q4=>
 some (Block.mk q4 p0.result)
def E4 (N:Nat):Nat→Block→Option (Block)
 | 0,_=>none
 | n+1,p0=>Hr N (E4 N n) p0
def JJ (N:Nat) (p0:Block):Option (Block):=E4 N N p0
def CM (i5:Int) (p0:Block) (rec_spec_stepsLeft:Block→Int→Option (Int)):Nat→Int→Int→Option ((Int) ⊕ (Int))
 | 0,_,_=>none
 | n+1,left19,k20=>
  Option.bind (Sh.get p0.steps i5) fun c25=>
  if (decide (k20 < (Sh.len c25.kids)))=true then
   Option.bind (Sh.get c25.kids k20) fun c29=>
   Option.bind (rec_spec_stepsLeft c29 left19) fun q30=>
   if (decide (q30 < 0))=true then
    some (Sum.inl (-1))
   else
    CM i5 p0 rec_spec_stepsLeft n q30 (Sh.w (k20+1))
  else
   some (Sum.inr left19)
def CK (N:Nat) (p0:Block) (rec_spec_stepsLeft:Block→Int→Option (Int)):Nat→Int→Int→Option ((Int) ⊕ (Int))
 | 0,_,_=>none
 | n+1,left4,i5=>
  if (decide (i5 < (Sh.len p0.steps)))=true then
   if (decide (left4 < 1))=true then
    some (Sum.inl (-1))
   else
    Sh.cont (CM i5 p0 rec_spec_stepsLeft N (Sh.w (left4 - 1)) 0) (fun x=>Sum.inl x) fun left21=>
    CK N p0 rec_spec_stepsLeft n left21 (Sh.w (i5+1))
  else
   some (Sum.inr left4)
def Gy (N:Nat) (rec_spec_stepsLeft:Block→Int→Option (Int)) (p0:Block) (p1:Int):Option (Int):=
 Sh.cont (CK N p0 rec_spec_stepsLeft N p1 0) (id) fun left6=>
 some left6
def EP (N:Nat):Nat→Block→Int→Option (Int)
 | 0,_,_=>none
 | n+1,p0,p1=>Gy N (EP N n) p0 p1
def Je (N:Nat) (p0:Block) (p1:Int):Option (Int):=EP N N p0 p1
def Ha (N:Nat) (p0:Block):Option (Int):=
 Option.bind (Je N p0 600) fun q3=>
 if (decide (q3 < 0))=true then
  some (-1)
 else
  some (Sh.w (600 - q3))
def GA (p0:Int):Option (Bool):=
 Option.bind (BT p0 14 17) fun q3=>
 some q3
def B3 (c14:Step) (rec_impl_countSteps:Int→Block→Option (Bool×Int)):Nat→Int→Int→Option ((Bool×Int) ⊕ (Int))
 | 0,_,_=>none
 | n+1,t21,f22=>
  if (decide (t21 < (Sh.len c14.kids)))=true then
   Option.bind (Sh.get c14.kids t21) fun c30=>
   Option.bind (rec_impl_countSteps f22 c30) fun q32=>
   if (!q32.1)=true then
    some (Sum.inl (false,q32.2))
   else
    B3 c14 rec_impl_countSteps n (Sh.w (t21+1)) q32.2
  else
   some (Sum.inr f22)
def B7 (N:Nat) (p0:Block) (rec_impl_countSteps:Int→Block→Option (Bool×Int)):Nat→Int→Int→Option ((Bool×Int) ⊕ (Int))
 | 0,_,_=>none
 | n+1,t4,f5=>
  if (decide (t4 < (Sh.len p0.steps)))=true then
   Option.bind (Sh.get p0.steps t4) fun c14=>
   if (decide (600 < (Sh.w (f5+1))))=true then
    some (Sum.inl (false,Sh.w (f5+1)))
   else
    Sh.cont (B3 c14 rec_impl_countSteps N 0 (Sh.w (f5+1))) (fun x=>Sum.inl x) fun f23=>
    B7 N p0 rec_impl_countSteps n (Sh.w (t4+1)) f23
  else
   some (Sum.inr f5)
def GR (N:Nat) (rec_impl_countSteps:Int→Block→Option (Bool×Int)) (s0_0:Int) (p0:Block):Option (Bool×Int):=
 Sh.cont (B7 N p0 rec_impl_countSteps N 0 s0_0) (id) fun f6=>
 some (true,f6)
def D7 (N:Nat):Nat→Int→Block→Option (Bool×Int)
 | 0,_,_=>none
 | n+1,s0_0,p0=>GR N (D7 N n) s0_0 p0
def I7 (N:Nat) (s0_0:Int) (p0:Block):Option (Bool×Int):=D7 N N s0_0 p0
def HZ (N:Nat) (p0:Block):Option (Int):=
 Option.bind (I7 N 0 p0) fun q5=>
 if (!q5.1)=true then
  some (-1)
 else
  some q5.2
def CG (p0:Int):Option (Bool):=
 Option.bind (
  if (decide (14≤p0))=true then
   some (decide (p0≤17))
  else
   some false
 ) fun t3=>
 some t3
def DI (p0:(List Block)) (p1:(List Block)) (rec_laws_eqBlock:Block→Block→Option (Bool)):Nat→Int→Option ((Bool) ⊕ (Unit))
 | 0,_=>none
 | n+1,i10=>
  if (decide (i10 < (Sh.len p0)))=true then
   Option.bind (Sh.get p0 i10) fun c18=>
   Option.bind (Sh.get p1 i10) fun c19=>
   Option.bind (rec_laws_eqBlock c18 c19) fun q20=>
   if (!q20)=true then
    some (Sum.inl false)
   else
    DI p0 p1 rec_laws_eqBlock n (Sh.w (i10+1))
  else
   some (Sum.inr ())
def IH (N:Nat) (rec_laws_eqBlock:Block→Block→Option (Bool)) (p0:(List Block)) (p1:(List Block)):Option (Bool):=
 if (!decide ((Sh.len p0)=(Sh.len p1)))=true then
  some false
 else
  Sh.cont (DI p0 p1 rec_laws_eqBlock N 0) (id) fun ()=>
  some true
def IG (N:Nat) (rec_laws_eqBlock:Block→Block→Option (Bool)) (p0:Step) (p1:Step):Option (Bool):=
 if (!decide (p0.op=p1.op))=true then
  some false
 else
 if (!decide (p0.num=p1.num))=true then
  some false
 else
 if (!decide (p0.Ax=p1.Ax))=true then
  some false
 else
  Option.bind (Fg N p0.args p1.args) fun q22=>
  if (!q22)=true then
   some false
  else
   Option.bind (IH N rec_laws_eqBlock p0.kids p1.kids) fun q29=>
   if (!q29)=true then
    some false
   else
    some true
def Dc (N:Nat) (p0:(List Step)) (p1:(List Step)) (rec_laws_eqBlock:Block→Block→Option (Bool)):Nat→Int→Option ((Bool) ⊕ (Unit))
 | 0,_=>none
 | n+1,i10=>
  if (decide (i10 < (Sh.len p0)))=true then
   Option.bind (Sh.get p0 i10) fun c18=>
   Option.bind (Sh.get p1 i10) fun c19=>
   Option.bind (IG N rec_laws_eqBlock c18 c19) fun q20=>
   if (!q20)=true then
    some (Sum.inl false)
   else
    Dc N p0 p1 rec_laws_eqBlock n (Sh.w (i10+1))
  else
   some (Sum.inr ())
def JD (N:Nat) (rec_laws_eqBlock:Block→Block→Option (Bool)) (p0:(List Step)) (p1:(List Step)):Option (Bool):=
 if (!decide ((Sh.len p0)=(Sh.len p1)))=true then
  some false
 else
  Sh.cont (Dc N p0 p1 rec_laws_eqBlock N 0) (id) fun ()=>
  some true
def Ho (N:Nat) (rec_laws_eqBlock:Block→Block→Option (Bool)) (p0:Block) (p1:Block):Option (Bool):=
 Option.bind (JD N rec_laws_eqBlock p0.steps p1.steps) fun q4=>
 if (!q4)=true then
  some false
 else
 if (!decide (p0.result=p1.result))=true then
  some false
 else
  some true
def E3 (N:Nat):Nat→Block→Block→Option (Bool)
 | 0,_,_=>none
 | n+1,p0,p1=>Ho N (E3 N n) p0 p1
def JF (N:Nat) (p0:Block) (p1:Block):Option (Bool):=E3 N N p0 p1
end RC


namespace RC
def P9 (p0:(List Cy)) (rec_laws_szExpr:Cy→Int→Option (Int)):Nat→Int→Int→Option ((Int) ⊕ (Int))
 | 0,_,_=>none
 | n+1,left9,i10=>
  if (decide (i10 < (Sh.len p0)))=true then
   Option.bind (Sh.get p0 i10) fun c19=>
   Option.bind (rec_laws_szExpr c19 left9) fun q20=>
   if (decide (q20 < 0))=true then
    some (Sum.inl (-1))
   else
    P9 p0 rec_laws_szExpr n q20 (Sh.w (i10+1))
  else
   some (Sum.inr left9)
def Pu (p0:Co) (p1:(List Int)) (p2:(List Cy)) (p3:Int) (rec_spec_typeOf:Co→(List Int)→Cy→Option (Int)):Nat→Int→Option ((Bool) ⊕ (Unit))
 | 0,_=>none
 | n+1,i10=>
  if (decide (i10 < p3))=true then
   Option.bind (Sh.get p2 i10) fun c18=>
   Option.bind (rec_spec_typeOf p0 p1 c18) fun q19=>
   if (!decide (q19=0))=true then
    some (Sum.inl false)
   else
    Pu p0 p1 p2 p3 rec_spec_typeOf n (Sh.w (i10+1))
  else
   some (Sum.inr ())
def Cw (p0:(List Int)):Option ((List Int)):=
 Option.bind (Sh.app ([]:List Int) p0 8) fun l3=>
 some l3
def Im (p0:(List Int)) (p1:(List Int)):Option ((List Int)):=
 Option.bind (Cw p0) fun q3=>
 Option.bind (Sh.app q3 p1 8) fun l4=>
 some l4
def Df (p0:(List Ag)) (p1:Int) (p2:Int):Nat→Int→Option ((Int) ⊕ (Unit))
 | 0,_=>none
 | n+1,i4=>
  if (decide (i4 < (Sh.len p0)))=true then
   Option.bind (
    Option.bind (Sh.get p0 i4) fun c16=>
    if (decide ((Sh.len c16.cons)=0))=true then
     if (decide (c16.from_=p1))=true then
      some (decide (c16.to=p2))
     else
      some false
    else
     some false
   ) fun t12=>
   if t12=true then
    some (Sum.inl (Sh.w (i4+1)))
   else
    Df p0 p1 p2 n (Sh.w (i4+1))
  else
   some (Sum.inr ())
def Gp (N:Nat) (p0:(List Ag)) (p1:Int) (p2:Int):Option (Int):=
 Sh.cont (Df p0 p1 p2 N 0) (id) fun ()=>
 some (-1)
def Fo (p0:(List Ag)) (p1:Int):Option (Bool):=
 Option.bind (
  Option.bind (BT p1 1 (Sh.len p0)) fun q5=>
  if q5=true then
   Option.bind (Sh.get p0 (Sh.w (p1 - 1))) fun c7=>
   some (decide ((Sh.len c7.cons)=0))
  else
   some false
 ) fun t3=>
 some t3
def Es (p1:Int):Option ((List Int)):=
 if (decide (p1 < 0))=true then
  none
 else
  Option.bind (
   if (decide (0 < (Sh.w (p1 - (Sh.w (0 - 0))))))=true then
    Option.bind (Sh.mk 0 (Sh.w (p1 - (Sh.w (0 - 0)))) 8) fun l12=>
    Option.bind (Sh.hi l12 0) fun l13=>
    some l13
   else
    some []
  ) fun l6=>
  some l6
def Bi (p0:(List (List Int))):Nat→Int→(List Int)→Option ((List Int))
 | 0,_,_=>none
 | n+1,t13,l14=>
  if (decide (t13 < (Sh.len p0)))=true then
   Option.bind (Sh.get p0 t13) fun c23=>
   Option.bind (Sh.app l14 c23 8) fun l24=>
   Bi p0 n (Sh.w (t13+1)) l24
  else
   some l14
def Bk (p0:(List (List Int))):Nat→Int→Int→Option (Int)
 | 0,_,_=>none
 | n+1,size5,t6=>
  if (decide (t6 < (Sh.len p0)))=true then
   Option.bind (Sh.get p0 t6) fun c30=>
   if (decide ((Sh.w (size5+(Sh.len c30))) < 0))=true then
    none
   else
    Bk p0 n (Sh.w (size5+(Sh.len c30))) (Sh.w (t6+1))
  else
   some size5
def Db (N:Nat) (p0:(List (List Int))):Option ((List Int)):=
 Option.bind (Bk p0 N 0 0) fun size7=>
 Option.bind (Es size7) fun q10=>
 Option.bind (Bi p0 N 0 q10) fun l15=>
 some l15
def Fm (p0:(List Ag)) (p1:Int):Option (Ag×Bool):=
 Option.bind (
  if (decide (p1 < 1))=true then
   some true
  else
  if (decide ((Sh.len p0) < p1))=true then
   some true
  else
   Option.bind (Sh.get p0 (Sh.w (p1 - 1))) fun c12=>
   some (decide (0 < (Sh.len c12.cons)))
 ) fun t4=>
 if t4=true then
  some ((Ag.mk 0 0 []),false)
 else
  Option.bind (Sh.get p0 (Sh.w (p1 - 1))) fun c9=>
  some (c9,true)
def B1 (p0:(List Int)) (p1:(List Int)):Nat→Int→Option ((Bool) ⊕ (Unit))
 | 0,_=>none
 | n+1,t10=>
  if (decide (t10 < (Sh.len p0)))=true then
   Option.bind (Sh.get p0 t10) fun c19=>
   Option.bind (Sh.get p1 t10) fun c20=>
   if (!decide (c19=c20))=true then
    some (Sum.inl false)
   else
    B1 p0 p1 n (Sh.w (t10+1))
  else
   some (Sum.inr ())
def CA (N:Nat) (p0:(List Int)) (p1:(List Int)):Option (Bool):=
 if (!decide ((Sh.len p0)=(Sh.len p1)))=true then
  some false
 else
  Sh.cont (B1 p0 p1 N 0) (id) fun ()=>
  some true
def Dd (p0:(List Ag)) (p1:Int) (p2:Int):Nat→Int→Option ((Int) ⊕ (Unit))
 | 0,_=>none
 | n+1,t4=>
  if (decide (t4 < (Sh.len p0)))=true then
   Option.bind (Sh.get p0 t4) fun c12=>
   Option.bind (
    if (decide ((Sh.len c12.cons)=0))=true then
     if (decide (c12.from_=p1))=true then
      some (decide (c12.to=p2))
     else
      some false
    else
     some false
   ) fun t14=>
   if t14=true then
    some (Sum.inl (Sh.w (t4+1)))
   else
    Dd p0 p1 p2 n (Sh.w (t4+1))
  else
   some (Sum.inr ())
def Hj (N:Nat) (p0:(List Ag)) (p1:Int) (p2:Int):Option (Int):=
 Sh.cont (Dd p0 p1 p2 N 0) (id) fun ()=>
 some (-1)
def Av (N:Nat) (p0:A1) (p1:Int) (p2:Int) (p3:(List Int)):Option (Int×Bool):=
 Sh.cont (
  if (decide (p1=0))=true then
   Option.bind (
    if (decide ((-999)≤p2))=true then
     if (decide (p2≤999))=true then
      some (decide ((Sh.len p3)=0))
     else
      some false
    else
     some false
   ) fun t15=>
   some (Sum.inl (0,t15))
  else
   Option.bind (
    if (decide (p1=1))=true then
     some true
    else
    if (decide (p1=2))=true then
     some true
    else
    if (decide (p1=3))=true then
     some true
    else
     some (decide (p1=4))
   ) fun t20=>
   if t20=true then
    some (Sum.inr [(0:Int),0])
   else
   if (decide (p1=5))=true then
    some (Sum.inr [(0:Int)])
   else
   if (decide (p1=11))=true then
    if (!decide ((Sh.len p3)=2))=true then
     some (Sum.inl (-1,false))
    else
     Option.bind (Sh.get p3 0) fun c34=>
     Option.bind (Fm p0.decls c34) fun q35=>
     Option.bind (
      if q35.2=true then
       Option.bind (Sh.get p3 1) fun c41=>
       if (decide (c41=q35.1.from_))=true then
        some (decide (p2=0))
       else
        some false
      else
       some false
     ) fun t38=>
     some (Sum.inl (q35.1.to,t38))
   else
   if (decide (p1=6))=true then
    Option.bind (GN N p0.decls p2) fun q40=>
    Option.bind (
     if (decide (0≤q40.1))=true then
      Option.bind (CA N p3 q40.2.fields) fun q45=>
      some q45
     else
      some false
    ) fun t42=>
    some (Sum.inl (q40.1,t42))
   else
    Option.bind (
     if (decide (p1=9))=true then
      some true
     else
      some (decide (p1=10))
    ) fun t47=>
    if t47=true then
     Option.bind (
      if (decide (p2 < 0))=true then
       some true
      else
       some (decide ((Sh.len p0.funcs)≤p2))
     ) fun t52=>
     if t52=true then
      some (Sum.inl (-1,false))
     else
      Option.bind (Sh.get p0.funcs p2) fun c57=>
      if (decide (p1=9))=true then
       Option.bind (CA N p3 c57.params) fun q62=>
       some (Sum.inl (c57.result,q62))
      else
      if (decide ((Sh.w ((Sh.len c57.params) - 1)) < 0))=true then
       some (Sum.inl (-1,false))
      else
       Option.bind (Sh.get c57.params (Sh.w ((Sh.len c57.params) - 1))) fun c69=>
       Option.bind (Hj N p0.decls c69 c57.result) fun q70=>
       Option.bind (
        if (decide (0≤q70))=true then
         Option.bind (Sh.sl c57.params 0 (Sh.w ((Sh.len c57.params) - 1))) fun l75=>
         Option.bind (CA N p3 l75) fun q76=>
         some q76
        else
         some false
       ) fun t72=>
       some (Sum.inl (q70,t72))
    else
     some (Sum.inl (-1,false))
 ) (id) fun l4=>
 Option.bind (
  if (decide (p2=0))=true then
   Option.bind (CA N p3 l4) fun q10=>
   some q10
  else
   some false
 ) fun t7=>
 some (0,t7)
end RC


namespace RC
def Ge (N:Nat) (p0:Ac) (p1:Int):Option (Int):=
 Option.bind (Fh p0.params p1) fun q3=>
 if (decide (q3 < 0))=true then
  some (-1)
 else
  Option.bind (Fh p0.At q3) fun q9=>
  if (decide (q9 < 0))=true then
   some (-1)
  else
   Option.bind (JC N p0.body q9) fun q15=>
   if (decide (q15 < 0))=true then
    some (-1)
   else
    some q15
def C8 (N:Nat) (p0:(List Ac)):Nat→Int→Int→Option ((Int) ⊕ (Int))
 | 0,_,_=>none
 | n+1,left9,i10=>
  if (decide (i10 < (Sh.len p0)))=true then
   Option.bind (Sh.get p0 i10) fun c19=>
   Option.bind (Ge N c19 left9) fun q20=>
   if (decide (q20 < 0))=true then
    some (Sum.inl (-1))
   else
    C8 N p0 n q20 (Sh.w (i10+1))
  else
   some (Sum.inr left9)
def F6 (N:Nat) (p0:(List Ac)) (p1:Int):Option (Int):=
 if (decide ((Sh.w (p1 - (Sh.len p0))) < 0))=true then
  some (-1)
 else
  Sh.cont (C8 N p0 N (Sh.w (p1 - (Sh.len p0))) 0) (id) fun left11=>
  some left11
def HA (N:Nat) (p0:Aj) (p1:Int):Option (Int):=
 Option.bind (He N p0.decls p1) fun q3=>
 if (decide (q3 < 0))=true then
  some (-1)
 else
  Option.bind (F6 N p0.AD q3) fun q9=>
  if (decide (q9 < 0))=true then
   some (-1)
  else
   some q9
def Gd (N:Nat) (p0:Ac):Option (Ac):=
 Option.bind (Fa N p0.params) fun q4=>
 Option.bind (Fa N p0.At) fun q6=>
 Option.bind (JJ N p0.body) fun q9=>
 some (Ac.mk q4 q6 p0.result q9)
def C2 (N:Nat) (p0:(List Ac)):Nat→Int→(List Ac)→Option ((List Ac))
 | 0,_,_=>none
 | n+1,i6,l7=>
  if (decide (i6 < (Sh.len p0)))=true then
   Option.bind (Sh.get p0 i6) fun c15=>
   Option.bind (Gd N c15) fun q16=>
   Option.bind (Sh.get l7 i6) fun c17=>
   C2 N p0 n (Sh.w (i6+1)) (Sh.put l7 i6 q16)
  else
   some l7
def GI (N:Nat) (p0:(List Ac)):Option ((List Ac)):=
 Option.bind (Sh.mk (Ac.mk [] [] 0 (Block.mk [] 0)) (Sh.len p0) 88) fun l3=>
 Option.bind (C2 N p0 N 0 l3) fun l8=>
 some l8
def Eo (N:Nat) (p0:Aj):Option (Aj):=
 Option.bind (Hh N p0.decls) fun q4=>
 Option.bind (GI N p0.AD) fun q6=>
 some (Aj.mk q4 q6)
def D5 (p0:Aj):Nat→Int→(List Fp)→Option ((List Fp))
 | 0,_,_=>none
 | n+1,i5,l6=>
  if (decide (i5 < (Sh.len p0.AD)))=true then
   Option.bind (Sh.get p0.AD i5) fun c14=>
   Option.bind (Sh.app l6 ([(Fp.mk c14.params c14.result (Cy.mk 0 0 []))]) 72) fun l15=>
   D5 p0 n (Sh.w (i5+1)) l15
  else
   some l6
def Ia (N:Nat) (p0:Aj):Option (Co):=
 Option.bind (D5 p0 N 0 []) fun l7=>
 some (Co.mk p0.decls l7)
def B0 (N:Nat) (p0:Aj):Nat→Int→Option ((Bool) ⊕ (Unit))
 | 0,_=>none
 | n+1,i10=>
  if (decide (i10 < (Sh.len p0.AD)))=true then
   Option.bind (Sh.get p0.AD i10) fun c18=>
   Option.bind (Gh N c18.params c18.At) fun q19=>
   if (!q19)=true then
    some (Sum.inl false)
   else
    B0 N p0 n (Sh.w (i10+1))
  else
   some (Sum.inr ())
def Ea (N:Nat) (p0:Aj):Option (Bool):=
 Option.bind (
  if (decide (4 < (Sh.len p0.AD)))=true then
   some true
  else
   Option.bind (Ia N p0) fun q25=>
   Option.bind (Gk N q25) fun q26=>
   some (!q26)
 ) fun t4=>
 if t4=true then
  some false
 else
  Sh.cont (B0 N p0 N 0) (id) fun ()=>
  some true
def HG (p0:Int):Option (Bool):=
 Option.bind (
  if (decide (p0=0))=true then
   some true
  else
  if (decide (p0=6))=true then
   some true
  else
  if (decide (p0=8))=true then
   some true
  else
  if (decide (p0=9))=true then
   some true
  else
   some (decide (p0=10))
 ) fun t3=>
 some t3
def BU (p0:(List Int)) (p1:Step):Option (Bool):=
 if (decide (p1.Ax=0))=true then
  some true
 else
  Option.bind (
   if (decide (p1.op=6))=true then
    Option.bind (BT p1.Ax 1 (Sh.len p0)) fun q10=>
    if q10=true then
     Option.bind (Sh.get p0 (Sh.w (p1.Ax - 1))) fun c12=>
     some (decide (0 < c12))
    else
     some false
   else
    some false
  ) fun t7=>
  some t7
def Er (p0:(List Int)) (p1:(List Int)) (p2:(List Int)):Nat→Int→Option ((Bool) ⊕ (Unit))
 | 0,_=>none
 | n+1,i10=>
  if (decide (i10 < (Sh.len p1)))=true then
   Option.bind (
    Option.bind (Sh.get p1 i10) fun c22=>
    Option.bind (BT c22 0 (Sh.w ((Sh.len p0) - 1))) fun q23=>
    if (!q23)=true then
     some true
    else
     Option.bind (Sh.get p0 c22) fun c25=>
     Option.bind (Sh.get p2 i10) fun c26=>
     some (!decide (c25=c26))
   ) fun t18=>
   if t18=true then
    some (Sum.inl false)
   else
    Er p0 p1 p2 n (Sh.w (i10+1))
  else
   some (Sum.inr ())
def Bd (N:Nat) (p0:(List Int)) (p1:(List Int)) (p2:(List Int)):Option (Bool):=
 if (!decide ((Sh.len p1)=(Sh.len p2)))=true then
  some false
 else
  Sh.cont (Er p0 p1 p2 N 0) (id) fun ()=>
  some true
def Dn (N:Nat) (many6:Int) (p0:Aj) (p1:(List Int)) (p2:Step) (q3:(List Int)) (rec_spec_blockType:Aj→(List Int)→Block→Option (Int)):Nat→Int→Int→Option ((Int) ⊕ (Int))
 | 0,_,_=>none
 | n+1,t17,i18=>
  if (decide (i18 < many6))=true then
   Option.bind (
    if (decide (p2.op=8))=true then
     Option.bind (Sh.get q3 i18) fun c43=>
     Option.bind (C0 N p0.decls c43) fun q44=>
     Option.bind (Im p1 q44) fun q45=>
     some q45
    else
     some p1
   ) fun inner28=>
   Option.bind (Sh.get p2.kids i18) fun c31=>
   Option.bind (rec_spec_blockType p0 inner28 c31) fun q32=>
   Option.bind (
    if (decide (q32 < 0))=true then
     some true
    else
    if (decide (0 < i18))=true then
     some (!decide (q32=t17))
    else
     some false
   ) fun t35=>
   if t35=true then
    some (Sum.inl (-1))
   else
    Dn N many6 p0 p1 p2 q3 rec_spec_blockType n q32 (Sh.w (i18+1))
  else
   some (Sum.inr t17)
def Ev (N:Nat) (rec_spec_blockType:Aj→(List Int)→Block→Option (Int)) (p0:Aj) (p1:(List Int)) (p2:Step):Option (Int):=
 Option.bind (Ig N p0.decls p2.num) fun q3=>
 Option.bind (
  if (decide (p2.op=7))=true then
   some 2
  else
   some (Sh.len q3)
 ) fun many6=>
 Option.bind (
  if (decide (many6=0))=true then
   some true
  else
   some (!decide ((Sh.len p2.kids)=many6))
 ) fun t10=>
 if t10=true then
  some (-1)
 else
  Sh.cont (Dn N many6 p0 p1 p2 q3 rec_spec_blockType N 0 0) (id) fun t19=>
  some t19
def Dm (N:Nat) (p0:Aj) (p1:(List Int)) (p2:Step):Option (Int):=
 Option.bind (BT p2.num 0 (Sh.w ((Sh.len p0.AD) - 1))) fun q4=>
 if (!q4)=true then
  some (-1)
 else
  Option.bind (Sh.get p0.AD p2.num) fun c10=>
  if (decide (p2.op=9))=true then
   Option.bind (Bd N p1 p2.args c10.params) fun q17=>
   if (!q17)=true then
    some (-1)
   else
    some c10.result
  else
   Option.bind (
    if (decide ((Sh.len c10.params)=0))=true then
     some true
    else
    if (decide (0 < (Sh.len c10.At)))=true then
     some true
    else
     Option.bind (Sh.sl c10.params 0 (Sh.w ((Sh.len c10.params) - 1))) fun l34=>
     Option.bind (Bd N p1 p2.args l34) fun q35=>
     some (!q35)
   ) fun t25=>
   if t25=true then
    some (-1)
   else
    Option.bind (Sh.get c10.params (Sh.w ((Sh.len c10.params) - 1))) fun c30=>
    Option.bind (Gp N p0.decls c30 c10.result) fun q31=>
    some q31
def Ec (p0:Aj) (p1:(List Int)) (p2:Step):Option (Int):=
 Option.bind (
  if (!decide ((Sh.len p2.args)=1))=true then
   some true
  else
   Option.bind (Sh.get p2.args 0) fun c21=>
   Option.bind (BT c21 0 (Sh.w ((Sh.len p1) - 1))) fun q22=>
   if (!q22)=true then
    some true
   else
    Option.bind (Sh.get p1 c21) fun c24=>
    some (decide (c24=0))
 ) fun t4=>
 if t4=true then
  some (-1)
 else
  Option.bind (
   if (!decide (p2.op=14))=true then
    if (!decide (p2.op=15))=true then
     Option.bind (Sh.get p2.args 0) fun c17=>
     Option.bind (Sh.get p1 c17) fun c18=>
     Option.bind (Fo p0.decls c18) fun q19=>
     some q19
    else
     some false
   else
    some false
  ) fun t10=>
  if t10=true then
   some (-1)
  else
   some 0
def Dz (N:Nat) (rec_spec_blockType:Aj→(List Int)→Block→Option (Int)) (p0:Aj) (p1:(List Int)) (p2:Step):Option (Int):=
 Option.bind (
  if (!decide (p2.num=0))=true then
   Option.bind (HG p2.op) fun q105=>
   if (!q105)=true then
    some true
   else
    Option.bind (BU p1 p2) fun q107=>
    if (!q107)=true then
     some true
    else
    if (decide (0 < (Sh.len p2.kids)))=true then
     if (!decide (p2.op=7))=true then
      some (!decide (p2.op=8))
     else
      some false
    else
     some false
  else
   Option.bind (BU p1 p2) fun q111=>
   if (!q111)=true then
    some true
   else
   if (decide (0 < (Sh.len p2.kids)))=true then
    if (!decide (p2.op=7))=true then
     some (!decide (p2.op=8))
    else
     some false
   else
    some false
 ) fun t4=>
 if t4=true then
  some (-1)
 else
  Sh.cont (
   if (decide (p2.op=0))=true then
    Option.bind (
     if (decide ((Sh.len p2.args)=0))=true then
      Option.bind (BT p2.num (-999) 999) fun q20=>
      some q20
     else
      some false
    ) fun t15=>
    if t15=true then
     some (Sum.inl 0)
    else
     some (Sum.inr ())
   else
    Option.bind (
     if (decide (p2.op=1))=true then
      some true
     else
     if (decide (p2.op=2))=true then
      some true
     else
     if (decide (p2.op=3))=true then
      some true
     else
      some (decide (p2.op=4))
    ) fun t22=>
    if t22=true then
     Option.bind (Bd N p1 p2.args [(0:Int),0]) fun q26=>
     if q26=true then
      some (Sum.inl 0)
     else
      some (Sum.inr ())
    else
    if (decide (p2.op=5))=true then
     Option.bind (Bd N p1 p2.args [(0:Int)]) fun q32=>
     if q32=true then
      some (Sum.inl 0)
     else
      some (Sum.inr ())
    else
    if (decide (p2.op=6))=true then
     Option.bind (
      Option.bind (CO N p0.decls p2.num) fun q43=>
      if (decide (0 < q43))=true then
       Option.bind (C0 N p0.decls p2.num) fun q45=>
       Option.bind (Bd N p1 p2.args q45) fun q46=>
       some q46
      else
       some false
     ) fun t38=>
     if t38=true then
      Option.bind (CO N p0.decls p2.num) fun q42=>
      some (Sum.inl q42)
     else
      some (Sum.inr ())
    else
    if (decide (p2.op=7))=true then
     Option.bind (Bd N p1 p2.args [(0:Int)]) fun q50=>
     if q50=true then
      Option.bind (Ev N rec_spec_blockType p0 p1 p2) fun q53=>
      some (Sum.inl q53)
     else
      some (Sum.inr ())
    else
    if (decide (p2.op=8))=true then
     Option.bind (Bd N p1 p2.args [p2.num]) fun q57=>
     if q57=true then
      Option.bind (Ev N rec_spec_blockType p0 p1 p2) fun q60=>
      some (Sum.inl q60)
     else
      some (Sum.inr ())
    else
     Option.bind (
      if (decide (p2.op=9))=true then
       some true
      else
       some (decide (p2.op=10))
     ) fun t62=>
     if t62=true then
      Option.bind (Dm N p0 p1 p2) fun q66=>
      some (Sum.inl q66)
     else
     if (decide (p2.op=11))=true then
      Option.bind (
       if (decide ((Sh.len p2.args)=2))=true then
        Option.bind (Sh.get p2.args 0) fun c79=>
        Option.bind (BT c79 0 (Sh.w ((Sh.len p1) - 1))) fun q80=>
        if q80=true then
         Option.bind (Sh.get p1 c79) fun c82=>
         Option.bind (Fo p0.decls c82) fun q83=>
         some q83
        else
         some false
       else
        some false
      ) fun t70=>
      if t70=true then
       Option.bind (Sh.get p2.args 0) fun c74=>
       Option.bind (Sh.get p1 c74) fun c75=>
       Option.bind (Sh.get p0.decls (Sh.w (c75 - 1))) fun c76=>
       Option.bind (Sh.sl p2.args 1 (Sh.len p2.args)) fun l79=>
       Option.bind (Bd N p1 l79 [c76.from_]) fun q80=>
       if q80=true then
        some (Sum.inl c76.to)
       else
        some (Sum.inr ())
      else
       some (Sum.inr ())
     else
      Option.bind (
       if (decide (p2.op=14))=true then
        some true
       else
       if (decide (p2.op=15))=true then
        some true
       else
       if (decide (p2.op=16))=true then
        some true
       else
        some (decide (p2.op=17))
      ) fun t85=>
      if t85=true then
       Option.bind (Ec p0 p1 p2) fun q89=>
       some (Sum.inl q89)
      else
       some (Sum.inr ())
  ) (id) fun ()=>
  some (-1)
def Bh (N:Nat) (p0:Aj) (p2:Block) (rec_spec_blockType:Aj→(List Int)→Block→Option (Int)):Nat→Int→(List Int)→Option ((Int) ⊕ ((List Int)))
 | 0,_,_=>none
 | n+1,i6,l7=>
  if (decide (i6 < (Sh.len p2.steps)))=true then
   Sh.cont (
    Option.bind (Sh.get p2.steps i6) fun c26=>
    Option.bind (Dz N rec_spec_blockType p0 l7 c26) fun q27=>
    if (decide (q27 < 0))=true then
     some (Sum.inl (Sum.inl (-1)))
    else
     Option.bind (Gm c26.op) fun q33=>
     if q33=true then
      Option.bind (Sh.app l7 [q27] 8) fun l35=>
      some (Sum.inr l35)
     else
      some (Sum.inr l7)
   ) (id) fun l23=>
   Bh N p0 p2 rec_spec_blockType n (Sh.w (i6+1)) l23
  else
   some (Sum.inr l7)
def E1 (N:Nat) (rec_spec_blockType:Aj→(List Int)→Block→Option (Int)) (p0:Aj) (p1:(List Int)) (p2:Block):Option (Int):=
 Option.bind (Cw p1) fun q3=>
 Sh.cont (Bh N p0 p2 rec_spec_blockType N 0 q3) (id) fun l8=>
 Option.bind (BT p2.result 0 (Sh.w ((Sh.len l8) - 1))) fun q12=>
 if (!q12)=true then
  some (-1)
 else
  Option.bind (Sh.get l8 p2.result) fun c18=>
  some c18
def Ce (N:Nat):Nat→Aj→(List Int)→Block→Option (Int)
 | 0,_,_,_=>none
 | n+1,p0,p1,p2=>E1 N (Ce N n) p0 p1 p2
def Jd (N:Nat) (p0:Aj) (p1:(List Int)) (p2:Block):Option (Int):=Ce N N p0 p1 p2
def Cj (N:Nat) (p0:Aj):Nat→Int→Option ((Bool) ⊕ (Unit))
 | 0,_=>none
 | n+1,i11=>
  if (decide (i11 < (Sh.len p0.AD)))=true then
   Option.bind (Sh.get p0.AD i11) fun c19=>
   Option.bind (
    Option.bind (Ha N c19.body) fun q25=>
    if (decide (q25 < 0))=true then
     some true
    else
     Option.bind (Jd N p0 c19.params c19.body) fun q27=>
     some (!decide (q27=c19.result))
   ) fun t21=>
   if t21=true then
    some (Sum.inl false)
   else
    Cj N p0 n (Sh.w (i11+1))
  else
   some (Sum.inr ())
def E0 (N:Nat) (p0:Aj):Option (Bool):=
 Option.bind (Ea N p0) fun q4=>
 if (!q4)=true then
  some false
 else
  Sh.cont (Cj N p0 N 0) (id) fun ()=>
  some true
def B4 (i4:Int) (p0:Block) (rec_spec_plainSteps:Block→Option (Bool)):Nat→Int→Option ((Bool) ⊕ (Unit))
 | 0,_=>none
 | n+1,k18=>
  Option.bind (Sh.get p0.steps i4) fun c22=>
  if (decide (k18 < (Sh.len c22.kids)))=true then
   Option.bind (Sh.get c22.kids k18) fun c26=>
   Option.bind (rec_spec_plainSteps c26) fun q27=>
   if (!q27)=true then
    some (Sum.inl false)
   else
    B4 i4 p0 rec_spec_plainSteps n (Sh.w (k18+1))
  else
   some (Sum.inr ())
def CV (N:Nat) (p0:Block) (rec_spec_plainSteps:Block→Option (Bool)):Nat→Int→Option ((Bool) ⊕ (Unit))
 | 0,_=>none
 | n+1,i4=>
  if (decide (i4 < (Sh.len p0.steps)))=true then
   Option.bind (
    Option.bind (Sh.get p0.steps i4) fun c32=>
    Option.bind (GA c32.op) fun q33=>
    if q33=true then
     some true
    else
     some (!decide (c32.Ax=0))
   ) fun t13=>
   if t13=true then
    some (Sum.inl false)
   else
    Sh.cont (B4 i4 p0 rec_spec_plainSteps N 0) (fun x=>Sum.inl x) fun ()=>
    CV N p0 rec_spec_plainSteps n (Sh.w (i4+1))
  else
   some (Sum.inr ())
def GX (N:Nat) (rec_spec_plainSteps:Block→Option (Bool)) (p0:Block):Option (Bool):=
 Sh.cont (CV N p0 rec_spec_plainSteps N 0) (id) fun ()=>
 some true
def D8 (N:Nat):Nat→Block→Option (Bool)
 | 0,_=>none
 | n+1,p0=>GX N (D8 N n) p0
def HU (N:Nat) (p0:Block):Option (Bool):=D8 N N p0
def EB (N:Nat) (p0:Aj):Nat→Int→Option ((Bool) ⊕ (Unit))
 | 0,_=>none
 | n+1,i11=>
  if (decide (i11 < (Sh.len p0.AD)))=true then
   Option.bind (Sh.get p0.AD i11) fun c19=>
   Option.bind (HU N c19.body) fun q20=>
   if (!q20)=true then
    some (Sum.inl false)
   else
    EB N p0 n (Sh.w (i11+1))
  else
   some (Sum.inr ())
def Fq (N:Nat) (p0:Aj):Option (Bool):=
 Option.bind (E0 N p0) fun q4=>
 if (!q4)=true then
  some false
 else
  Sh.cont (EB N p0 N 0) (id) fun ()=>
  some true
def JH (N:Nat) (p0:Aj):Option (Bool):=
 Option.bind (Fq N p0) fun q3=>
 some q3
def CC (p0:Aj):Nat→Int→(List Ba)→Option ((List Ba))
 | 0,_,_=>none
 | n+1,t9,l10=>
  if (decide (t9 < (Sh.len p0.AD)))=true then
   Option.bind (Sh.get p0.AD t9) fun c20=>
   Option.bind (Sh.app l10 [(Ba.mk c20.params c20.At c20.result)] 56) fun l21=>
   CC p0 n (Sh.w (t9+1)) l21
  else
   some l10
def Fx (N:Nat) (p0:Aj):Option (A1×Bool):=
 if (decide (4 < (Sh.len p0.AD)))=true then
  some ((A1.mk [] []),false)
 else
  Option.bind (CC p0 N 0 []) fun l11=>
  Option.bind (Gi N p0.decls l11) fun q14=>
  some ((A1.mk p0.decls l11),q14)
def Bg (N:Nat) (p0:A1) (p1:(List Int)) (p2:(List Block)) (p3:(List (List Int))) (rec_impl_signatures_blockType:A1→(List Int)→Block→Option (Int)):Nat→Int→Int→Option ((Int×Bool) ⊕ (Int))
 | 0,_,_=>none
 | n+1,result5,t6=>
  if (decide (t6 < (Sh.len p2)))=true then
   Option.bind (Sh.get p2 t6) fun c15=>
   Option.bind (Sh.get p3 t6) fun c17=>
   Option.bind (Db N [p1,c17]) fun q18=>
   Option.bind (rec_impl_signatures_blockType p0 q18 c15) fun q19=>
   Option.bind (
    if (decide (q19 < 0))=true then
     some true
    else
    if (decide (0 < t6))=true then
     some (!decide (q19=result5))
    else
     some false
   ) fun t22=>
   if t22=true then
    some (Sum.inl (-1,false))
   else
    Bg N p0 p1 p2 p3 rec_impl_signatures_blockType n q19 (Sh.w (t6+1))
  else
   some (Sum.inr result5)
def Bu (N:Nat) (rec_impl_signatures_blockType:A1→(List Int)→Block→Option (Int)) (p0:A1) (p1:(List Int)) (p2:(List Block)) (p3:(List (List Int))):Option (Int×Bool):=
 Sh.cont (Bg N p0 p1 p2 p3 rec_impl_signatures_blockType N (-1) 0) (id) fun result7=>
 some (result7,true)
def BV (N:Nat) (p0:A1) (q5:(List Int)):Nat→Int→(List (List Int))→Option ((List (List Int)))
 | 0,_,_=>none
 | n+1,t6,l7=>
  if (decide (t6 < (Sh.len q5)))=true then
   Option.bind (Sh.get q5 t6) fun c16=>
   Option.bind (FL N p0.decls c16) fun q17=>
   Option.bind (Sh.app l7 [q17] 24) fun l18=>
   BV N p0 q5 n (Sh.w (t6+1)) l18
  else
   some l7
def Ca (N:Nat) (p0:A1) (p1:Int):Option ((List (List Int))):=
 Option.bind (IQ N p0.decls p1) fun q5=>
 Option.bind (BV N p0 q5 N 0 []) fun l8=>
 some l8
def BP (p1:(List Int)) (p2:Step):Nat→Int→(List Int)→Option ((Int×Bool) ⊕ ((List Int)))
 | 0,_,_=>none
 | n+1,t6,l7=>
  if (decide (t6 < (Sh.len p2.args)))=true then
   Option.bind (Sh.get p2.args t6) fun c94=>
   Option.bind (
    if (decide (c94 < 0))=true then
     some true
    else
     some (decide ((Sh.len p1)≤c94))
   ) fun t97=>
   if t97=true then
    some (Sum.inl (-1,false))
   else
    Option.bind (Sh.get p1 c94) fun c101=>
    Option.bind (Sh.app l7 [c101] 8) fun l102=>
    BP p1 p2 n (Sh.w (t6+1)) l102
  else
   some (Sum.inr l7)
def Bj (N:Nat) (rec_impl_signatures_blockType:A1→(List Int)→Block→Option (Int)) (p0:A1) (p1:(List Int)) (p2:Step):Option (Int×Bool):=
 Option.bind (Sh.mk 0 (Sh.len p2.args) 8) fun l3=>
 Sh.cont (BP p1 p2 N 0 []) (id) fun l8=>
 Option.bind (
  if (!decide (p2.Ax=0))=true then
   if (!decide (p2.op=6))=true then
    some true
   else
   if (decide (p2.Ax < 1))=true then
    some true
   else
   if (decide ((Sh.len p1) < p2.Ax))=true then
    some true
   else
    Option.bind (Sh.get p1 (Sh.w (p2.Ax - 1))) fun c88=>
    some (decide (c88=0))
  else
   some false
 ) fun t12=>
 if t12=true then
  some (-1,false)
 else
  Option.bind (CG p2.op) fun q18=>
  if q18=true then
   Option.bind (
    if (decide ((Sh.len l8)=1))=true then
     Option.bind (Sh.get l8 0) fun c38=>
     if (!decide (c38=0))=true then
      if (decide (p2.num=0))=true then
       some (decide ((Sh.len p2.kids)=0))
      else
       some false
     else
      some false
    else
     some false
   ) fun ok21=>
   Option.bind (
    Option.bind (
     if ok21=true then
      if (decide (p2.op=16))=true then
       some true
      else
       some (decide (p2.op=17))
     else
      some false
    ) fun t28=>
    if t28=true then
     Option.bind (Sh.get l8 0) fun c32=>
     Option.bind (Fm p0.decls c32) fun q33=>
     some (!q33.2)
    else
     some ok21
   ) fun ok24=>
   some (-1,ok24)
  else
  if (decide (p2.op=7))=true then
   Option.bind (
    if (!decide ((Sh.len l8)=1))=true then
     some true
    else
     Option.bind (Sh.get l8 0) fun c53=>
     if (!decide (c53=0))=true then
      some true
     else
     if (!decide (p2.num=0))=true then
      some true
     else
      some (!decide ((Sh.len p2.kids)=2))
   ) fun t45=>
   if t45=true then
    some (-1,false)
   else
    Option.bind (Sh.mk [] 2 24) fun l50=>
    Option.bind (Bu N rec_impl_signatures_blockType p0 p1 p2.kids l50) fun q51=>
    some (q51.1,q51.2)
  else
  if (decide (p2.op=8))=true then
   Option.bind (Ca N p0 p2.num) fun q59=>
   Option.bind (
    if (!decide ((Sh.len l8)=1))=true then
     some true
    else
     Option.bind (Sh.get l8 0) fun c69=>
     if (!decide (c69=p2.num))=true then
      some true
     else
     if (decide ((Sh.len q59)=0))=true then
      some true
     else
      some (!decide ((Sh.len p2.kids)=(Sh.len q59)))
   ) fun t62=>
   if t62=true then
    some (-1,false)
   else
    Option.bind (Bu N rec_impl_signatures_blockType p0 p1 p2.kids q59) fun q67=>
    some (q67.1,q67.2)
  else
   Option.bind (
    if (decide (0 < (Sh.len p2.kids)))=true then
     some true
    else
    if (decide (p2.op=10))=true then
     if (decide (0≤p2.num))=true then
      if (decide (p2.num < (Sh.len p0.funcs)))=true then
       Option.bind (Sh.get p0.funcs p2.num) fun c83=>
       some (decide (0 < (Sh.len c83.At)))
      else
       some false
     else
      some false
    else
     some false
   ) fun t73=>
   if t73=true then
    some (-1,false)
   else
    Option.bind (Av N p0 p2.op p2.num l8) fun q78=>
    some (q78.1,q78.2)
def BG (N:Nat) (p0:A1) (p2:Block) (rec_impl_signatures_blockType:A1→(List Int)→Block→Option (Int)):Nat→Int→(List Int)→Option ((Int) ⊕ ((List Int)))
 | 0,_,_=>none
 | n+1,t6,l7=>
  if (decide (t6 < (Sh.len p2.steps)))=true then
   Sh.cont (
    Option.bind (Sh.get p2.steps t6) fun c26=>
    Option.bind (Bj N rec_impl_signatures_blockType p0 l7 c26) fun q28=>
    if (!q28.2)=true then
     some (Sum.inl (Sum.inl (-1)))
    else
     Option.bind (CG c26.op) fun q36=>
     if (!q36)=true then
      Option.bind (Sh.app l7 [q28.1] 8) fun l39=>
      some (Sum.inr l39)
     else
      some (Sum.inr l7)
   ) (id) fun l23=>
   BG N p0 p2 rec_impl_signatures_blockType n (Sh.w (t6+1)) l23
  else
   some (Sum.inr l7)
def CH (N:Nat) (rec_impl_signatures_blockType:A1→(List Int)→Block→Option (Int)) (p0:A1) (p1:(List Int)) (p2:Block):Option (Int):=
 Option.bind (Be p1) fun q3=>
 Sh.cont (BG N p0 p2 rec_impl_signatures_blockType N 0 q3) (id) fun l8=>
 Option.bind (
  if (decide (p2.result < 0))=true then
   some true
  else
   some (decide ((Sh.len l8)≤p2.result))
 ) fun t12=>
 if t12=true then
  some (-1)
 else
  Option.bind (Sh.get l8 p2.result) fun c17=>
  some c17
def Br (N:Nat):Nat→A1→(List Int)→Block→Option (Int)
 | 0,_,_,_=>none
 | n+1,p0,p1,p2=>CH N (Br N n) p0 p1 p2
def FP (N:Nat) (p0:A1) (p1:(List Int)) (p2:Block):Option (Int):=Br N N p0 p1 p2
def Cm (N:Nat) (p0:Aj) (q3:A1×Bool):Nat→Int→Option ((Bool) ⊕ (Unit))
 | 0,_=>none
 | n+1,t12=>
  if (decide (t12 < (Sh.len p0.AD)))=true then
   Option.bind (Sh.get p0.AD t12) fun c20=>
   Option.bind (
    Option.bind (HZ N c20.body) fun q26=>
    if (decide (q26 < 0))=true then
     some true
    else
     Option.bind (FP N q3.1 c20.params c20.body) fun q28=>
     some (!decide (q28=c20.result))
   ) fun t22=>
   if t22=true then
    some (Sum.inl false)
   else
    Cm N p0 q3 n (Sh.w (t12+1))
  else
   some (Sum.inr ())
def Fl (N:Nat) (p0:Aj):Option (Bool):=
 Option.bind (Fx N p0) fun q3=>
 if (!q3.2)=true then
  some false
 else
  Sh.cont (Cm N p0 q3 N 0) (id) fun ()=>
  some true
def En (s0_0:Bool) (p0:Step):Option (Bool):=
 if s0_0=true then
  Option.bind (CG p0.op) fun q3=>
  if (!q3)=true then
   some (decide (p0.Ax=0))
  else
   some false
 else
  some false
def B6 (c13:Step) (rec_impl_visitSteps:Bool→Block→Option (Bool)):Nat→Int→Bool→Option (Bool)
 | 0,_,_=>none
 | n+1,t17,f18=>
  if (decide (t17 < (Sh.len c13.kids)))=true then
   Option.bind (Sh.get c13.kids t17) fun c26=>
   Option.bind (rec_impl_visitSteps f18 c26) fun q27=>
   B6 c13 rec_impl_visitSteps n (Sh.w (t17+1)) q27
  else
   some f18
def B5 (N:Nat) (p0:Block) (rec_impl_visitSteps:Bool→Block→Option (Bool)):Nat→Int→Bool→Option (Bool)
 | 0,_,_=>none
 | n+1,t4,f5=>
  if (decide (t4 < (Sh.len p0.steps)))=true then
   Option.bind (Sh.get p0.steps t4) fun c13=>
   Option.bind (En f5 c13) fun q15=>
   Option.bind (B6 c13 rec_impl_visitSteps N 0 q15) fun f19=>
   B5 N p0 rec_impl_visitSteps n (Sh.w (t4+1)) f19
  else
   some f5
def GW (N:Nat) (rec_impl_visitSteps:Bool→Block→Option (Bool)) (s0_0:Bool) (p0:Block):Option (Bool):=
 Option.bind (B5 N p0 rec_impl_visitSteps N 0 s0_0) fun f6=>
 some f6
def D9 (N:Nat):Nat→Bool→Block→Option (Bool)
 | 0,_,_=>none
 | n+1,s0_0,p0=>GW N (D9 N n) s0_0 p0
def Iv (N:Nat) (s0_0:Bool) (p0:Block):Option (Bool):=D9 N N s0_0 p0
def FV (N:Nat) (p0:Block):Option (Bool):=
 Option.bind (Iv N true p0) fun q4=>
 some q4
def EH (N:Nat) (p0:Aj):Nat→Int→Option ((Bool) ⊕ (Unit))
 | 0,_=>none
 | n+1,t11=>
  if (decide (t11 < (Sh.len p0.AD)))=true then
   Option.bind (Sh.get p0.AD t11) fun c19=>
   Option.bind (FV N c19.body) fun q21=>
   if (!q21)=true then
    some (Sum.inl false)
   else
    EH N p0 n (Sh.w (t11+1))
  else
   some (Sum.inr ())
def Gn (N:Nat) (p0:Aj):Option (Bool):=
 Option.bind (Fl N p0) fun q4=>
 if (!q4)=true then
  some false
 else
  Sh.cont (EH N p0 N 0) (id) fun ()=>
  some true
def Gg (N:Nat) (p0:Ac) (p1:Ac):Option (Bool):=
 Option.bind (Fg N p0.params p1.params) fun q4=>
 if (!q4)=true then
  some false
 else
  Option.bind (Fg N p0.At p1.At) fun q11=>
  if (!q11)=true then
   some false
  else
  if (!decide (p0.result=p1.result))=true then
   some false
  else
   Option.bind (JF N p0.body p1.body) fun q24=>
   if (!q24)=true then
    some false
   else
    some true
def DB (N:Nat) (p0:(List Ac)) (p1:(List Ac)):Nat→Int→Option ((Bool) ⊕ (Unit))
 | 0,_=>none
 | n+1,i10=>
  if (decide (i10 < (Sh.len p0)))=true then
   Option.bind (Sh.get p0 i10) fun c18=>
   Option.bind (Sh.get p1 i10) fun c19=>
   Option.bind (Gg N c18 c19) fun q20=>
   if (!q20)=true then
    some (Sum.inl false)
   else
    DB N p0 p1 n (Sh.w (i10+1))
  else
   some (Sum.inr ())
def Fy (N:Nat) (p0:(List Ac)) (p1:(List Ac)):Option (Bool):=
 if (!decide ((Sh.len p0)=(Sh.len p1)))=true then
  some false
 else
  Sh.cont (DB N p0 p1 N 0) (id) fun ()=>
  some true
def Ew (N:Nat) (p0:Aj) (p1:Aj):Option (Bool):=
 Option.bind (HY N p0.decls p1.decls) fun q4=>
 if (!q4)=true then
  some false
 else
  Option.bind (Fy N p0.AD p1.AD) fun q11=>
  if (!q11)=true then
   some false
  else
   some true
end RC


namespace RC
def CE (p0:(List Ag)):Option ((List Ag)):=
 Option.bind (Sh.app ([]:List Ag) p0 40) fun l6=>
 some l6
def Bx (p0:(List BO)):Option ((List BO)):=
 Option.bind (Sh.app ([]:List BO) p0 24) fun l6=>
 some l6
end RC


namespace RC
def DC (cs:List BO):Nat→Int→List BO→Option (List BO)
 | 0,_,_=>none
 | n+1,i,q=>
  if decide (i < Sh.len cs)=true then
   Option.bind (Sh.get cs i) fun c=>
   Option.bind (Be c.fields) fun f=>
   Option.bind (Sh.get q i) fun _=>
   DC cs n (Sh.w (i+1)) (Sh.put q i (BO.mk f))
  else some q
def C7 (N:Nat) (m:Int):Nat→Int→List Ag→Option (List Ag)
 | 0,_,_=>none
 | n+1,t,l=>
  if decide (t < m)=true then
   Option.bind (Sh.get l t) fun d=>
   Option.bind (Bx d.cons) fun q21=>
   Option.bind (DC d.cons N 0 q21) fun q=>
   C7 N m n (Sh.w (t+1)) (Sh.put l t (Ag.mk d.from_ d.to q))
  else some l
def GH (N:Nat) (p0:List Ag):Option (List Ag):=
 Option.bind (CE p0) fun q9=>
 Option.bind (C7 N (Sh.len q9) N 0 q9) fun l=>
 some l
end RC


namespace RC
def Dt :Nat→Int→Int→(List Int)→Option (Int×(List Int))
 | 0,_,_,_=>none
 | n+1,k4,i5,l6=>
  if (decide (i5 < (Sh.len l6)))=true then
   Option.bind (Sh.get l6 i5) fun c16=>
   Dt  n (Sh.w (k4+1)) (Sh.w (i5+1)) (Sh.put l6 i5 k4)
  else
   some (k4,l6)
def Ep (N:Nat) (s0:(List Int)) (p1:Int):Option (Int×(List Int)):=
 Option.bind (Dt  N p1 0 s0) fun (k7,l8)=>
 some (k7,l8)
def Dv (N:Nat):Nat→Int→Int→(List BO)→Option (Int×(List BO))
 | 0,_,_,_=>none
 | n+1,k4,i5,l6=>
  if (decide (i5 < (Sh.len l6)))=true then
   Option.bind (Sh.get l6 i5) fun c15=>
   Option.bind (Ep N c15.fields k4) fun q16=>
   Dv N n q16.1 (Sh.w (i5+1)) (Sh.put l6 i5 (BO.mk q16.2))
  else
   some (k4,l6)
def G7 (N:Nat) (s0:(List BO)) (p1:Int):Option (Int×(List BO)):=
 Option.bind (Dv N N p1 0 s0) fun (k7,l8)=>
 some (k7,l8)
def DY (N:Nat):Nat→Int→Int→(List Ag)→Option (Int×(List Ag))
 | 0,_,_,_=>none
 | n+1,k4,i5,l6=>
  if (decide (i5 < (Sh.len l6)))=true then
   Option.bind (Sh.get l6 i5) fun c16=>
   Option.bind (Sh.get (Sh.put l6 i5 (Ag.mk k4 c16.to c16.cons)) i5) fun c19=>
   Option.bind (Sh.get (Sh.put (Sh.put l6 i5 (Ag.mk k4 c16.to c16.cons)) i5 (Ag.mk c19.from_ (Sh.w (k4+1)) c19.cons)) i5) fun c21=>
   Option.bind (G7 N c21.cons (Sh.w ((Sh.w (k4+1)) + 1))) fun q22=>
   DY N n q22.1 (Sh.w (i5+1)) (Sh.put (Sh.put (Sh.put l6 i5 (Ag.mk k4 c16.to c16.cons)) i5 (Ag.mk c19.from_ (Sh.w (k4+1)) c19.cons)) i5 (Ag.mk c21.from_ c21.to q22.2))
  else
   some (k4,l6)
def GZ (N:Nat) (s0:(List Ag)) (p1:Int):Option (Int×(List Ag)):=
 Option.bind (DY N N p1 0 s0) fun (k7,l8)=>
 some (k7,l8)
def C6 (rec_laws_markStepS:(List Step)→Int→Option (Int×(List Step))):Nat→Int→Int→(List Block)→Option (Int×(List Block))
 | 0,_,_,_=>none
 | n+1,k4,i5,l6=>
  if (decide (i5 < (Sh.len l6)))=true then
   Option.bind (Sh.get l6 i5) fun c16=>
   Option.bind (rec_laws_markStepS c16.steps k4) fun q17=>
   Option.bind (Sh.get (Sh.put l6 i5 (Block.mk q17.2 c16.result)) i5) fun c20=>
   C6 rec_laws_markStepS n (Sh.w (q17.1+1)) (Sh.w (i5+1)) (Sh.put (Sh.put l6 i5 (Block.mk q17.2 c16.result)) i5 (Block.mk c20.steps q17.1))
  else
   some (k4,l6)
def GD (N:Nat) (rec_laws_markStepS:(List Step)→Int→Option (Int×(List Step))) (s0:(List Block)) (p1:Int):Option (Int×(List Block)):=
 Option.bind (C6 rec_laws_markStepS N p1 0 s0) fun (k7,l8)=>
 some (k7,l8)
def Cn (N:Nat) (rec_laws_markStepS:(List Step)→Int→Option (Int×(List Step))):Nat→Int→Int→(List Step)→Option (Int×(List Step))
 | 0,_,_,_=>none
 | n+1,k4,i5,l6=>
  if (decide (i5 < (Sh.len l6)))=true then
   Option.bind (Sh.get l6 i5) fun c16=>
   Option.bind (Sh.get (Sh.put l6 i5 (Step.mk k4 c16.num c16.Ax c16.args c16.kids)) i5) fun c19=>
   Option.bind (Sh.get (Sh.put (Sh.put l6 i5 (Step.mk k4 c16.num c16.Ax c16.args c16.kids)) i5 (Step.mk c19.op (Sh.w (k4+1)) c19.Ax c19.args c19.kids)) i5) fun c22=>
   Option.bind (Sh.get (Sh.put (Sh.put (Sh.put l6 i5 (Step.mk k4 c16.num c16.Ax c16.args c16.kids)) i5 (Step.mk c19.op (Sh.w (k4+1)) c19.Ax c19.args c19.kids)) i5 (Step.mk c22.op c22.num (Sh.w ((Sh.w (k4+1)) + 1)) c22.args c22.kids)) i5) fun c25=>
   Option.bind (Ep N c25.args (Sh.w ((Sh.w ((Sh.w (k4+1)) + 1)) + 1))) fun q26=>
   Option.bind (Sh.get (Sh.put (Sh.put (Sh.put (Sh.put l6 i5 (Step.mk k4 c16.num c16.Ax c16.args c16.kids)) i5 (Step.mk c19.op (Sh.w (k4+1)) c19.Ax c19.args c19.kids)) i5 (Step.mk c22.op c22.num (Sh.w ((Sh.w (k4+1)) + 1)) c22.args c22.kids)) i5 (Step.mk c25.op c25.num c25.Ax q26.2 c25.kids)) i5) fun c28=>
   Option.bind (GD N rec_laws_markStepS c28.kids q26.1) fun q29=>
   Cn N rec_laws_markStepS n q29.1 (Sh.w (i5+1)) (Sh.put (Sh.put (Sh.put (Sh.put (Sh.put l6 i5 (Step.mk k4 c16.num c16.Ax c16.args c16.kids)) i5 (Step.mk c19.op (Sh.w (k4+1)) c19.Ax c19.args c19.kids)) i5 (Step.mk c22.op c22.num (Sh.w ((Sh.w (k4+1)) + 1)) c22.args c22.kids)) i5 (Step.mk c25.op c25.num c25.Ax q26.2 c25.kids)) i5 (Step.mk c28.op c28.num c28.Ax c28.args q29.2))
  else
   some (k4,l6)
def G0 (N:Nat) (rec_laws_markStepS:(List Step)→Int→Option (Int×(List Step))) (s0:(List Step)) (p1:Int):Option (Int×(List Step)):=
 Option.bind (Cn N rec_laws_markStepS N p1 0 s0) fun (k7,l8)=>
 some (k7,l8)
def DG (N:Nat):Nat→(List Step)→Int→Option (Int×(List Step))
 | 0,_,_=>none
 | n+1,s0,p1=>G0 N (DG N n) s0 p1
def Hu (N:Nat) (s0:(List Step)) (p1:Int):Option (Int×(List Step)):=DG N N s0 p1
def CW (N:Nat):Nat→Int→Int→(List Ac)→Option (Int×(List Ac))
 | 0,_,_,_=>none
 | n+1,k4,i5,l6=>
  if (decide (i5 < (Sh.len l6)))=true then
   Option.bind (Sh.get l6 i5) fun c16=>
   Option.bind (Ep N c16.params k4) fun q17=>
   Option.bind (Sh.get (Sh.put l6 i5 (Ac.mk q17.2 c16.At c16.result c16.body)) i5) fun c20=>
   Option.bind (Ep N c20.At q17.1) fun q21=>
   Option.bind (Sh.get (Sh.put (Sh.put l6 i5 (Ac.mk q17.2 c16.At c16.result c16.body)) i5 (Ac.mk c20.params q21.2 c20.result c20.body)) i5) fun c24=>
   Option.bind (Sh.get (Sh.put (Sh.put (Sh.put l6 i5 (Ac.mk q17.2 c16.At c16.result c16.body)) i5 (Ac.mk c20.params q21.2 c20.result c20.body)) i5 (Ac.mk c24.params c24.At q21.1 c24.body)) i5) fun c27=>
   Option.bind (Hu N c27.body.steps (Sh.w (q21.1+1))) fun q28=>
   Option.bind (Sh.get (Sh.put (Sh.put (Sh.put (Sh.put l6 i5 (Ac.mk q17.2 c16.At c16.result c16.body)) i5 (Ac.mk c20.params q21.2 c20.result c20.body)) i5 (Ac.mk c24.params c24.At q21.1 c24.body)) i5 (Ac.mk c27.params c27.At c27.result (Block.mk q28.2 c27.body.result))) i5) fun c31=>
   CW N n (Sh.w (q28.1+1)) (Sh.w (i5+1)) (Sh.put (Sh.put (Sh.put (Sh.put (Sh.put l6 i5 (Ac.mk q17.2 c16.At c16.result c16.body)) i5 (Ac.mk c20.params q21.2 c20.result c20.body)) i5 (Ac.mk c24.params c24.At q21.1 c24.body)) i5 (Ac.mk c27.params c27.At c27.result (Block.mk q28.2 c27.body.result))) i5 (Ac.mk c31.params c31.At c31.result (Block.mk c31.body.steps q28.1)))
  else
   some (k4,l6)
def FU (N:Nat) (s0:(List Ac)) (p1:Int):Option (Int×(List Ac)):=
 Option.bind (CW N N p1 0 s0) fun (k7,l8)=>
 some (k7,l8)
def FG (N:Nat) (s0:(List Ag)) (s1:(List Ac)) (p1:Int):Option (Int×(List Ag)×(List Ac)):=
 Option.bind (GZ N s0 p1) fun q3=>
 Option.bind (FU N s1 q3.1) fun q6=>
 some (q6.1,q3.2,q6.2)
def Dr (p0:(List Int)):Nat→Int→Int→Option ((Int) ⊕ (Int))
 | 0,_,_=>none
 | n+1,k4,i5=>
  if (decide (i5 < (Sh.len p0)))=true then
   Option.bind (Sh.get p0 i5) fun c15=>
   if (!decide (c15=k4))=true then
    some (Sum.inl (-1))
   else
    Dr p0 n (Sh.w (k4+1)) (Sh.w (i5+1))
  else
   some (Sum.inr k4)
def Ey (N:Nat) (p0:(List Int)) (p1:Int):Option (Int):=
 Sh.cont (Dr p0 N p1 0) (id) fun k6=>
 some k6
end RC


namespace RC
def Cv (i5:Int) (p0:(List Ag)):Nat→Int→(List BO)→Option ((List BO))
 | 0,_,_=>none
 | n+1,k17,l18=>
  Option.bind (Sh.get p0 i5) fun c25=>
  if (decide (k17 < (Sh.len c25.cons)))=true then
   Option.bind (Sh.get c25.cons k17) fun c28=>
   Option.bind (Cw c28.fields) fun q29=>
   Option.bind (Sh.app l18 [(BO.mk q29)] 24) fun l30=>
   Cv i5 p0 n (Sh.w (k17+1)) l30
  else
   some l18
def DR (N:Nat) (p0:(List Ag)):Nat→Int→(List Ag)→Option ((List Ag))
 | 0,_,_=>none
 | n+1,i5,l6=>
  if (decide (i5 < (Sh.len p0)))=true then
   Option.bind (Cv i5 p0 N 0 []) fun l19=>
   Option.bind (Sh.get p0 i5) fun c21=>
   Option.bind (Sh.app l6 [(Ag.mk c21.from_ c21.to l19)] 40) fun l22=>
   DR N p0 n (Sh.w (i5+1)) l22
  else
   some l6
def GY (N:Nat) (p0:(List Ag)):Option ((List Ag)):=
 Option.bind (DR N p0 N 0 []) fun l7=>
 some l7
def Dx (p0:Step) (rec_spec_copyBlock:Block→Option (Block)):Nat→Int→(List Block)→Option ((List Block))
 | 0,_,_=>none
 | n+1,i5,l6=>
  if (decide (i5 < (Sh.len p0.kids)))=true then
   Option.bind (Sh.get p0.kids i5) fun c15=>
   Option.bind (rec_spec_copyBlock c15) fun q16=>
   Option.bind (Sh.app l6 [q16] 32) fun l17=>
   Dx p0 rec_spec_copyBlock n (Sh.w (i5+1)) l17
  else
   some l6
def HB (N:Nat) (rec_spec_copyBlock:Block→Option (Block)) (p0:Step):Option (Step):=
 Option.bind (Dx p0 rec_spec_copyBlock N 0 []) fun l7=>
 Option.bind (Cw p0.args) fun q10=>
 some (Step.mk p0.op p0.num p0.Ax q10 l7)
def Cg (N:Nat) (p0:Block) (rec_spec_copyBlock:Block→Option (Block)):Nat→Int→(List Step)→Option ((List Step))
 | 0,_,_=>none
 | n+1,i5,l6=>
  if (decide (i5 < (Sh.len p0.steps)))=true then
   Option.bind (Sh.get p0.steps i5) fun c14=>
   Option.bind (HB N rec_spec_copyBlock c14) fun q15=>
   Option.bind (Sh.app l6 [q15] 72) fun l16=>
   Cg N p0 rec_spec_copyBlock n (Sh.w (i5+1)) l16
  else
   some l6
def Gw (N:Nat) (rec_spec_copyBlock:Block→Option (Block)) (p0:Block):Option (Block):=
 Option.bind (Cg N p0 rec_spec_copyBlock N 0 []) fun l7=>
 some (Block.mk l7 p0.result)
def EM (N:Nat):Nat→Block→Option (Block)
 | 0,_=>none
 | n+1,p0=>Gw N (EM N n) p0
def Ht (N:Nat) (p0:Block):Option (Block):=EM N N p0
def Dq (N:Nat) (p0:Aj) (p1:(List (List Int))):Nat→Int→(List Ac)→Option ((List Ac))
 | 0,_,_=>none
 | n+1,i6,l7=>
  if (decide (i6 < (Sh.len p0.AD)))=true then
   Option.bind (Sh.get p0.AD i6) fun c16=>
   Option.bind (Cw c16.params) fun q17=>
   Option.bind (Sh.get p1 i6) fun c18=>
   Option.bind (Cw c18) fun q19=>
   Option.bind (Ht N c16.body) fun q20=>
   Option.bind (Sh.app l7 [(Ac.mk q17 q19 c16.result q20)] 88) fun l21=>
   Dq N p0 p1 n (Sh.w (i6+1)) l21
  else
   some l7
def IW (N:Nat) (p0:Aj) (p1:(List (List Int))):Option (Aj):=
 Option.bind (GY N p0.decls) fun q3=>
 Option.bind (Dq N p0 p1 N 0 []) fun l8=>
 some (Aj.mk q3 l8)
def EY (p0:Aj):Nat→Int→(List (List Int))→Option ((List (List Int)))
 | 0,_,_=>none
 | n+1,i12,l13=>
  if (decide (i12 < (Sh.len p0.AD)))=true then
   Option.bind (Sh.app l13 ([[]]) 24) fun l22=>
   EY p0 n (Sh.w (i12+1)) l22
  else
   some l13
def II (N:Nat) (p0:Aj):Option (Aj×Bool):=
 Option.bind (Fq N p0) fun q4=>
 if (!q4)=true then
  some ((Aj.mk [] []),false)
 else
  Option.bind (EY p0 N 0 []) fun l14=>
  Option.bind (IW N p0 l14) fun q17=>
  some (q17,true)
def Fv (s0:(List Block)) (p0:Step):Option (Step):=
 Option.bind (Be p0.args) fun q3=>
 some (Step.mk p0.op p0.num p0.Ax q3 s0)
def CU (p0:Step) (rec_impl_plainBlock:Block→Option (Block)):Nat→Int→(List Block)→Option ((List Block))
 | 0,_,_=>none
 | n+1,t5,l6=>
  if (decide (t5 < (Sh.len p0.kids)))=true then
   Option.bind (Sh.get p0.kids t5) fun c16=>
   Option.bind (rec_impl_plainBlock c16) fun q17=>
   Option.bind (Sh.app l6 [q17] 32) fun l18=>
   CU p0 rec_impl_plainBlock n (Sh.w (t5+1)) l18
  else
   some l6
def FO (N:Nat) (rec_impl_plainBlock:Block→Option (Block)) (p0:Step):Option (Step):=
 Option.bind (CU p0 rec_impl_plainBlock N 0 []) fun l7=>
 Option.bind (Fv l7 p0) fun q10=>
 some (Step.mk q10.op q10.num q10.Ax q10.args l7)
def B9 (N:Nat) (p0:Block) (rec_impl_plainBlock:Block→Option (Block)):Nat→Int→(List Step)→Option ((List Step))
 | 0,_,_=>none
 | n+1,t5,l6=>
  if (decide (t5 < (Sh.len p0.steps)))=true then
   Option.bind (
    Option.bind (Sh.get p0.steps t5) fun c17=>
    Option.bind (CG c17.op) fun q19=>
    if (!q19)=true then
     Option.bind (FO N rec_impl_plainBlock c17) fun q23=>
     Option.bind (Sh.app l6 [(Step.mk q23.op q23.num 0 q23.args q23.kids)] 72) fun l25=>
     some l25
    else
     some l6
   ) fun l14=>
   B9 N p0 rec_impl_plainBlock n (Sh.w (t5+1)) l14
  else
   some l6
def GU (N:Nat) (rec_impl_plainBlock:Block→Option (Block)) (p0:Block):Option (Block):=
 Option.bind (B9 N p0 rec_impl_plainBlock N 0 []) fun l7=>
 some (Block.mk l7 p0.result)
def DO (N:Nat):Nat→Block→Option (Block)
 | 0,_=>none
 | n+1,p0=>GU N (DO N n) p0
def HS (N:Nat) (p0:Block):Option (Block):=DO N N p0
def Ik (N:Nat) (p0:Ac) (p1:Block):Option (Block):=
 Option.bind (HS N p1) fun q3=>
 some q3
def Bv (N:Nat) (p0:Aj):Nat→Int→(List Ac)→Option ((List Ac))
 | 0,_,_=>none
 | n+1,t6,l7=>
  if (decide (t6 < (Sh.len p0.AD)))=true then
   Option.bind (Sh.get p0.AD t6) fun c16=>
   Option.bind (Be c16.params) fun q17=>
   Option.bind (Be c16.At) fun q18=>
   Option.bind (Ik N c16 c16.body) fun q19=>
   Option.bind (Sh.app l7 [(Ac.mk q17 q18 c16.result q19)] 88) fun l20=>
   Bv N p0 n (Sh.w (t6+1)) l20
  else
   some l7
def FB (N:Nat) (p0:Aj):Option (Aj):=
 Option.bind (GH N p0.decls) fun q3=>
 Option.bind (Bv N p0 N 0 []) fun l8=>
 some (Aj.mk q3 l8)
def EX (q10:Aj):Nat→Int→(List Ac)→Option ((List Ac))
 | 0,_,_=>none
 | n+1,t13,l14=>
  if (decide (t13 < (Sh.len q10.AD)))=true then
   Option.bind (Sh.get l14 t13) fun c23=>
   EX q10 n (Sh.w (t13+1)) (Sh.put l14 t13 (Ac.mk c23.params [] c23.result c23.body))
  else
   some l14
def HJ (N:Nat) (p0:Aj):Option (Aj×Bool):=
 Option.bind (Gn N p0) fun q4=>
 if (!q4)=true then
  some ((Aj.mk [] []),false)
 else
  Option.bind (FB N p0) fun q10=>
  Option.bind (EX q10 N 0 q10.AD) fun l15=>
  some ((Aj.mk q10.decls l15),true)
def Ds (N:Nat) (p0:(List BO)):Nat→Int→Int→Option ((Int) ⊕ (Int))
 | 0,_,_=>none
 | n+1,k4,i5=>
  if (decide (i5 < (Sh.len p0)))=true then
   Option.bind (Sh.get p0 i5) fun c14=>
   Option.bind (Ey N c14.fields k4) fun q15=>
   if (decide (q15 < 0))=true then
    some (Sum.inl (-1))
   else
    Ds N p0 n q15 (Sh.w (i5+1))
  else
   some (Sum.inr k4)
def G5 (N:Nat) (p0:(List BO)) (p1:Int):Option (Int):=
 Sh.cont (Ds N p0 N p1 0) (id) fun k6=>
 some k6
def DT (N:Nat) (p0:(List Ag)):Nat→Int→Int→Option ((Int) ⊕ (Int))
 | 0,_,_=>none
 | n+1,k4,i5=>
  if (decide (i5 < (Sh.len p0)))=true then
   Option.bind (Sh.get p0 i5) fun c15=>
   if (!decide (c15.from_=k4))=true then
    some (Sum.inl (-1))
   else
   if (!decide (c15.to=(Sh.w (k4+1))))=true then
    some (Sum.inl (-1))
   else
    Option.bind (G5 N c15.cons (Sh.w ((Sh.w (k4+1)) + 1))) fun q29=>
    if (decide (q29 < 0))=true then
     some (Sum.inl (-1))
    else
     DT N p0 n q29 (Sh.w (i5+1))
  else
   some (Sum.inr k4)
def Gc (N:Nat) (p0:(List Ag)) (p1:Int):Option (Int):=
 Sh.cont (DT N p0 N p1 0) (id) fun k6=>
 some k6
def C4 (p0:(List Block)) (rec_laws_heldStepS:(List Step)→Int→Option (Int)):Nat→Int→Int→Option ((Int) ⊕ (Int))
 | 0,_,_=>none
 | n+1,k4,i5=>
  if (decide (i5 < (Sh.len p0)))=true then
   Option.bind (Sh.get p0 i5) fun c14=>
   Option.bind (rec_laws_heldStepS c14.steps k4) fun q15=>
   if (decide (q15 < 0))=true then
    some (Sum.inl (-1))
   else
   if (!decide (c14.result=q15))=true then
    some (Sum.inl (-1))
   else
    C4 p0 rec_laws_heldStepS n (Sh.w (q15+1)) (Sh.w (i5+1))
  else
   some (Sum.inr k4)
def F7 (N:Nat) (rec_laws_heldStepS:(List Step)→Int→Option (Int)) (p0:(List Block)) (p1:Int):Option (Int):=
 Sh.cont (C4 p0 rec_laws_heldStepS N p1 0) (id) fun k6=>
 some k6
def Ci (N:Nat) (p0:(List Step)) (rec_laws_heldStepS:(List Step)→Int→Option (Int)):Nat→Int→Int→Option ((Int) ⊕ (Int))
 | 0,_,_=>none
 | n+1,k4,i5=>
  if (decide (i5 < (Sh.len p0)))=true then
   Option.bind (Sh.get p0 i5) fun c15=>
   if (!decide (c15.op=k4))=true then
    some (Sum.inl (-1))
   else
   if (!decide (c15.num=(Sh.w (k4+1))))=true then
    some (Sum.inl (-1))
   else
   if (!decide (c15.Ax=(Sh.w ((Sh.w (k4+1)) + 1))))=true then
    some (Sum.inl (-1))
   else
    Option.bind (Ey N c15.args (Sh.w ((Sh.w ((Sh.w (k4+1)) + 1)) + 1))) fun q36=>
    if (decide (q36 < 0))=true then
     some (Sum.inl (-1))
    else
     Option.bind (F7 N rec_laws_heldStepS c15.kids q36) fun q42=>
     if (decide (q42 < 0))=true then
      some (Sum.inl (-1))
     else
      Ci N p0 rec_laws_heldStepS n q42 (Sh.w (i5+1))
  else
   some (Sum.inr k4)
def G3 (N:Nat) (rec_laws_heldStepS:(List Step)→Int→Option (Int)) (p0:(List Step)) (p1:Int):Option (Int):=
 Sh.cont (Ci N p0 rec_laws_heldStepS N p1 0) (id) fun k6=>
 some k6
def DJ (N:Nat):Nat→(List Step)→Int→Option (Int)
 | 0,_,_=>none
 | n+1,p0,p1=>G3 N (DJ N n) p0 p1
def Hq (N:Nat) (p0:(List Step)) (p1:Int):Option (Int):=DJ N N p0 p1
def CT (N:Nat) (p0:(List Ac)):Nat→Int→Int→Option ((Int) ⊕ (Int))
 | 0,_,_=>none
 | n+1,k4,i5=>
  if (decide (i5 < (Sh.len p0)))=true then
   Option.bind (Sh.get p0 i5) fun c14=>
   Option.bind (Ey N c14.params k4) fun q15=>
   if (decide (q15 < 0))=true then
    some (Sum.inl (-1))
   else
    Option.bind (Ey N c14.At q15) fun q21=>
    if (decide (q21 < 0))=true then
     some (Sum.inl (-1))
    else
    if (!decide (c14.result=q21))=true then
     some (Sum.inl (-1))
    else
     Option.bind (Hq N c14.body.steps (Sh.w (q21+1))) fun q34=>
     if (decide (q34 < 0))=true then
      some (Sum.inl (-1))
     else
     if (!decide (c14.body.result=q34))=true then
      some (Sum.inl (-1))
     else
      CT N p0 n (Sh.w (q34+1)) (Sh.w (i5+1))
  else
   some (Sum.inr k4)
def FR (N:Nat) (p0:(List Ac)) (p1:Int):Option (Int):=
 Sh.cont (CT N p0 N p1 0) (id) fun k6=>
 some k6
def FI (N:Nat) (p0:Aj) (p1:Int):Option (Int):=
 Option.bind (Gc N p0.decls p1) fun q3=>
 if (decide (q3 < 0))=true then
  some (-1)
 else
  Option.bind (FR N p0.AD q3) fun q9=>
  if (decide (q9 < 0))=true then
   some (-1)
  else
   some q9
def Fw (N:Nat) (p0:Aj):Option (Bool):=
 Option.bind (HA N p0 1048576) fun q4=>
 if (decide (q4 < 0))=true then
  some true
 else
  Option.bind (Eo N p0) fun q10=>
  Option.bind (II N q10) fun q11=>
  Option.bind (Eo N p0) fun q13=>
  Option.bind (HJ N q13) fun q15=>
  Option.bind (
   Option.bind (Ew N q15.1 q11.1) fun q87=>
   if (!q87)=true then
    some true
   else
    some (q15.2 != q11.2)
  ) fun t18=>
  if t18=true then
   some false
  else
   Option.bind (Eo N p0) fun q24=>
   Option.bind (Ew N q13 q24) fun q25=>
   if (!q25)=true then
    some false
   else
    Option.bind (FG N q13.decls q13.AD 1) fun q32=>
    Option.bind (
     if (decide (q32.1 < 0))=true then
      some true
     else
      Option.bind (Ew N q15.1 q11.1) fun q85=>
      if (!q85)=true then
       some true
      else
       some (q15.2 != q11.2)
    ) fun t37=>
    if t37=true then
     some false
    else
     Option.bind (FG N q15.1.decls q15.1.AD 1) fun q43=>
     Option.bind (FI N (Aj.mk q43.2.1 q43.2.2) 1) fun q48=>
     if (decide (q48 < 0))=true then
      some false
     else
     if (!decide (q48=q43.1))=true then
      some false
     else
      Option.bind (Eo N p0) fun q60=>
      Option.bind (HJ N q60) fun q61=>
      Option.bind (
       Option.bind (Ew N q61.1 q11.1) fun q82=>
       if (!q82)=true then
        some true
       else
        some (q61.2 != q11.2)
      ) fun t64=>
      if t64=true then
       some false
      else
       Option.bind (FI N (Aj.mk q43.2.1 q43.2.2) 1) fun q70=>
       if (decide (q70 < 0))=true then
        some false
       else
       if (!decide (q70=q43.1))=true then
        some false
       else
        some true
end RC

