import Derived.Test.YtobjlimoekffaaaGreatGEncToEncB
import Derived.Test.YtobjlimoekffaaaGreatAbsW
import Derived.Lib.AppendZerosOnto
import Derived.OrdersHeld

namespace RC
open Go Go.Abs
structure By where
 fields:List Int
structure An where
 from_:Int
 to:Int
 cons:List By
structure Ag where
 op:Int
 dst:Int
 num:Int
 BY:Int
 args:List Int
 jumps:List Int
structure A0 where
 params:List Int
 BH:List Int
 result:Int
 Ab:Int
 code:List Ag
structure Au where
 decls:List An
 procs:List A0
structure Bu where
 params:List Int
 BH:List Int
 result:Int
structure CR where
 decls:List An
 funcs:List Bu
inductive Ib where
 | mk (op num:Int) (kids:List Ib)
def Ib.op:Ib→Int | .mk o _ _=>o
def Ib.num:Ib→Int | .mk _ n _=>n
def Ib.kids:Ib→List Ib | .mk _ _ k=>k
structure IT where
 params:List Int
 result:Int
 body:Ib
structure IH where
 decls:List An
 funcs:List IT
def D5 (c:By):List AV:=[.sl (c.fields.map eI)]
def Ad (d:An):List AV:=[.int .i64 d.from_,.int .i64 d.to,.sl (d.cons.map D5)]
def AU (i:Ag):List AV:=[.int .i64 i.op,.int .i64 i.dst,.int .i64 i.num,.int .i64 i.BY,.sl (i.args.map eI),.sl (i.jumps.map eI)]
def Az (p:A0):List AV:=[.sl (p.params.map eI),.sl (p.BH.map eI),.int .i64 p.result,.int .i64 p.Ab,.sl (p.code.map AU)]
def Ao (x:Au):List AV:=[.sl (x.decls.map Ad),.sl (x.procs.map Az)]
def BO (p:Bu):List AV:=[.sl (p.params.map eI),.sl (p.BH.map eI),.int .i64 p.result]
def BI (x:CR):List AV:=[.sl (x.decls.map Ad),.sl (x.funcs.map BO)]
noncomputable def W9 (s:Ib):List AV:=
 Ib.rec (motive_1:=fun _=>List AV) (motive_2:=fun _=>List (List AV)) (fun o n _ ks=>[.int .i64 o,.int .i64 n,.sl ks]) [] (fun _ _ b bs=>b :: bs) s
noncomputable def ET (f:IT):List AV:=[.sl (f.params.map eI),.int .i64 f.result,.int .i64 f.body.op,.int .i64 f.body.num,.sl (f.body.kids.map W9)]
structure Og (c:By):Prop where
 fields:Cb E3 c.fields
structure Ml (d:An):Prop where
 from_:E3 d.from_
 to:E3 d.to
 cons:Cb Og d.cons
structure LS (i:Ag):Prop where
 op:E3 i.op
 dst:E3 i.dst
 num:E3 i.num
 BY:E3 i.BY
 args:Cb E3 i.args
 jumps:Cb E3 i.jumps
structure Me (p:A0):Prop where
 params:Cb E3 p.params
 BH:Cb E3 p.BH
 result:E3 p.result
 Ab:E3 p.Ab
 code:Cb LS p.code
structure Pr (x:Au):Prop where
 decls:Cb Ml x.decls
 procs:Cb Me x.procs
end RC



namespace Go.Abs
open Go
def Pt:AV→Bool
 | .int .. | .bool _ | .str _ | .zc | .Nd | .MG | .dv ..=>true
 | _=>false
def R5 (xs:List (List AV)):Prop:=∀x∈xs,∀c∈x,Pt c=true
theorem T9 {F S:Nat→Prop} {w:World} {os:List A4} {c:AV} {u:Value} (hc:Pt c=true) (hd :∀e s ys,c≠.dv e s ys) (h:Ae F w os c u):Cu S w c u:=by
 cases c <;> simp only[Pt,Bool.false_eq_true] at hc <;> simp only[Ae] at h <;> simp only[Cu] <;> first | exact h | exact absurd rfl (hd _ _ _)
theorem LW {F S:Nat→Prop} {w:World} {os:List A4} {c:AV} {u:Value} (h:Cu S w c u):Ae F w os c u∧c.kept=true∧Pt c=true:=by
 cases c <;> simp only[Cu] at h
 case dv=>
  refine⟨?_,rfl,rfl⟩
  simp only[Ae]
  rcases h.2 with ⟨_,a,rfl⟩ | ⟨b,cap,cur,rfl,_⟩ <;> exact⟨_,_,_,rfl⟩
 all_goals first | exact h.elim | exact⟨by simp only[Ae];exact h,rfl,rfl⟩
theorem S8 {w:World} {cur:Array Value} {D:Nat→Nat→Prop} (hdis :∀j j' b,D j b→D j' b→j=j') :∀(x:List AV) (o j0:Nat),(∀(j:Nat) c,x[j]?=some c→∃u,cur[o+j]?=some u∧Cu (D (j0+j)) w c u)→
  JD (fun b=>∃j,j0≤j∧D j b) w x cur o
 | [],_,_,_=>by simp[JD]
 | c :: r,o,j0,h=>by
  simp only[JD]
  obtain⟨u,h1,h2⟩:=h 0 c rfl
  refine⟨D j0,fun b=>∃j,j0+1≤j∧D j b,fun b hb=>⟨j0,Nat.le_refl _,hb⟩,fun b ⟨j,hj,hb⟩=>⟨j,by omega,hb⟩,fun b hb ⟨j,hj,hb'⟩=>by have:=hdis _ _ _ hb hb';omega,⟨u,h1,h2⟩,?_⟩
  exact S8 hdis r (o+1) (j0+1) fun j c hc=>by
   obtain⟨u,h1,h2⟩:=h (j+1) c (by simpa using hc)
   exact⟨u,by rw[← h1];congr 1;omega,by rw[show j0+1+j=j0+(j+1) by omega];exact h2⟩
theorem TD {w:World} {cur:Array Value} {size:Nat} {D:Nat→Nat→Nat→Prop} (hdis :∀i j i' j' b,D i j b→D i' j' b→i=i'∧j=j') :∀(xs:List (List AV)) (o i0:Nat),(∀x∈xs,x.length=size)→
  (∀(i:Nat) x,xs[i]?=some x→∀(j:Nat) c,x[j]?=some c→∃u,cur[o+i * size+j]?=some u∧Cu (D (i0+i) j) w c u)→I9 (fun b=>∃i j,i0≤i∧D i j b) w xs cur o
 | [],_,_,_,_=>by simp[I9]
 | x :: r,o,i0,hs,h=>by
  simp only[I9]
  refine⟨fun b=>∃j,0≤j∧D i0 j b,fun b=>∃i j,i0+1≤i∧D i j b,fun b ⟨j,_,hb⟩=>⟨i0,j,Nat.le_refl _,hb⟩,fun b ⟨i,j,hi,hb⟩=>⟨i,j,by omega,hb⟩,fun b ⟨j,_,hb⟩ ⟨i,j',hi,hb'⟩=>by have:=(hdis _ _ _ _ _ hb hb').1;omega,?_,?_⟩
  ·exact S8 (D:=D i0) (fun j j' b h1 h2=>(hdis _ _ _ _ _ h1 h2).2) x o 0 fun j c hc=>by
    obtain⟨u,h1,h2⟩:=h 0 x rfl j c hc
    exact⟨u,by rw[← h1];congr 1;omega,by simpa using h2⟩
  ·rw[hs x (by simp)]
   exact TD hdis r (o+size) (i0+1) (fun x hx=>hs x (by simp[hx])) fun i y hy j c hc=>by
    obtain⟨u,h1,h2⟩:=h (i+1) y (by simpa using hy) j c hc
    exact⟨u,by rw[← h1];congr 1;rw[Nat.add_mul];omega,by rw[show i0+1+i=i0+(i+1) by omega];exact h2⟩
theorem Rh {w:World} {cur:Array Value} :∀{x:List AV} {S:Nat→Prop} {o:Nat},JD S w x cur o→∃D:Nat→Nat→Prop,(∀j b,D j b→S b)∧(∀j j' b,D j b→D j' b→j=j')∧
  ∀(j:Nat) c,x[j]?=some c→∃u,cur[o+j]?=some u∧Cu (D j) w c u
 | [],_,_,_=>⟨fun _ _=>False,fun _ _ h=>h.elim,fun _ _ _ h=>h.elim,fun j c h=>by simp at h⟩
 | c :: r,S,o,h=>by
  simp only[JD] at h
  obtain⟨S1,S2,h1,h2,h3,⟨u,h4,h5⟩,h6⟩:=h
  obtain⟨D,d1,d2,d3⟩:=Rh h6
  refine⟨fun j=>match j with | 0=>S1 | j+1=>D j,fun j b hb=>?_,fun j j' b hb hb'=>?_,fun j c' hc=>?_⟩
  ·cases j with
   | zero=>exact h1 b hb
   | succ j=>exact h2 b (d1 j b hb)
  ·cases j with
   | zero=>
    cases j' with
    | zero=>rfl
    | succ j'=>exact absurd (d1 j' b hb') (h3 b hb)
   | succ j=>
    cases j' with
    | zero=>exact absurd (d1 j b hb) (h3 b hb')
    | succ j'=>rw[d2 j j' b hb hb']
  ·cases j with
   | zero=>simp only[List.getElem?_cons_zero,Option.some.injEq] at hc;subst hc;exact⟨u,h4,h5⟩
   | succ j=>
    obtain⟨u',g1,g2⟩:=d3 j c' (by simpa using hc)
    exact⟨u',by rw[← g1];congr 1;omega,g2⟩
theorem SY {w:World} {cur:Array Value} {size:Nat} :∀{xs:List (List AV)} {S:Nat→Prop} {o:Nat},(∀x∈xs,x.length=size)→I9 S w xs cur o→∃D:Nat→Nat→Nat→Prop,(∀i j b,D i j b→S b)∧
  (∀i j i' j' b,D i j b→D i' j' b→i=i'∧j=j')∧∀(i:Nat) x,xs[i]?=some x→∀(j:Nat) c,x[j]?=some c→∃u,cur[o+i * size+j]?=some u∧Cu (D i j) w c u
 | [],_,_,_,_=>⟨fun _ _ _=>False,fun _ _ _ h=>h.elim,fun _ _ _ _ _ h=>h.elim,fun i x h=>by simp at h⟩
 | x :: r,S,o,hs,h=>by
  simp only[I9] at h
  obtain⟨S1,S2,h1,h2,h3,h4,h5⟩:=h
  obtain⟨E,e1,e2,e3⟩:=Rh h4
  obtain⟨D,d1,d2,d3⟩:=SY (fun x hx=>hs x (by simp[hx])) h5
  refine⟨fun i=>match i with | 0=>E | i+1=>D i,fun i j b hb=>?_,fun i j i' j' b hb hb'=>?_,fun i y hy j c hc=>?_⟩
  ·cases i with
   | zero=>exact h1 b (e1 j b hb)
   | succ i=>exact h2 b (d1 i j b hb)
  ·cases i with
   | zero=>
    cases i' with
    | zero=>exact⟨rfl,e2 j j' b hb hb'⟩
    | succ i'=>exact absurd (d1 i' j' b hb') (h3 b (e1 j b hb))
   | succ i=>
    cases i' with
    | zero=>exact absurd (d1 i j b hb) (h3 b (e1 j' b hb'))
    | succ i'=>
     obtain⟨q1,q2⟩:=d2 i j i' j' b hb hb'
     exact⟨by rw[q1],q2⟩
  ·cases i with
   | zero=>
    simp only[List.getElem?_cons_zero,Option.some.injEq] at hy;subst hy
    obtain⟨u,g1,g2⟩:=e3 j c hc
    exact⟨u,by rw[← g1];congr 1;omega,g2⟩
   | succ i=>
    obtain⟨u,g1,g2⟩:=d3 i y (by simpa using hy) j c hc
    rw[hs x (by simp)] at g1
    exact⟨u,by rw[← g1];congr 1;rw[Nat.add_mul];omega,g2⟩
variable {P : Program} {F : Nat → Prop} {os : List A4} {s : St} {a : Act} {w : World} {k : Nat}
theorem QS {p:A4} (h:Kh F w os p) (hd:R5 p.row.xs) {v:Value} (hv:(p.EU=none∧∃a,v=.slice a p.row.xs.length 0)∨∃b,p.EU=some b∧v=.slice (some ⟨b,0,none⟩) p.row.xs.length p.cap) :
  Cu p.Bm w (.dv p.row.elem p.row.size p.row.xs) v:=by
 simp only[Cu]
 refine⟨h.pos,?_⟩
 rcases hv with ⟨hb,a,rfl⟩ | ⟨b,hb,rfl⟩
 ·have:=(h.none hb).1
  exact .inl ⟨this,a,by rw[this];rfl⟩
 ·obtain⟨_,cur,hcur,hsz,hle,hmax,hcells⟩:=h.some b hb
  obtain⟨D,d1,d2,d3⟩:=h.deep
  refine .inr ⟨b,p.cap,cur,rfl,hle,hmax,.inl hb,hcur,hsz,fun x hx=>(h.lens x hx).1,?_⟩
  have:=TD (w:=w) (cur:=cur) (size:=p.row.size) d2 p.row.xs 0 0 (fun x hx=>(h.lens x hx).1) (fun i x hx j c hc=>by
   simp only[Nat.zero_add]
   by_cases hdv :∃e s ys,c=.dv e s ys
   ·obtain⟨e,s,ys,rfl⟩:=hdv
    exact d3 b hb cur _ _ hcur i x j e s ys hx hc
   ·obtain⟨u,g1,g2⟩:=hcells i x hx j c hc
    exact⟨u,g1,T9 (hd x (List.mem_of_getElem? hx) c (List.mem_of_getElem? hc)) (fun e s ys e'=>hdv ⟨e,s,ys,e'⟩) g2⟩)
  exact L7 (fun c ⟨i,j,_,hc⟩=>⟨.inr (d1 i j c hc),fun e=>(h.mo c (d1 i j c hc)).2.2 (by rw[hb,e])⟩) (fun _ _=>rfl) _ _ _ this
theorem Wk.Z9 {id m g gm size sz n i j nn:Nat} {el el':TypeId} {xs ys:List (List AV)} {x:List AV} {e:Nat→AV} {st st':List Row} (hrow:st[id]?=some ⟨g,el,size,xs⟩) (hx:xs[i]?=some x) (hc:x[j]?=some (.own m gm n))
  (hm:st[m]?=some ⟨gm,el',sz,ys⟩) (hn:n=ys.length) (hne:id≠m) (hkm:k≤m) (hd:R5 ys) (hst:(st.set id ⟨g,el,size,xs.set i (x.set j (.dv el' sz ys))⟩).set m ⟨gm+1,el',sz,[]⟩=st') :
  Wk k ⟨nn,e,st⟩ ⟨nn,e,st'⟩:=fun F os a w hr=>by
 subst hst;subst hn
 obtain⟨o,ho,hor⟩:=hr.row hrow
 obtain⟨p,hp,hpr⟩:=hr.row hm
 have hok:=hr.rows id o ho
 have hpk:=hr.rows m p hp
 have hst:os.map A4.row=st:=hr.st
 have hxs:o.row.xs=xs:=by rw[hor]
 have hpx:p.row.xs=ys:=by rw[hpr]
 let o':A4:={ o with row:={ o.row with xs:=xs.set i (x.set j (.dv el' sz ys)) },more:=fun b=>o.more b∨p.Bm b }
 let p':A4:=⟨{ p.row with gen:=p.row.gen+1,xs:=[] },none,0,Ef⟩
 have hil:i < xs.length:=(List.getElem?_eq_some_iff.1 hx).1
 have hjl:j < x.length:=(List.getElem?_eq_some_iff.1 hc).1
 have hidl:=(List.getElem?_eq_some_iff.1 ho).1
 have hml:=(List.getElem?_eq_some_iff.1 hp).1
 have hdis :∀b,o.Bm b→¬ p.Bm b:=fun b h1 h2=>hne (hr.inj id m o p b ho hp h1 h2)
 have hget :∀(q:Nat) (oq:A4),((os.set id o').set m p')[q]?=some oq→(q≠id∧q≠m∧os[q]?=some oq)∨(q=id∧oq=o')∨(q=m∧oq=p'):=fun q oq hq=>by
  by_cases e:q=m
  ·subst e
   rw[List.getElem?_set_self (by simpa using hml),Option.some.injEq] at hq
   exact .inr (.inr ⟨rfl,hq.symm⟩)
  ·rw[List.getElem?_set_ne (Ne.symm e)] at hq
   by_cases e2:q=id
   ·subst e2
    rw[List.getElem?_set_self hidl,Option.some.injEq] at hq
    exact .inr (.inl ⟨rfl,hq.symm⟩)
   ·rw[List.getElem?_set_ne (Ne.symm e2)] at hq
    exact .inl ⟨e2,e,hq⟩
 have hos:Es os ((os.set id o').set m p'):=fun q oq hq=>by
  by_cases e:q=m
  ·subst e
   rw[hp] at hq;cases hq
   exact⟨p',List.getElem?_set_self (by simpa using hml),Nat.le_succ _,rfl,fun e=>by simp[p'] at e⟩
  ·rw[List.getElem?_set_ne (Ne.symm e)]
   by_cases e2:q=id
   ·subst e2
    rw[ho] at hq;cases hq
    exact⟨o',List.getElem?_set_self hidl,Nat.le_refl _,rfl,fun _=>⟨rfl,rfl,by simp[o',hxs]⟩⟩
   ·rw[List.getElem?_set_ne (Ne.symm e2)]
    exact⟨oq,hq,Nat.le_refl _,rfl,fun _=>⟨rfl,rfl,rfl⟩⟩
 have hmono :∀y v,Ae F w os y v→Ae F w ((os.set id o').set m p') y v:=fun y v h=>Ch (fun _ h=>h) (fun _ _=>rfl) os _ hos y v h
 have howns :∀b,o'.Bm b→o.Bm b∨p.Bm b:=fun b hb=>by
  rcases hb with hb | hb | hb
  ·exact .inl (.inl hb)
  ·exact .inl (.inr hb)
  ·exact .inr hb
 have hpn :∀b,¬ p'.Bm b:=fun b hb=>by
  rcases hb with hb | hb
  ·simp[p'] at hb
  ·exact hb
 obtain⟨bo,hbo⟩ :∃b,o.EU=some b:=by
  cases hb:o.EU with
  | none=>have:=(hok.none hb).1;rw[hxs] at this;rw[this] at hil;simp at hil
  | some b=>exact⟨b,rfl⟩
 obtain⟨hnF,cur,hcur,hsz,hle,hmax,hcells⟩:=hok.some bo hbo
 obtain⟨uv,hu1,hu2⟩:=hcells i x (by rw[hxs];exact hx) j _ hc
 have huv:(p.EU=none∧∃a,uv=.slice a p.row.xs.length 0)∨∃b,p.EU=some b∧uv=.slice (some ⟨b,0,none⟩) p.row.xs.length p.cap:=by
  simp only[Ae] at hu2
  obtain⟨q,hq,_,_,hv⟩:=hu2
  rw[hp] at hq;cases hq
  have:=(hv (by rw[hpr])).2
  rw[hpx] at this ⊢;simpa only[Nat.sub_self,Nat.zero_mul,Nat.sub_zero] using this
 have hRD:Cu p.Bm w (.dv el' sz ys) uv:=by
  have:=QS hpk (by rw[hpx];exact hd) huv
  rw[hpr] at this;exact this
 refine⟨F,(os.set id o').set m p',⟨?_,fun t=>hmono _ _ (hr.env t),hr.size,fun q oq hq=>?_,fun q q' oq oq' b hq hq' hb hb'=>?_,hr.FX,hr.defers⟩,⟨rfl,rfl,rfl,Nat.le_refl _,fun _ h=>h,fun _ _=>rfl,fun b _ h1 h2=>⟨rfl,h1,fun oq hoq hb=>?_⟩,fun q oq _ hq=>hos q oq hq⟩⟩
 ·rw[List.map_set,List.map_set,hst]
  simp only[o',p',hor,hpr]
 ·rcases hget q oq hq with ⟨_,_,h⟩ | ⟨_,rfl⟩ | ⟨_,rfl⟩
  ·have h0:=hr.rows q oq h
   refine⟨h0.pos,h0.lens,h0.none,fun b hb=>?_,h0.mo,h0.deep⟩
   obtain⟨e1,cur,e2,e3,e4,e5,e6⟩:=h0.some b hb
   exact⟨e1,cur,e2,e3,e4,e5,fun i' y hy j' c hc=>by obtain⟨u,f1,f2⟩:=e6 i' y hy j' c hc;exact⟨u,f1,hmono _ _ f2⟩⟩
  ·refine⟨hok.pos,fun y hy=>?_,(fun hn=>by simp only[o'] at hn;rw[hbo] at hn;cases hn),fun b hb=>?_,fun b hb=>?_,?_⟩
   ·rcases List.mem_or_eq_of_mem_set hy with hy | rfl
    ·exact hok.lens y (by rw[hxs];exact hy)
    ·have h0:=hok.lens x (by rw[hxs];exact List.mem_of_getElem? hx)
     refine⟨by rw[List.length_set];exact h0.1,fun c hcm=>?_⟩
     rcases List.mem_or_eq_of_mem_set hcm with h | rfl
     ·exact h0.2 c h
     ·rfl
   ·simp only[o'] at hb
    rw[hbo] at hb;cases hb
    refine⟨hnF,cur,hcur,hsz,by simpa [o',hxs] using hle,hmax,fun i' y hy j' c hcy=>?_⟩
    simp only[o'] at hy ⊢
    by_cases hi:i'=i
    ·subst hi
     rw[List.getElem?_set_self hil,Option.some.injEq] at hy
     subst hy
     by_cases hj:j'=j
     ·subst hj
      rw[List.getElem?_set_self hjl,Option.some.injEq] at hcy
      subst hcy
      exact⟨uv,hu1,(LW hRD).1⟩
     ·rw[List.getElem?_set_ne (Ne.symm hj)] at hcy
      obtain⟨u,f1,f2⟩:=hcells i' x (by rw[hxs];exact hx) j' c hcy
      exact⟨u,f1,hmono _ _ f2⟩
    ·rw[List.getElem?_set_ne (Ne.symm hi)] at hy
     obtain⟨u,f1,f2⟩:=hcells i' y (by rw[hxs];exact hy) j' c hcy
     exact⟨u,f1,hmono _ _ f2⟩
   ·rcases hb with hb | hb
    ·exact hok.mo b hb
    ·exact⟨hpk.nF hb,hpk.lt hb,fun e=>hdis b (.inl e) hb⟩
   ·obtain⟨D,d1,d2,d3⟩:=hok.deep
    refine⟨fun i' j' b=>if i'=i∧j'=j then p.Bm b else D i' j' b,fun i' j' b hb=>?_,fun i1 j1 i2 j2 b h1 h2=>?_,fun b hb cur' el2 l hcur' i' y j' e2 s2 zs hy hcy=>?_⟩
    ·simp only at hb
     split at hb
     ·exact .inr hb
     ·exact .inl (d1 i' j' b hb)
    ·simp only at h1 h2
     split at h1 <;> split at h2
     ·rename_i q1 q2;exact⟨q1.1.trans q2.1.symm,q1.2.trans q2.2.symm⟩
     ·exact absurd h1 (hdis b (.inr (d1 _ _ _ h2)))
     ·exact absurd h2 (hdis b (.inr (d1 _ _ _ h1)))
     ·exact d2 _ _ _ _ _ h1 h2
    ·simp only[o'] at hb hy ⊢
     rw[hbo] at hb;cases hb
     rw[hcur] at hcur';cases hcur'
     by_cases hij:i'=i∧j'=j
     ·obtain⟨rfl,rfl⟩:=hij
      rw[List.getElem?_set_self hil,Option.some.injEq] at hy
      subst hy
      rw[List.getElem?_set_self hjl,Option.some.injEq] at hcy
      cases hcy
      exact⟨uv,hu1,by simpa using hRD⟩
     ·have hold :∃y0,o.row.xs[i']?=some y0∧y0[j']?=some (.dv e2 s2 zs):=by
       rw[hxs]
       by_cases hi:i'=i
       ·subst hi
        rw[List.getElem?_set_self hil,Option.some.injEq] at hy
        subst hy
        have hj:j'≠j:=fun e=>hij ⟨rfl,e⟩
        rw[List.getElem?_set_ne (Ne.symm hj)] at hcy
        exact⟨x,hx,hcy⟩
       ·rw[List.getElem?_set_ne (Ne.symm hi)] at hy
        exact⟨y,hy,hcy⟩
      obtain⟨y0,hy0,hc0⟩:=hold
      obtain⟨u,f1,f2⟩:=d3 bo hbo cur _ _ hcur i' y0 j' e2 s2 zs hy0 hc0
      exact⟨u,f1,by simpa only[hij,if_false] using f2⟩
  ·exact⟨hpk.pos,by simp[p'],by simp[p'],by simp[p'],fun b hb=>hb.elim,E4 (by simp[p'])⟩
 ·rcases hget q oq hq with ⟨q1,q2,h⟩ | ⟨rfl,rfl⟩ | ⟨_,rfl⟩ <;> rcases hget q' oq' hq' with ⟨q1',q2',h'⟩ | ⟨rfl,rfl⟩ | ⟨_,rfl⟩
  ·exact hr.inj q q' oq oq' b h h' hb hb'
  ·rcases howns b hb' with e | e
   ·exact hr.inj q _ oq o b h ho hb e
   ·exact absurd (hr.inj q m oq p b h hp hb e) q2
  ·exact absurd hb' (hpn b)
  ·rcases howns b hb with e | e
   ·exact hr.inj _ q' o oq' b ho h' e hb'
   ·exact absurd (hr.inj m q' p oq' b hp h' e hb').symm q2'
  ·rfl
  ·exact absurd hb' (hpn b)
  ·exact absurd hb (hpn b)
  ·exact absurd hb (hpn b)
  ·exact absurd hb (hpn b)
 ·obtain⟨q,hq⟩:=List.mem_iff_getElem?.1 hoq
  rcases hget q oq hq with ⟨_,_,h⟩ | ⟨_,rfl⟩ | ⟨_,rfl⟩
  ·exact h2 oq (List.mem_of_getElem? h) hb
  ·rcases howns b hb with e | e
   ·exact h2 o (List.mem_of_getElem? ho) e
   ·exact h2 p (List.mem_of_getElem? hp) e
  ·exact hpn b hb
end Go.Abs



namespace Go.Abs
open Go
variable {P : Program} {F : Nat → Prop} {os : List A4} {s : St} {a : Act} {w : World} {k : Nat}
theorem Tx {S:Nat→Prop} {el sz:Nat} {ys:List (List AV)} {u:Value} (hS :∀b,S b→¬ F b∧b < w.heap.size) (h:Cu S w (.dv el sz ys) u) :
  ∃p:A4,p.row=⟨0,el,sz,ys⟩∧(∀b,p.Bm b→S b)∧(∀os,Kh F w os p)∧((p.EU=none∧∃a,u=.slice a ys.length 0)∨∃b,p.EU=some b∧u=.slice (some ⟨b,0,none⟩) ys.length p.cap):=by
 simp only[Cu] at h
 obtain⟨hp,h⟩:=h
 rcases h with ⟨rfl,a,rfl⟩ | ⟨b,cap,cur,rfl,h2,h3,h4,h5,h6,h7,h8⟩
 ·refine⟨⟨⟨0,el,sz,[]⟩,none,0,Ef⟩,rfl,fun b hb=>?_,fun os=>⟨hp,by simp,by simp,by simp,fun b hb=>hb.elim,E4 (by simp)⟩,.inl ⟨rfl,a,rfl⟩⟩
  rcases hb with hb | hb
  ·cases hb
  ·exact hb.elim
 ·obtain⟨D,d1,d2,d3⟩:=SY h7 h8
  refine⟨⟨⟨0,el,sz,ys⟩,some b,cap,fun c=>S c∧c≠b⟩,rfl,fun c hc=>?_,fun os=>⟨hp,fun x hx=>⟨h7 x hx,fun c hc=>?_⟩,by simp,fun b' hb'=>?_,fun c hc=>⟨(hS c hc.1).1,(hS c hc.1).2,fun e=>hc.2 (by simpa using e.symm)⟩,⟨D,d1,d2,fun b' hb' cur' el2 l hcur' i x j e s zs hx hc=>?_⟩⟩,.inr ⟨b,rfl,rfl⟩⟩
  ·rcases hc with hc | hc
   ·cases hc;exact h4
   ·exact hc.1
  ·obtain⟨i,hi⟩:=List.mem_iff_getElem?.1 hx
   obtain⟨j,hj⟩:=List.mem_iff_getElem?.1 hc
   obtain⟨u,_,g2⟩:=d3 i x hi j c hj
   exact (LW (F:=F) (os:=os) g2).2.1
  ·simp only[Option.some.injEq] at hb'
   subst hb'
   refine⟨(hS _ h4).1,cur,h5,h6,h2,h3,fun i x hx j c hc=>?_⟩
   obtain⟨u,g1,g2⟩:=d3 i x hx j c hc
   exact⟨u,by simpa using g1,(LW g2).1⟩
  ·simp only[Option.some.injEq] at hb'
   subst hb'
   rw[h5] at hcur';cases hcur'
   obtain⟨u,g1,g2⟩:=d3 i x hx j _ hc
   exact⟨u,by simpa using g1,g2⟩
theorem Wk.Zx {id m g size sz n i j nn:Nat} {el el':TypeId} {xs ys:List (List AV)} {x:List AV} {e:Nat→AV} {st st':List Row} (hrow:st[id]?=some ⟨g,el,size,xs⟩) (hx:xs[i]?=some x) (hc:x[j]?=some (.dv el' sz ys))
  (hm:st.length=m) (hn:n=ys.length) (hst:st.set id ⟨g,el,size,xs.set i (x.set j (.own m 0 n))⟩ ++ [⟨0,el',sz,ys⟩]=st'):Wk k ⟨nn,e,st⟩ ⟨nn,e,st'⟩:=fun F os a w hr=>by
 subst hst;subst hn;subst hm
 obtain⟨o,ho,hor⟩:=hr.row hrow
 have hok:=hr.rows id o ho
 have hst:os.map A4.row=st:=hr.st
 have hol:os.length=st.length:=by rw[← hst];simp
 have hxs:o.row.xs=xs:=by rw[hor]
 have hil:i < xs.length:=(List.getElem?_eq_some_iff.1 hx).1
 have hjl:j < x.length:=(List.getElem?_eq_some_iff.1 hc).1
 have hidl:=(List.getElem?_eq_some_iff.1 ho).1
 obtain⟨bo,hbo⟩ :∃b,o.EU=some b:=by
  cases hb:o.EU with
  | none=>have:=(hok.none hb).1;rw[hxs] at this;rw[this] at hil;simp at hil
  | some b=>exact⟨b,rfl⟩
 obtain⟨hnF,cur,hcur,hsz,hle,hmax,hcells⟩:=hok.some bo hbo
 obtain⟨D,d1,d2,d3⟩:=hok.deep
 obtain⟨uv,hu1,hu2⟩:=d3 bo hbo cur _ _ hcur i x j el' sz ys (by rw[hxs];exact hx) hc
 obtain⟨p,hpr,hpo,hpk,hpv⟩:=Tx (F:=F) (fun b hb=>⟨(hok.mo b (d1 _ _ _ hb)).1,(hok.mo b (d1 _ _ _ hb)).2.1⟩) hu2
 let o':A4:={ o with row:={ o.row with xs:=xs.set i (x.set j (.own st.length 0 ys.length)) },more:=fun b=>o.more b∧¬ D i j b }
 have hget :∀(q:Nat) (oq:A4),(os.set id o' ++ [p])[q]?=some oq→(q≠id∧q < os.length∧os[q]?=some oq)∨(q=id∧oq=o')∨(q=os.length∧oq=p):=fun q oq hq=>by
  rcases Nat.lt_trichotomy q os.length with h | h | h
  ·rw[List.getElem?_append_left (by simpa using h)] at hq
   by_cases e2:q=id
   ·subst e2
    rw[List.getElem?_set_self hidl,Option.some.injEq] at hq
    exact .inr (.inl ⟨rfl,hq.symm⟩)
   ·rw[List.getElem?_set_ne (Ne.symm e2)] at hq
    exact .inl ⟨e2,h,hq⟩
  ·subst h
   rw[List.getElem?_append_right (by simp)] at hq
   simp at hq
   exact .inr (.inr ⟨rfl,hq.symm⟩)
  ·rw[List.getElem?_eq_none (by simp;omega)] at hq;cases hq
 have hpget:(os.set id o' ++ [p])[st.length]?=some p:=by
  rw[List.getElem?_append_right (by simp;omega)]
  simp[hol]
 have hos:Es os (os.set id o' ++ [p]):=fun q oq hq=>by
  have hql:=(List.getElem?_eq_some_iff.1 hq).1
  rw[List.getElem?_append_left (by simpa using hql)]
  by_cases e2:q=id
  ·subst e2
   rw[ho] at hq;cases hq
   exact⟨o',List.getElem?_set_self hidl,Nat.le_refl _,rfl,fun _=>⟨rfl,rfl,by simp[o',hxs]⟩⟩
  ·rw[List.getElem?_set_ne (Ne.symm e2)]
   exact⟨oq,hq,Nat.le_refl _,rfl,fun _=>⟨rfl,rfl,rfl⟩⟩
 have hmono :∀y v,Ae F w os y v→Ae F w (os.set id o' ++ [p]) y v:=fun y v h=>Ch (fun _ h=>h) (fun _ _=>rfl) os _ hos y v h
 have ho'o :∀b,o'.Bm b→o.Bm b:=fun b hb=>by
  rcases hb with hb | hb
  ·exact .inl hb
  ·exact .inr hb.1
 have hpoo :∀b,p.Bm b→o.Bm b:=fun b hb=>.inr (d1 _ _ _ (hpo b hb))
 have hdis :∀b,o'.Bm b→¬ p.Bm b:=fun b h1 h2=>by
  have h3:=hpo b h2
  rcases h1 with h1 | h1
  ·exact (hok.mo b (d1 _ _ _ h3)).2.2 h1
  ·exact h1.2 h3
 have hnew:Ae F w (os.set id o' ++ [p]) (.own st.length 0 ys.length) uv:=by
  simp only[Ae]
  refine⟨p,hpget,Nat.zero_le _,?_,fun _=>⟨by rw[hpr];exact Nat.le_refl _,by rw[hpr];simpa only[Nat.sub_self,Nat.zero_mul,Nat.sub_zero] using hpv⟩⟩
  rcases hpv with ⟨_,a,rfl⟩ | ⟨b,_,rfl⟩ <;> exact⟨_,_,_,rfl⟩
 refine⟨F,os.set id o' ++ [p],⟨?_,fun t=>hmono _ _ (hr.env t),hr.size,fun q oq hq=>?_,fun q q' oq oq' b hq hq' hb hb'=>?_,hr.FX,hr.defers⟩,⟨rfl,rfl,rfl,Nat.le_refl _,fun _ h=>h,fun _ _=>rfl,fun b _ h1 h2=>⟨rfl,h1,fun oq hoq hb=>?_⟩,fun q oq _ hq=>hos q oq hq⟩⟩
 ·rw[List.map_append,List.map_set,hst]
  simp only[o',hor,List.map_cons,List.map_nil,hpr]
 ·rcases hget q oq hq with ⟨_,_,h⟩ | ⟨_,rfl⟩ | ⟨_,rfl⟩
  ·have h0:=hr.rows q oq h
   refine⟨h0.pos,h0.lens,h0.none,fun b hb=>?_,h0.mo,h0.deep⟩
   obtain⟨e1,cur,e2,e3,e4,e5,e6⟩:=h0.some b hb
   exact⟨e1,cur,e2,e3,e4,e5,fun i' y hy j' c hc=>by obtain⟨u,f1,f2⟩:=e6 i' y hy j' c hc;exact⟨u,f1,hmono _ _ f2⟩⟩
  ·refine⟨hok.pos,fun y hy=>?_,(fun hn=>by simp only[o'] at hn;rw[hbo] at hn;cases hn),fun b hb=>?_,fun b hb=>hok.mo b hb.1,?_⟩
   ·rcases List.mem_or_eq_of_mem_set hy with hy | rfl
    ·exact hok.lens y (by rw[hxs];exact hy)
    ·have h0:=hok.lens x (by rw[hxs];exact List.mem_of_getElem? hx)
     refine⟨by rw[List.length_set];exact h0.1,fun c hcm=>?_⟩
     rcases List.mem_or_eq_of_mem_set hcm with h | rfl
     ·exact h0.2 c h
     ·rfl
   ·simp only[o'] at hb
    rw[hbo] at hb;cases hb
    refine⟨hnF,cur,hcur,hsz,by simpa [o',hxs] using hle,hmax,fun i' y hy j' c hcy=>?_⟩
    simp only[o'] at hy ⊢
    by_cases hi:i'=i
    ·subst hi
     rw[List.getElem?_set_self hil,Option.some.injEq] at hy
     subst hy
     by_cases hj:j'=j
     ·subst hj
      rw[List.getElem?_set_self hjl,Option.some.injEq] at hcy
      subst hcy
      exact⟨uv,hu1,hnew⟩
     ·rw[List.getElem?_set_ne (Ne.symm hj)] at hcy
      obtain⟨u,f1,f2⟩:=hcells i' x (by rw[hxs];exact hx) j' c hcy
      exact⟨u,f1,hmono _ _ f2⟩
    ·rw[List.getElem?_set_ne (Ne.symm hi)] at hy
     obtain⟨u,f1,f2⟩:=hcells i' y (by rw[hxs];exact hy) j' c hcy
     exact⟨u,f1,hmono _ _ f2⟩
   ·refine⟨fun i' j' b=>if i'=i∧j'=j then False else D i' j' b,fun i' j' b hb=>?_,fun i1 j1 i2 j2 b h1 h2=>?_,fun b hb cur' el2 l hcur' i' y j' e2 s2 zs hy hcy=>?_⟩
    ·simp only at hb
     split at hb
     ·exact hb.elim
     ·rename_i hij
      exact⟨d1 i' j' b hb,fun h=>hij (d2 _ _ _ _ _ hb h)⟩
    ·simp only at h1 h2
     split at h1 <;> split at h2 <;> first | exact h1.elim | exact h2.elim | exact d2 _ _ _ _ _ h1 h2
    ·simp only[o'] at hb hy ⊢
     rw[hbo] at hb;cases hb
     rw[hcur] at hcur';cases hcur'
     have hold:(¬ (i'=i∧j'=j))∧∃y0,o.row.xs[i']?=some y0∧y0[j']?=some (.dv e2 s2 zs):=by
      rw[hxs]
      by_cases hi:i'=i
      ·subst hi
       rw[List.getElem?_set_self hil,Option.some.injEq] at hy
       subst hy
       by_cases hj:j'=j
       ·subst hj
        rw[List.getElem?_set_self hjl,Option.some.injEq] at hcy
        cases hcy
       ·rw[List.getElem?_set_ne (Ne.symm hj)] at hcy
        exact⟨fun h=>hj h.2,x,hx,hcy⟩
      ·rw[List.getElem?_set_ne (Ne.symm hi)] at hy
       exact⟨fun h=>hi h.1,y,hy,hcy⟩
     obtain⟨hij,y0,hy0,hc0⟩:=hold
     obtain⟨u,f1,f2⟩:=d3 bo hbo cur _ _ hcur i' y0 j' e2 s2 zs hy0 hc0
     exact⟨u,f1,by simpa only[hij,if_false] using f2⟩
  ·exact hpk _
 ·rcases hget q oq hq with ⟨q1,q2,h⟩ | ⟨rfl,rfl⟩ | ⟨rfl,rfl⟩ <;> rcases hget q' oq' hq' with ⟨q1',q2',h'⟩ | ⟨rfl,rfl⟩ | ⟨rfl,rfl⟩
  ·exact hr.inj q q' oq oq' b h h' hb hb'
  ·exact hr.inj q _ oq o b h ho hb (ho'o b hb')
  ·exact absurd (hr.inj q id oq o b h ho hb (hpoo b hb')) q1
  ·exact hr.inj _ q' o oq' b ho h' (ho'o b hb) hb'
  ·rfl
  ·exact absurd hb' (hdis b hb)
  ·exact absurd (hr.inj id q' o oq' b ho h' (hpoo b hb) hb').symm q1'
  ·exact absurd hb (hdis b hb')
  ·rfl
 ·obtain⟨q,hq⟩:=List.mem_iff_getElem?.1 hoq
  rcases hget q oq hq with ⟨_,_,h⟩ | ⟨_,rfl⟩ | ⟨_,rfl⟩
  ·exact h2 oq (List.mem_of_getElem? h) hb
  ·exact h2 o (List.mem_of_getElem? ho) (ho'o b hb)
  ·exact h2 o (List.mem_of_getElem? ho) (hpoo b hb)
variable {α β : Type} {l : List α} {enc : α → List AV}
def hole (l:List α) (enc:α→List AV) (i:Int) (x:List AV):List (List AV):=(l.map enc).set i.toNat x
theorem RL {i:Int} {u:α} {x:List AV} (h:x=enc u):hole l enc i x=(Sh.put l i u).map enc:=by subst h;exact Ut
theorem EK {i:Int} {u:α} {x:List AV} (h:Sh.get l i=some u):(hole l enc i x)[i.toNat]?=some x:=by
 have:=(Sh.get_some h).2.2
 have h0:=(Sh.get_some h).1
 exact List.getElem?_set_self (by simp;omega)
theorem TE {i:Int} {x y:List AV}:(hole l enc i x).set i.toNat y=hole l enc i y:=by unfold hole;rw[List.set_set]
theorem E1 {id m g size sz nn j:Nat} {el el':TypeId} {i:Int} {c:α} {ys:List β} {encY:β→List AV} {x x':List AV} {e:Nat→AV} {st st':List Row} (hrow:st[id]?=some ⟨g,el,size,l.map enc⟩) (hi:Sh.get l i=some c) (hx:enc c=x) (hc:x[j]?=some (.dv el' sz (ys.map encY)))
  (hm:st.length=m) (hx':x.set j (.own m 0 ys.length)=x') (hst:st.set id ⟨g,el,size,hole l enc i x'⟩ ++ [⟨0,el',sz,ys.map encY⟩]=st'):Wk k ⟨nn,e,st⟩ ⟨nn,e,st'⟩:=by
 subst hst;subst hx';subst hx
 exact Wk.Zx hrow (Bp hi) hc hm (n:=ys.length) (by simp) rfl
theorem Wk.take {id m g gm size sz nn j n:Nat} {el el':TypeId} {i:Int} {c:α} {ys:List β} {encY:β→List AV} {x x':List AV} {e:Nat→AV} {st st':List Row} (hrow:st[id]?=some ⟨g,el,size,hole l enc i x⟩) (hi:Sh.get l i=some c) (hc:x[j]?=some (.own m gm n))
  (hm:st[m]?=some ⟨gm,el',sz,ys.map encY⟩) (hn:n=ys.length) (hne:id≠m) (hkm:k≤m) (hd :∀y,(encY y).all Pt=true) (hx':x.set j (.dv el' sz (ys.map encY))=x') (hst:(st.set id ⟨g,el,size,hole l enc i x'⟩).set m ⟨gm+1,el',sz,[]⟩=st') :
  Wk k ⟨nn,e,st⟩ ⟨nn,e,st'⟩:=by
 subst hst;subst hx'
 refine Wk.Z9 hrow (EK hi) hc hm (by simpa using hn) hne hkm (fun y hy c hc=>?_) (by rw[TE])
 obtain⟨z,_,rfl⟩:=List.mem_map.1 hy
 exact List.all_eq_true.1 (hd z) c hc
theorem CB {id g size nn:Nat} {el:TypeId} {i:Int} {u:α} {x:List AV} {e:Nat→AV} {st st':List Row} (hrow:st[id]?=some ⟨g,el,size,hole l enc i x⟩) (hx:x=enc u) (hst:st.set id ⟨g,el,size,(Sh.put l i u).map enc⟩=st'):Wk k ⟨nn,e,st⟩ ⟨nn,e,st'⟩:=by
 rw[RL hx] at hrow
 have:st.set id ⟨g,el,size,(Sh.put l i u).map enc⟩=st:=by
  obtain⟨h1,h2⟩:=List.getElem?_eq_some_iff.1 hrow
  rw[← h2];exact List.set_getElem_self h1
 rw[this] at hst
 exact GQ hst
section
variable {ops : Array Oper} {Q : Exit → St → Prop} {ds : List (Option Tmp)} {r : List Oper} {n : Nat} {e : Nat → AV} {st st' : List Row} {ty : TypeId} {ps : String} {ed : Array Edge} {t : Tmp} {v : AV} {gd : Option (Nat × Bool)} {T : TypeId} {x y : Operand} {ag : Bool} {sz id g size : Nat} {el : TypeId} {cs : List AV} {c : α} {i : Int}
theorem Le (hg:GO ds gd e) (ht:CY P T=some (ag,sz)) (hx:St.ev ⟨n,e,st⟩ x=.ptr id g i.toNat 0) (hr:st[id]?=some ⟨g,el,size,l.map enc⟩) (hi:Sh.get l i=some c) (hv:St.ev ⟨n,e,st⟩ y=v) (hc:JJ v=some cs) (hn:cs.length=sz) (hle:cs.length≤size)
  (hlen:(enc c).length=cs.length) (hst:st.set id ⟨g,el,size,hole l enc i cs⟩=st') (hk:AO P k ops Q (ds ++ [none]) r ⟨n,e,st'⟩):AO P k ops Q ds (⟨none,.store T x y,ty,ps,ed,gd⟩ :: r) ⟨n,e,st⟩:=by
 refine A7 hg ht hx hr (Bp hi) hv hc hn (by omega) ?_ hk
 rw[← hst]
 have:Fb (enc c) 0 cs=cs:=by
  unfold Fb
  rw[List.take_zero,List.nil_append,Nat.zero_add,List.drop_eq_nil_of_le (by omega),List.append_nil]
 rw[this];rfl
end
end Go.Abs



namespace Go.Abs
open Go
variable {P : Program} {F : Nat → Prop} {os : List A4} {s : St} {a : Act} {w : World} {k : Nat}
theorem Rel.YP (hr:Rel F os s a w) {cur:Array Value} {e:TypeId} {size cap:Nat} {xs:List (List AV)} (hpos:0 < size) (hlens :∀x∈xs,x.length=size∧∀c∈x,c.kept=true)
  (hsz:cur.size=cap * size) (hle:xs.length≤cap) (hmax:cap≤maxLen)
  (hcells :∀(i:Nat) x,xs[i]?=some x→∀(j:Nat) c,x[j]?=some c→∃u,cur[i * size+j]?=some u∧Ae F w os c u∧∀e s ys,c=.dv e s ys→Cu Ef w c u) :
  let o:A4:=⟨⟨0,e,size,xs⟩,some w.heap.size,cap,Ef⟩
  Rel F (os ++ [o]) { s with st:=s.st ++ [o.row] } a (w.alloc (.cells cur e))∧Ext F os w F (os ++ [o]) (w.alloc (.cells cur e)) k:=by
 intro o
 have ht:Ig w (w.alloc (.cells cur e)) none:=Ig.alloc _ _ _
 have hlt :∀(i:Nat) (oi:A4) g,os[i]?=some oi→oi.Bm g→g < w.heap.size:=fun i oi g hi hg=>(hr.rows i oi hi).lt hg
 have hget :∀(i:Nat) (oi:A4),(os ++ [o])[i]?=some oi→os[i]?=some oi∨(i=os.length∧oi=o):=fun i oi hi=>by
  rcases Nat.lt_trichotomy i os.length with h | h | h
  ·rw[List.getElem?_append_left h] at hi;exact .inl hi
  ·subst h;simp at hi;exact .inr ⟨rfl,hi.symm⟩
  ·rw[List.getElem?_append_right (by omega),List.getElem?_eq_none (by simp;omega)] at hi;cases hi
 have hold :∀x v,Ae F w os x v→Ae F (w.alloc (.cells cur e)) (os ++ [o]) x v:=fun x v h=>
  Ch (fun _ h=>h) (fun g hg=>ht.FX g (hr.FX g hg) (by simp)) os _ (Es.append os [o]) x v h
 have hown :∀g,o.Bm g→g=w.heap.size:=fun g hg=>by
  simp only[A4.Bm,o,Ef,or_false,Option.some.injEq] at hg;exact hg.symm
 have:=hr.TL (k:=k) ht (by simp) (os':=os ++ [o]) (Es.append os [o]) (fun i oi hi=>by
   rcases hget i oi hi with h | ⟨_,rfl⟩
   ·exact .inl ⟨h,by simp⟩
   ·refine .inr ⟨hpos,hlens,by simp[o],fun g hg=>?_,fun g hg=>hg.elim,⟨fun _ _ _=>False,fun _ _ _ h=>h.elim,fun _ _ _ _ _ h=>h.elim,fun b hb cur' el l hcur' i x j e' s' ys hx hc=>?_⟩⟩
    ·simp only[o,Option.some.injEq] at hg
     subst hg
     refine⟨fun hF=>absurd (hr.FX _ hF) (Nat.lt_irrefl _),cur,heap_alloc_new w _,hsz,hle,hmax,fun i' x hx j c hc=>?_⟩
     obtain⟨u,h1,h2,_⟩:=hcells i' x hx j c hc
     exact⟨u,h1,hold _ _ h2⟩
    ·simp only[o,Option.some.injEq] at hb
     subst hb
     rw[heap_alloc_new w _] at hcur'
     cases hcur'
     obtain⟨u,h1,_,h3⟩:=hcells i x hx j _ hc
     exact⟨u,h1,JF (fun _ h=>h.elim) (fun _ h=>h.elim) _ u (h3 _ _ _ rfl)⟩)
  (fun i j oi oj g hi hj hgi hgj=>by
   rcases hget i oi hi with h | ⟨h,rfl⟩ <;> rcases hget j oj hj with h' | ⟨h',rfl⟩
   ·exact hr.inj i j oi oj g h h' hgi hgj
   ·have:=hlt i oi g h hgi;have:=hown g hgj;omega
   ·have:=hlt j oj g h' hgj;have:=hown g hgi;omega
   ·omega)
  (fun o' ho' g hg=>by
   rcases List.mem_append.1 ho' with h | h
   ·exact .inr ⟨o',h,hg⟩
   ·simp only[List.mem_singleton] at h;subst h;exact .inl (by have:=hown g hg;omega))
  (by simp)
 refine⟨?_,this.2.1⟩
 have h1:=this.1
 rw[List.map_append,hr.st] at h1
 simpa using h1
def ZD:List AV→List AV→Prop
 | [],[]=>True
 | x :: r,y :: r'=>((x=y∧x.leaf=true)∨(x=.sl []∧∃el s,y=.dv el s []∧0 < s))∧ZD r r'
 | _,_=>False
theorem ZD.len :∀{xs ys:List AV},ZD xs ys→xs.length=ys.length
 | [],[],_=>rfl
 | x :: r,y :: r',h=>by simp[ZD.len h.2]
theorem ZD.get :∀{xs ys:List AV},ZD xs ys→∀(j:Nat) y,ys[j]?=some y→∃x,xs[j]?=some x∧((x=y∧x.leaf=true)∨(x=.sl []∧∃el s,y=.dv el s []∧0 < s))
 | [],[],_,j,y,h=>by simp at h
 | x :: r,y :: r',h,j,z,hz=>by
  cases j with
  | zero=>simp only[List.getElem?_cons_zero,Option.some.injEq] at hz;subst hz;exact⟨x,rfl,h.1⟩
  | succ j=>exact ZD.get h.2 j z (by simpa using hz)
theorem VJ {v:Value} (h:IN v=.sl []):v=.slice none 0 0:=by
 unfold IN at h
 split at h
 ·rfl
 ·unfold Jj at h
  split at h <;> cases h
theorem Wo {t:TypeId} {ei:Vu} {l c:AV} {ul uc:Value} {zd:List AV} {kl kc:IntKind} {n:Int} (hr:Rel F os s a w) (he:Cn P t=some ei) (hzd:ZD ei.zero zd) (h0:0≤n) (hb:n * (ei.bytes:Int)≤281474976710656) (hm:n≤9223372036854775807) (el:l=.int kl n) (ec:c=.int kc n) (hl:Ae F w os l ul) (hc:Ae F w os c uc) :
  Fm P k F os s a w (Instr.makeSlice t ul uc) (fun v st=>v=.own s.st.length 0 n.toNat∧st=s.st ++ [⟨0,ei.e,ei.size,List.replicate n.toNat zd⟩]):=by
 obtain⟨inf,z,hu,hi,hz,hzs,hpos,hsz,hby,hzero,hzl⟩:=IG he
 subst el;subst ec
 simp only[Ae] at hl hc
 subst hl;subst hc
 obtain⟨N,rfl⟩:=Int.eq_ofNat_of_zero_le h0
 simp only[Int.toNat_natCast]
 have hrun:=run_make (P:=P) w t ei.e inf z hu hi hz kl kc N N (by omega) (Int.le_refl _) (by rw[← hby,Int.mul_comm];omega) (by omega)
 simp only[Int.toNat_natCast] at hrun
 have hzl':zd.length=ei.size:=by rw[← hzd.len,hzero,hsz,← hzs];simp
 have:=hr.YP (k:=k) (cur:=madeCells z.cells (N * inf.size)) (e:=ei.e) (size:=ei.size) (cap:=N) (xs:=List.replicate N zd) (by omega)
  (fun x hx=>by
   rw[List.mem_replicate] at hx;rw[hx.2]
   refine⟨hzl',fun c hc=>?_⟩
   obtain⟨j,hj⟩:=List.mem_iff_getElem?.1 hc
   obtain⟨x,_,h⟩:=hzd.get j c hj
   rcases h with ⟨rfl,h⟩ | ⟨_,el,s,rfl,_⟩
   ·exact DW h
   ·rfl) (by rw[size_madeCells,hsz]) (by simp) (by simp[maxLen];omega) (fun i x hx j c hc=>by
   rw[List.getElem?_replicate] at hx
   split at hx <;> simp only[Option.some.injEq,reduceCtorEq] at hx
   subst hx
   rename_i hiN
   have hjl:j < ei.size:=by rw[← hzl'];exact (List.getElem?_eq_some_iff.1 hc).1
   have hj2:j < z.cells.size:=by omega
   obtain⟨x0,hx0,hcase⟩:=hzd.get j c hc
   rw[hzero] at hx0
   simp only[List.getElem?_map,Array.getElem?_toList,Array.getElem?_eq_getElem hj2,Option.map_some,Option.some.injEq] at hx0
   refine⟨z.cells[j],?_,?_⟩
   ·have hlt:i * ei.size+j < N * inf.size:=by
     have:(i+1) * ei.size≤N * ei.size:=Nat.mul_le_mul_right _ hiN
     rw[Nat.add_mul] at this;rw[← hsz];omega
    have hmod:(i * ei.size+j) % z.cells.size=j:=by rw[hzs,← hsz,Nat.mul_comm,Nat.mul_add_mod];exact Nat.mod_eq_of_lt hjl
    simp[madeCells,hlt,hmod,hj2]
   ·rcases hcase with ⟨rfl,hlf⟩ | ⟨rfl,el,s,rfl,hs⟩
    ·rw[← hx0]
     refine⟨Jm F w os _,fun e s ys e'=>?_⟩
     rw[hx0] at e';rw[e'] at hlf;simp[AV.leaf] at hlf
    ·have:=VJ hx0
     rw[this]
     refine⟨by simp only[Ae];exact⟨_,_,_,rfl⟩,fun e s' ys e'=>?_⟩
     simp only[Cu]
     exact⟨hs,.inl ⟨trivial,none,rfl⟩⟩)
 refine⟨_,_,_,_,_,⟨rfl,rfl⟩,hrun,this.1,?_,this.2⟩
 simp only[Ae]
 refine⟨⟨⟨0,ei.e,ei.size,List.replicate N zd⟩,some w.heap.size,N,Ef⟩,by rw[hr.len];simp,by simp,⟨_,_,_,rfl⟩,fun _=>⟨by simp,.inr ⟨_,rfl,by simp⟩⟩⟩
theorem AO.LD {ops:Array Oper} {Q:Exit→St→Prop} {ds:List (Option Tmp)} {r:List Oper} {o:Oper} {s s':St} (hgd:o.guard=none)
  (h :∀F os a w,Rel F os s a w→Ev s.n o.dst=true→∀(next:Act→World→Prop) (Q':Exit→Act→World→Prop),(∀a' w',Step k s.n F os w (·=s') a' w'→next a' w')→o.wp P a w next Q')
  (hk:AO P k ops Q (ds ++ [o.dst]) r s'):AO P k ops Q ds (o :: r) s:=by
 intro hl hds hdst F os a w hr Q' hQ
 have ho:ops[ds.length]?=some o:=by have:=hl 0;simpa using this.symm
 have hod:Ev s.n o.dst=true:=hdst o (by have:=List.mem_of_getElem? (l:=ops.toList) (i:=ds.length) (by simpa using ho);exact this)
 have hl' :∀(j:Nat),r[j]?=ops[(ds ++ [o.dst]).length+j]?:=fun j=>by
  have:=hl (j+1)
  simp only[List.getElem?_cons_succ] at this
  rw[this];congr 1;simp;omega
 have hds' :∀(j:Nat) d,(ds ++ [o.dst])[j]?=some d→(ops[j]?).map (·.dst)=some d:=fun j d hj=>by
  rcases Nat.lt_trichotomy j ds.length with h1 | h1 | h1
  ·rw[List.getElem?_append_left h1] at hj;exact hds j d hj
  ·subst h1;rw[J8,Option.some.injEq] at hj;rw[ho];simp[hj]
  ·rw[List.getElem?_eq_none (by simp;omega)] at hj;cases hj
 unfold wpList
 have hw:Region.wanted o (yielded ops a.tmps)=true:=by unfold Region.wanted;rw[hgd]
 rw[if_pos hw]
 refine .inl (h F os a w hr hod _ _ ?_)
 rintro a' w' ⟨s2,F2,os2,hn2,rfl,hR2,hE2⟩
 exact hk hl' hds' (by rw[hn2];exact hdst) F2 os2 a' w' hR2 Q' fun _ _ _ hp=>hQ _ _ _ (hp.trans hE2)
section
variable {α : Type} {l : List α} {enc : α → List AV}
variable {ops : Array Oper} {Q : Exit → St → Prop} {ds : List (Option Tmp)} {r : List Oper} {n : Nat} {e : Nat → AV} {st st' : List Row} {ty : TypeId} {ps : String} {ed : Array Edge} {t : Tmp} {T : TypeId} {x y : Operand} {m bytes size : Nat} {el : TypeId} {zz : List AV} {u : α} {j : Int} {kk kk' : IntKind}
theorem Js (he:Cn P T=some ⟨el,size,bytes,zz⟩) (hx:St.ev ⟨n,e,st⟩ x=.int kk j) (hy:St.ev ⟨n,e,st⟩ y=.int kk' j) (hz:ZD zz (enc u)) (hl:Sh.mk u j bytes=some l) (hm:st.length=m) (hst:st ++ [⟨0,el,size,l.map enc⟩]=st')
  (hk:AO P k ops Q (ds ++ [some t]) r ⟨n,FU e t (.own m 0 l.length),st'⟩):AO P k ops Q ds (⟨some t,.makeSlice T x y,ty,ps,ed,none⟩ :: r) ⟨n,e,st⟩:=by
 subst hm;subst hst
 unfold Sh.mk at hl
 split at hl
 case isFalse=>cases hl
 rename_i h
 simp only[Option.some.injEq] at hl
 subst hl
 refine AO.LD rfl (fun F os a w hr hd next Q' hn=>?_) hk
 obtain⟨v,st',u',w',os',⟨rfl,rfl⟩,h2,h3,h4,h5⟩:=Wo (k:=k) (ei:=⟨el,size,bytes,zz⟩) hr he hz h.1 h.2.1 h.2.2 hx hy (hr.ev x) (hr.ev y)
 unfold Oper.wp
 simp only[execOp,Sem.run_bind,h2,Result.andThen_ok,Sem.run_pure,Oper.upon]
 refine hn _ _ (Ky hd ?_ h3 h4 h5)
 simp[St.put,List.map_replicate]
end
end Go.Abs



namespace Go.Abs
open Go
variable {P : Program} {F : Nat → Prop} {os : List A4} {s : St} {a : Act} {w : World} {k : Nat}
variable {α β : Type} {l : List α} {enc : α → List AV}
end Go.Abs
namespace Go.Abs
open Go
section
variable {P : Program} {k : Nat} {α : Type} {l l' : List α} {enc : α → List AV} {c : α}
variable {ops : Array Oper} {Q : Exit → St → Prop} {ds : List (Option Tmp)} {r : List Oper} {n : Nat} {e : Nat → AV} {st st' : List Row} {ty : TypeId} {ps : String} {ed : Array Edge} {t : Tmp} {gd : Option (Nat × Bool)} {T : TypeId} {x y : Operand} {bytes size id g m q gq size' : Nat} {el el' : TypeId} {zz cs : List AV}
end
end Go.Abs



namespace Go.Abs
open Go
variable {P : Program} {F : Nat → Prop} {os : List A4} {s : St} {a : Act} {w : World} {k : Nat}
def HW (id g:Nat) (xs:List (List AV)):AV→AV
 | .own id' g' n=>if id'=id∧g'=g then (if n=xs.length then .sl (JY xs) else .EO) else .own id' g' n
 | v=>v
def Zp (id g:Nat) (xs:List (List AV)):AV→AV
 | .agg cs=>.agg (cs.map (HW id g xs))
 | .DX cs=>.DX (cs.map (HW id g xs))
 | v=>HW id g xs v
theorem Wk.YM {id:Nat} {row:Row} (hid:k≤id) (hrow:s.st[id]?=some row) (hp:R5 row.xs) :
  Wk k s ⟨s.n,fun t=>Zp id row.gen row.xs (s.env t),s.st.set id { row with gen:=row.gen+1,xs:=[] }⟩:=fun F os a w hr=>by
 obtain⟨o,ho,rfl⟩:=hr.row hrow
 have hok:=hr.rows id o ho
 refine⟨fun b=>F b∨o.Bm b,os.set id ⟨{ o.row with gen:=o.row.gen+1,xs:=[] },none,0,Ef⟩,?_,?_⟩
 case refine_2=>
  refine⟨rfl,rfl,rfl,Nat.le_refl _,fun _ h=>.inl h,fun _ _=>rfl,fun b _ h1 h2=>⟨rfl,fun h=>h.elim h1 (fun e=>h2 o (List.mem_of_getElem? ho) e),fun o' ho'=>?_⟩,fun i oi hi hoi=>⟨oi,?_,Nat.le_refl _,rfl,fun _=>⟨rfl,rfl,rfl⟩⟩⟩
  ·rcases List.mem_or_eq_of_mem_set ho' with h | rfl
   ·exact h2 o' h
   ·intro hh
    rcases hh with hh | hh
    ·simp at hh
    ·exact hh
  ·rw[List.getElem?_set_ne (by omega)];exact hoi
 have hF :∀b,F b→(fun b=>F b∨o.Bm b) b:=fun _ h=>.inl h
 have hos:Es os (os.set id ⟨{ o.row with gen:=o.row.gen+1,xs:=[] },none,0,Ef⟩):=Es.set ho (by simp) rfl (fun e=>by simp at e)
 have hmono :∀x v,Ae F w os x v→Ae (fun b=>F b∨o.Bm b) w (os.set id ⟨{ o.row with gen:=o.row.gen+1,xs:=[] },none,0,Ef⟩) x v:=fun x v h=>
  Ch hF (fun _ _=>rfl) os _ hos x v h
 have h1 :∀x v,Ae F w os x v→Ae (fun b=>F b∨o.Bm b) w (os.set id ⟨{ o.row with gen:=o.row.gen+1,xs:=[] },none,0,Ef⟩) (HW id o.row.gen o.row.xs x) v:=fun x v h=>by
  cases x with
  | own id' g' n=>
   simp only[HW]
   split
   ·rename_i hif
    obtain⟨rfl,rfl⟩:=hif
    split
    ·rename_i hn0
     subst hn0
     simp only[Ae] at h
     obtain⟨o',ho',_,_,h⟩:=h
     rw[ho] at ho';cases ho'
     obtain⟨_,hv⟩:=h rfl
     have hD:=QS hok hp (v:=v) (by simpa only[Nat.sub_self,Nat.zero_mul,Nat.sub_zero] using hv)
     have:=(PK (F:=fun b=>F b∨o.Bm b) (fun b hb=>.inr hb) _ _ hD).1
     simp only[LO,Ae] at this ⊢
     exact this
    ·simp[Ae]
   ·exact hmono _ _ h
  | _=>exact hmono _ _ h
 have hL :∀xs us,BT F w os xs us→BT (fun b=>F b∨o.Bm b) w (os.set id ⟨{ o.row with gen:=o.row.gen+1,xs:=[] },none,0,Ef⟩) (xs.map (HW id o.row.gen o.row.xs)) us:=fun xs us h=>
  DD (by simp[BJ h]) fun i x u hx hu=>by
   simp only[List.getElem?_map,Option.map_eq_some_iff] at hx
   obtain⟨y,hy,rfl⟩:=hx
   obtain⟨u',e1,e2⟩:=Bg h i y hy
   rw[hu] at e1;cases e1
   exact h1 _ _ e2
 have hget :∀(i:Nat) (oi:A4),(os.set id ⟨{ o.row with gen:=o.row.gen+1,xs:=[] },none,0,Ef⟩)[i]?=some oi→(i≠id∧os[i]?=some oi)∨(i=id∧oi=⟨{ o.row with gen:=o.row.gen+1,xs:=[] },none,0,Ef⟩):=fun i oi hi=>by
  by_cases e:i=id
  ·subst e;rw[List.getElem?_set_self (List.getElem?_eq_some_iff.1 ho).1,Option.some.injEq] at hi;exact .inr ⟨rfl,hi.symm⟩
  ·rw[List.getElem?_set_ne (Ne.symm e)] at hi;exact .inl ⟨e,hi⟩
 refine⟨by rw[List.map_set,hr.st],fun t=>?_,hr.size,fun i oi hi=>?_,fun i j oi oj b hi hj hbi hbj=>?_,fun b hb=>?_,hr.defers⟩
 ·have:=hr.env t
  simp only
  generalize s.env t=x at this ⊢
  cases x with
  | agg cs=>simp only[Zp,Ae] at this ⊢;obtain⟨us,e,h⟩:=this;exact⟨us,e,hL _ _ h⟩
  | DX cs=>simp only[Zp,Ae] at this ⊢;obtain⟨us,e,h⟩:=this;exact⟨us,e,hL _ _ h⟩
  | _=>exact h1 _ _ this
 ·rcases hget i oi hi with ⟨hne,h⟩ | ⟨_,rfl⟩
  ·have hoki:=hr.rows i oi h
   refine⟨hoki.pos,hoki.lens,hoki.none,fun b hb=>?_,fun b hb=>⟨fun hF=>hF.elim (hoki.mo b hb).1 (fun hob=>hne (hr.inj i id oi o b h ho (.inr hb) hob)),(hoki.mo b hb).2⟩,hoki.deep⟩
   obtain⟨e1,cur,e2,e3,e4,e5,e6⟩:=hoki.some b hb
   refine⟨fun hF=>hF.elim e1 (fun hob=>hne (hr.inj i id oi o b h ho (.inl hb) hob)),cur,e2,e3,e4,e5,fun i' x hx j c hc=>?_⟩
   obtain⟨u,f1,f2⟩:=e6 i' x hx j c hc
   exact⟨u,f1,hmono _ _ f2⟩
  ·exact⟨hok.pos,by simp,by simp,by simp,fun b hb=>hb.elim,E4 (by simp)⟩
 ·rcases hget i oi hi with ⟨hne,h⟩ | ⟨h,rfl⟩ <;> rcases hget j oj hj with ⟨hne',h'⟩ | ⟨h',rfl⟩
  ·exact hr.inj i j oi oj b h h' hbi hbj
  ·exact hbj.elim (fun e=>by simp at e) fun e=>e.elim
  ·exact hbi.elim (fun e=>by simp at e) fun e=>e.elim
  ·omega
 ·rcases hb with hb | hb | hb
  ·exact hr.FX b hb
  ·obtain⟨_,cur,hcur,_⟩:=hok.some b hb
   exact (Array.getElem?_eq_some_iff.1 hcur).1
  ·exact (hok.mo b hb).2.1
variable {α : Type} {l : List α} {enc enc' : α → List AV} {n id g m size : Nat} {e : Nat → AV} {st st' : List Row} {L : List (Nat × AV)} {el : TypeId} {xs : List (List AV)}
theorem WR (h:m=l.length) (hu :∀x,FW (enc x)=enc' x):HW id g (l.map enc) (.own id g m)=.sl (l.map enc'):=by
 subst h
 simp only[HW,and_self,if_true,List.length_map]
 rw[GI,List.map_map]
 congr 1
 exact List.map_congr_left fun x _=>hu x
theorem le.HW (h:m=l.length) (hu :∀x,FW (enc x)=enc' x):le (Abs.HW id g (l.map enc) (.own id g m)) (.sl (l.map enc')):=le.of (WR h hu)
theorem FB (h :∀x,(enc x).all Pt=true):R5 (l.map enc):=fun x hx c hc=>by
 obtain⟨y,_,rfl⟩:=List.mem_map.1 hx
 exact List.all_eq_true.1 (h y) c hc
theorem E9 (hrow:st[id]?=some ⟨g,el,size,xs⟩) (hid:k≤id) (hp:R5 xs) (h:ME (fun t=>Abs.Zp id g xs (e t)) L) (hst:st.set id ⟨g+1,el,size,[]⟩=st'):Wk k ⟨n,e,st⟩ ⟨n,AS L,st'⟩:=by
 subst hst
 exact (Wk.YM (s:=⟨n,e,st⟩) hid hrow hp).trans (AM h)
end Go.Abs



namespace Go.Abs
open Go
variable {P : Program} {F : Nat → Prop} {os : List A4} {s : St} {a : Act} {w : World} {k : Nat}
section
variable {P : Program} {ops : Array Oper} {Q : Exit → St → Prop} {n N f i : Nat} {listed listed' : Array Bool} {e : Nat → AV} {ty : TypeId} {p : String} {ed : Array Edge} {t : Tmp} {α : Type} {l l2 l' : List α} {enc : α → List AV} {x y : Operand} {g m size bytes : Nat} {el : TypeId} {zz : List AV} {T : TypeId} {Nl : List Row} {k : Nat}
end
section
variable {P : Program} {ds : List (Option Tmp)} {r : List Oper} {KS : St → Prop} {n : Nat} {e : Nat → AV} {st : List Row} {ty : TypeId} {ps : String} {ed : Array Edge} {t : Tmp} {gd : Option (Nat × Bool)} {α : Type} {l l' : List α} {enc : α → List AV} {x : Operand} {size bytes : Nat} {el T : TypeId} {zz : List AV}
end
end Go.Abs



namespace Go.Abs
open Go
section
variable {P : Program} {k : Nat} {ops : Array Oper} {Q : Exit → St → Prop} {ds : List (Option Tmp)} {r : List Oper} {n : Nat} {e : Nat → AV} {st st' : List Row} {ty : TypeId} {p : String} {ed : Array Edge} {t : Tmp} {x y : Operand} {size bytes m : Nat} {el T Tn : TypeId} {zz : List AV} {α : Type} {enc : α → List AV} {u : α} {l' : List α} {kk : IntKind} {j : Int} {v : AV} {o : Oper}
end
section
variable {P : Program} {ds : List (Option Tmp)} {r : List Oper} {KS : St → Prop} {n : Nat} {e : Nat → AV} {st : List Row} {ty : TypeId} {ps : String} {ed : Array Edge} {t : Tmp} {gd : Option (Nat × Bool)} {α : Type} {l : List α} {enc : α → List AV} {u : α} {x y : Operand} {size bytes : Nat} {el T : TypeId} {zz : List AV} {kk kk' : IntKind} {j : Int}
end
section
variable {P : Program} {k : Nat} {ops : Array Oper} {Q : Exit → St → Prop} {ds : List (Option Tmp)} {r : List Oper} {n : Nat} {e : Nat → AV} {st st' : List Row} {ty : TypeId} {p : String} {ed : Array Edge} {t : Tmp} {x y : Operand} {size bytes m : Nat} {el T : TypeId} {zz : List AV} {kk kk' : IntKind} {c : Nat}
end
end Go.Abs



namespace RC
open Go Go.Abs
end RC



namespace RC
open Go Go.Abs
theorem J3 {α:Type} {l:List α} {enc enc':α→List AV} (h :∀x,FW (enc x)=enc' x):JY (l.map enc)=l.map enc':=by
 rw[GI,List.map_map]
 exact List.map_congr_left fun x _=>h x
theorem Oy (n:Int):FW (eI n)=eI n:=rfl
def Be (ti:Nat) (c:Cell):List AV:=[.int .i64 c.count,.int .i64 c.tag,.dv ti 1 (c.fields.map eI)]
theorem Jb {ti:Nat} (c:Cell):FW (Be ti c)=Aj c:=by
 simp only[Be,FW,LO,J3 Oy,Aj]
end RC



namespace RC
open Go Go.Abs
structure Ai where
 proc:Int
 at_:Int
 dst:Int
 Ab:List Int
 own:List Int
 held:List Int
structure Av where
 status:Int
 value:Int
 calls:Int
 CV:Int
 out:List Int
 heap:List Cell
 AT:List Ai
def Ax (f:Ai):List AV:=[.int .i64 f.proc,.int .i64 f.at_,.int .i64 f.dst,.sl (f.Ab.map eI),.sl (f.own.map eI),.sl (f.held.map eI)]
def Ah (s:Av):List AV:=[.int .i64 s.status,.int .i64 s.value,.int .i64 s.calls,.int .i64 s.CV,.sl (s.out.map eI),.sl (s.heap.map Aj),.sl (s.AT.map Ax)]
structure IJ (f:Ai):Prop where
 proc:E3 f.proc
 at_:E3 f.at_
 dst:E3 f.dst
 Ab:Cb E3 f.Ab
 own:Cb E3 f.own
 held:Cb E3 f.held
structure JA (s:Av):Prop where
 status:E3 s.status
 value:E3 s.value
 calls:E3 s.calls
 CV:E3 s.CV
 out:Cb E3 s.out
 heap:Cb JI s.heap
 AT:Cb IJ s.AT
end RC



namespace RC
open Go Go.Abs
def Cc (a:Nat) (c:By):List AV:=[.dv a 1 (c.fields.map eI)]
theorem VZ {a:Nat} (c:By):FW (Cc a c)=D5 c:=by
 simp only[Cc,FW,LO,J3 Oy,D5]
def BV (a b:Nat) (d:An):List AV:=[.int .i64 d.from_,.int .i64 d.to,.dv a 1 (d.cons.map (Cc b))]
theorem Iq {a b:Nat} (d:An):FW (BV a b d)=Ad d:=by
 simp only[BV,FW,LO,J3 VZ,Ad]
def Bb (a b:Nat) (i:Ag):List AV:=[.int .i64 i.op,.int .i64 i.dst,.int .i64 i.num,.int .i64 i.BY,.dv a 1 (i.args.map eI),.dv b 1 (i.jumps.map eI)]
theorem Sj {a b:Nat} (i:Ag):FW (Bb a b i)=AU i:=by
 simp only[Bb,FW,LO,J3 Oy,AU]
def BQ (a b c d e:Nat) (p:A0):List AV:=[.dv a 1 (p.params.map eI),.dv b 1 (p.BH.map eI),.int .i64 p.result,.int .i64 p.Ab,.dv c 6 (p.code.map (Bb d e))]
theorem Ij {a b c d e:Nat} (p:A0):FW (BQ a b c d e p)=Az p:=by
 simp only[BQ,FW,LO,J3 Oy,J3 Sj,Az]
def BG (a b c:Nat) (f:Ai):List AV:=[.int .i64 f.proc,.int .i64 f.at_,.int .i64 f.dst,.dv a 1 (f.Ab.map eI),.dv b 1 (f.own.map eI),.dv c 1 (f.held.map eI)]
theorem Hc {a b c:Nat} (f:Ai):FW (BG a b c f)=Ax f:=by
 simp only[BG,FW,LO,J3 Oy,Ax]
end RC



namespace Go.Abs
open Go
variable {P : Program} {n : Nat} {e : Nat → AV} {st : List Row} {t : Tmp} {ty : TypeId} {ps : String} {ed : Array Edge} {x : Operand}
end Go.Abs



namespace Go.Abs
open Go
section
variable {P : Program} {k : Nat} {ops : Array Oper} {Q : Exit → St → Prop} {N f i : Nat} {listed listed' : Array Bool} {s s' : St} {o : Oper}
end
section
variable {P : Program} {n : Nat} {e : Nat → AV} {st : List Row} {t : Tmp} {ty : TypeId} {ps : String} {ed : Array Edge} {x : Operand}
end
section
variable {P : Program} {k : Nat} {α : Type} {l : List α} {enc : α → List AV}
variable {ops : Array Oper} {Q : Exit → St → Prop} {ds : List (Option Tmp)} {r : List Oper} {n : Nat} {e : Nat → AV} {st st' : List Row} {ty : TypeId} {ps : String} {ed : Array Edge} {v : AV} {gd : Option (Nat × Bool)} {T : TypeId} {x y : Operand} {ag : Bool} {sz id g size off : Nat} {el : TypeId} {cs cs' : List AV} {c : α} {i : Int}
end
end Go.Abs



namespace Go.Abs
open Go
end Go.Abs



namespace RC
open Go Go.Abs
end RC



namespace Sh
def apart (i j:Int):Option Unit:=if i=j then none else some ()
theorem Ux {i j:Int} {u:Unit} (h:apart i j=some u):i≠j:=fun e=>by unfold apart at h;rw[if_pos e] at h;cases h
end Sh
namespace Go.Abs
open Go
section
variable {F : Nat → Prop} {os : List A4} {s : St} {a : Act} {w : World} {k : Nat}
theorem Wk.Zl {id m g gm size sz n i j nn:Nat} {el el':TypeId} {xs ys:List (List AV)} {x:List AV} {e:Nat→AV} {st st':List Row} (hrow:st[id]?=some ⟨g,el,size,xs⟩) (hx:xs[i]?=some x) (hc:x[j]?=some (.own m gm n))
  (hm:st[m]?=some ⟨gm,el',sz,ys⟩) (hn:n=ys.length) (hne:id≠m) (hkm:k≤m) (hp:Fj ys) (hst:(st.set id ⟨g,el,size,xs.set i (x.set j (.sl ys))⟩).set m ⟨gm+1,el',sz,[]⟩=st') :
  Wk k ⟨nn,e,st⟩ ⟨nn,e,st'⟩:=fun F os a w hr=>by
 subst hst;subst hn
 obtain⟨o,ho,hor⟩:=hr.row hrow
 obtain⟨p,hpp,hpr⟩:=hr.row hm
 have hok:=hr.rows id o ho
 have hpk:=hr.rows m p hpp
 have hst:os.map A4.row=st:=hr.st
 have hxs:o.row.xs=xs:=by rw[hor]
 have hpx:p.row.xs=ys:=by rw[hpr]
 have hpl :∀x∈p.row.xs,∀c∈x,c.leaf=true:=fun x hx c hc=>by
  have h1:=hp x (by rw[← hpx];exact hx) c hc
  have h2:=(hpk.lens x hx).2 c hc
  cases c <;> simp_all [simple,AV.leaf,AV.kept]
 let o':A4:={ o with row:={ o.row with xs:=xs.set i (x.set j (.sl ys)) } }
 let p':A4:=⟨{ p.row with gen:=p.row.gen+1,xs:=[] },none,0,p.more⟩
 let F':Nat→Prop:=fun b=>F b∨p.EU=some b
 have hF :∀b,F b→F' b:=fun _ h=>.inl h
 have hil:i < xs.length:=(List.getElem?_eq_some_iff.1 hx).1
 have hjl:j < x.length:=(List.getElem?_eq_some_iff.1 hc).1
 have hidl:=(List.getElem?_eq_some_iff.1 ho).1
 have hml:=(List.getElem?_eq_some_iff.1 hpp).1
 have hget :∀(q:Nat) (oq:A4),((os.set id o').set m p')[q]?=some oq→(q≠id∧q≠m∧os[q]?=some oq)∨(q=id∧oq=o')∨(q=m∧oq=p'):=fun q oq hq=>by
  by_cases e:q=m
  ·subst e
   rw[List.getElem?_set_self (by simpa using hml),Option.some.injEq] at hq
   exact .inr (.inr ⟨rfl,hq.symm⟩)
  ·rw[List.getElem?_set_ne (Ne.symm e)] at hq
   by_cases e2:q=id
   ·subst e2
    rw[List.getElem?_set_self hidl,Option.some.injEq] at hq
    exact .inr (.inl ⟨rfl,hq.symm⟩)
   ·rw[List.getElem?_set_ne (Ne.symm e2)] at hq
    exact .inl ⟨e2,e,hq⟩
 have hos:Es os ((os.set id o').set m p'):=fun q oq hq=>by
  by_cases e:q=m
  ·subst e
   rw[hpp] at hq;cases hq
   exact⟨p',List.getElem?_set_self (by simpa using hml),Nat.le_succ _,rfl,fun e=>by simp[p'] at e⟩
  ·rw[List.getElem?_set_ne (Ne.symm e)]
   by_cases e2:q=id
   ·subst e2
    rw[ho] at hq;cases hq
    exact⟨o',List.getElem?_set_self hidl,Nat.le_refl _,rfl,fun _=>⟨rfl,rfl,by simp[o',hxs]⟩⟩
   ·rw[List.getElem?_set_ne (Ne.symm e2)]
    exact⟨oq,hq,Nat.le_refl _,rfl,fun _=>⟨rfl,rfl,rfl⟩⟩
 have hmono :∀y v,Ae F w os y v→Ae F' w ((os.set id o').set m p') y v:=fun y v h=>Ch hF (fun _ _=>rfl) os _ hos y v h
 have hcell :∀x∈p.row.xs,∀c∈x,∀u,Ae F w os c u→Ae F' w [] c u:=fun x hx c hc u hu=>
  Ch hF (fun _ _=>rfl) [] [] (by simp) c u (HH (hp x (by rw[← hpx];exact hx) c hc) [] hu)
 have hpn :∀b,p'.Bm b→p.Bm b:=fun b hb=>by
  rcases hb with hb | hb
  ·simp[p'] at hb
  ·exact .inr hb
 obtain⟨bo,hbo⟩ :∃b,o.EU=some b:=by
  cases hb:o.EU with
  | none=>have:=(hok.none hb).1;rw[hxs] at this;rw[this] at hil;simp at hil
  | some b=>exact⟨b,rfl⟩
 obtain⟨hnF,cur,hcur,hsz,hle,hmax,hcells⟩:=hok.some bo hbo
 obtain⟨uv,hu1,hu2⟩:=hcells i x (by rw[hxs];exact hx) j _ hc
 have hnew:Ae F' w ((os.set id o').set m p') (.sl ys) uv:=by
  simp only[Ae] at hu2 ⊢
  obtain⟨q,hq,_,_,hv⟩:=hu2
  rw[hpp] at hq;cases hq
  have h2:=(hv (by rw[hpr])).2
  rw[hpx,Nat.sub_self,Nat.zero_mul,Nat.sub_zero] at h2
  rcases h2 with ⟨hb,ad,rfl⟩ | ⟨b,hb,rfl⟩
  ·have h0:=(hpk.none hb).1
   rw[hpx] at h0
   subst h0
   exact⟨ad,0,rfl,Nat.le_refl _,by simp⟩
  ·obtain⟨_,cur2,hcur2,hsz2,hle2,_,hcells2⟩:=hpk.some b hb
   rw[hpx] at hle2
   refine⟨_,p.cap,rfl,hle2,fun _=>⟨b,0,p.row.size,rfl,.inr hb,fun x hx=>(hpk.lens x (by rw[hpx];exact hx)).1,?_⟩⟩
   refine ID (fun x hx=>(hpk.lens x (by rw[hpx];exact hx)).1) fun q z hz=>HP fun r c hcz=>?_
   have hzm:z∈p.row.xs:=by rw[hpx];exact List.mem_of_getElem? hz
   obtain⟨u,e1,e2⟩:=hcells2 q z (by rw[hpx];exact hz) r c hcz
   refine⟨u,?_,hpl z hzm c (List.mem_of_getElem? hcz),hcell z hzm c (List.mem_of_getElem? hcz) u e2⟩
   rw[Nat.zero_add,cell_of_row w b _ cur2 _ _ hcur2]
   exact e1
 have hnP :∀(q:Nat) (oq:A4) b,q≠m→os[q]?=some oq→oq.Bm b→¬ F' b:=fun q oq b hq hoq hb hFb=>
  hFb.elim ((hr.rows q oq hoq).nF hb) fun h=>hq (hr.inj q m oq p b hoq hpp hb (.inl h))
 refine⟨F',(os.set id o').set m p',⟨?_,fun t=>hmono _ _ (hr.env t),hr.size,fun q oq hq=>?_,fun q q' oq oq' b hq hq' hb hb'=>?_,fun b hb=>?_,hr.defers⟩,⟨rfl,rfl,rfl,Nat.le_refl _,hF,fun _ _=>rfl,fun b _ h1 h2=>⟨rfl,?_,fun oq hoq hb=>?_⟩,fun q oq _ hq=>hos q oq hq⟩⟩
 ·rw[List.map_set,List.map_set,hst]
  simp only[o',p',hor,hpr]
 ·rcases hget q oq hq with ⟨_,h2,h⟩ | ⟨_,rfl⟩ | ⟨_,rfl⟩
  ·have h0:=hr.rows q oq h
   refine⟨h0.pos,h0.lens,h0.none,fun b hb=>?_,fun b hb=>⟨hnP q oq b h2 h (.inr hb),(h0.mo b hb).2⟩,h0.deep⟩
   obtain⟨e1,cur,e2,e3,e4,e5,e6⟩:=h0.some b hb
   exact⟨hnP q oq b h2 h (.inl hb),cur,e2,e3,e4,e5,fun i' y hy j' c hc=>by obtain⟨u,f1,f2⟩:=e6 i' y hy j' c hc;exact⟨u,f1,hmono _ _ f2⟩⟩
  ·refine⟨hok.pos,fun y hy=>?_,(fun hn=>by simp only[o'] at hn;rw[hbo] at hn;cases hn),fun b hb=>?_,fun b hb=>⟨hnP id o b hne ho (.inr hb),(hok.mo b hb).2⟩,?_⟩
   ·rcases List.mem_or_eq_of_mem_set hy with hy | rfl
    ·exact hok.lens y (by rw[hxs];exact hy)
    ·have h0:=hok.lens x (by rw[hxs];exact List.mem_of_getElem? hx)
     refine⟨by rw[List.length_set];exact h0.1,fun c hcm=>?_⟩
     rcases List.mem_or_eq_of_mem_set hcm with h | rfl
     ·exact h0.2 c h
     ·rfl
   ·simp only[o'] at hb
    rw[hbo] at hb;cases hb
    refine⟨hnP id o bo hne ho (.inl hbo),cur,hcur,hsz,by simpa [o',hxs] using hle,hmax,fun i' y hy j' c hcy=>?_⟩
    simp only[o'] at hy ⊢
    by_cases hi:i'=i
    ·subst hi
     rw[List.getElem?_set_self hil,Option.some.injEq] at hy
     subst hy
     by_cases hj:j'=j
     ·subst hj
      rw[List.getElem?_set_self hjl,Option.some.injEq] at hcy
      subst hcy
      exact⟨uv,hu1,hnew⟩
     ·rw[List.getElem?_set_ne (Ne.symm hj)] at hcy
      obtain⟨u,f1,f2⟩:=hcells i' x (by rw[hxs];exact hx) j' c hcy
      exact⟨u,f1,hmono _ _ f2⟩
    ·rw[List.getElem?_set_ne (Ne.symm hi)] at hy
     obtain⟨u,f1,f2⟩:=hcells i' y (by rw[hxs];exact hy) j' c hcy
     exact⟨u,f1,hmono _ _ f2⟩
   ·refine hok.deep.Mc rfl (fun _ h=>h) rfl (fun _ _=>rfl) fun i' y j' e2 s2 zs hy hcy=>?_
    simp only[o'] at hy
    rw[hxs]
    by_cases hi:i'=i
    ·subst hi
     rw[List.getElem?_set_self hil,Option.some.injEq] at hy
     subst hy
     by_cases hj:j'=j
     ·subst hj
      rw[List.getElem?_set_self hjl,Option.some.injEq] at hcy
      cases hcy
     ·rw[List.getElem?_set_ne (Ne.symm hj)] at hcy
      exact⟨x,hx,hcy⟩
    ·rw[List.getElem?_set_ne (Ne.symm hi)] at hy
     exact⟨y,hy,hcy⟩
  ·exact⟨hpk.pos,by simp[p'],by simp[p'],by simp[p'],fun b hb=>⟨fun hFb=>hFb.elim (hpk.mo b hb).1 (hpk.mo b hb).2.2,(hpk.mo b hb).2.1,by simp[p']⟩,E4 (by simp[p'])⟩
 ·have hown :∀b,o'.Bm b→o.Bm b:=fun b hb=>hb
  rcases hget q oq hq with ⟨q1,q2,h⟩ | ⟨rfl,rfl⟩ | ⟨rfl,rfl⟩ <;> rcases hget q' oq' hq' with ⟨q1',q2',h'⟩ | ⟨rfl,rfl⟩ | ⟨rfl,rfl⟩
  ·exact hr.inj q q' oq oq' b h h' hb hb'
  ·exact hr.inj q _ oq o b h ho hb (hown b hb')
  ·exact hr.inj q _ oq p b h hpp hb (hpn b hb')
  ·exact hr.inj _ q' o oq' b ho h' (hown b hb) hb'
  ·rfl
  ·exact hr.inj _ _ o p b ho hpp (hown b hb) (hpn b hb')
  ·exact hr.inj _ q' p oq' b hpp h' (hpn b hb) hb'
  ·exact hr.inj _ _ p o b hpp ho (hpn b hb) (hown b hb')
  ·rfl
 ·exact hb.elim (hr.FX b) fun h=>hpk.lt (.inl h)
 ·exact fun hFb=>hFb.elim h1 fun h=>h2 p (List.mem_of_getElem? hpp) (.inl h)
 ·obtain⟨q,hq⟩:=List.mem_iff_getElem?.1 hoq
  rcases hget q oq hq with ⟨_,_,h⟩ | ⟨_,rfl⟩ | ⟨_,rfl⟩
  ·exact h2 oq (List.mem_of_getElem? h) hb
  ·exact h2 o (List.mem_of_getElem? ho) hb
  ·exact h2 p (List.mem_of_getElem? hpp) (hpn b hb)
variable {α β : Type} {l : List α} {enc : α → List AV}
theorem Tf (h :∀y,(enc y).all AV.kept=true) :∀z∈l.map enc,z.all AV.kept=true:=fun z hz=>by
 obtain⟨y,_,rfl⟩:=List.mem_map.1 hz
 exact h y
theorem X4 {i:Int} {x:List AV}:(hole l enc i x).length=l.length:=by unfold hole;simp
theorem ZS {i j:Int} {u:Unit} {c c':α} {x:List AV} (h:Sh.get l i=some c') (hn:Sh.apart i j=some u) (hg:Sh.get l j=some c):(hole l enc i x)[j.toNat]?=some (enc c):=by
 unfold hole
 have h1:=(Sh.get_some h).1
 have h2:=(Sh.get_some hg).1
 have h3:=Sh.Ux hn
 rw[List.getElem?_set_ne (by omega)]
 exact Bp hg
theorem Wk.bS {id m g gm size sz nn n:Nat} {el el':TypeId} {i:Int} {c:α} {ys:List β} {encY:β→List AV} {u:α} {e:Nat→AV} {st st':List Row} (hrow:st[id]?=some ⟨g,el,size,hole l enc i [.own m gm n]⟩) (hi:Sh.get l i=some c)
  (hm:st[m]?=some ⟨gm,el',sz,ys.map encY⟩) (hn:n=ys.length) (hne:id≠m) (hkm:k≤m) (hp:Fj (ys.map encY)) (hu:enc u=[.sl (ys.map encY)]) (hst:(st.set id ⟨g,el,size,(Sh.put l i u).map enc⟩).set m ⟨gm+1,el',sz,[]⟩=st') :
  Wk k ⟨nn,e,st⟩ ⟨nn,e,st'⟩:=by
 subst hst
 have hf:(Sh.put l i u).map enc=(hole l enc i [.own m gm n]).set i.toNat ([AV.own m gm n].set 0 (.sl (ys.map encY))):=by
  rw[TE];show _=hole l enc i [.sl (ys.map encY)];exact (RL hu.symm).symm
 rw[hf]
 exact Wk.Zl hrow (EK hi) (j:=0) rfl hm (by simpa using hn) hne hkm hp rfl
section
variable {P : Program} {s : St} {x y : Operand} {t el : TypeId} {size bytes id g m : Nat} {zz : List AV} {n i : Int} {kk : IntKind} {u : α} {z : List AV}
theorem On (he:Cn P t=some ⟨el,size,bytes,zz⟩) (hx:s.ev x=.own id g m) (hy:s.ev y=.int kk n) (hr:s.st[id]?=some ⟨g,el,size,hole l enc i z⟩) (hm:m=l.length) (hg:Sh.get l n=some u) :
  AQ P s (.indexAddr t x y) (.ptr id g n.toNat 0):=fun K hk=>by
 show IA P s.st t (s.ev x) (s.ev y) K
 rw[hx,hy];subst hm;exact Am _ he ⟨(Sh.get_some hg).1,(Sh.get_some hg).2.2,Am _ hr ⟨rfl,rfl,by simpa [X4] using hk⟩⟩
end
end
end Go.Abs




namespace RC
def DE (p0:(List Int)) (p1:Int):Option (Int):=
 if (decide ((Sh.w (p1 - (Sh.len p0))) < 0))=true then
  some (-1)
 else
  some (Sh.w (p1 - (Sh.len p0)))
def Ie (p0:Cell) (p1:Int):Option (Int):=
 Option.bind (DE p0.fields p1) fun q3=>
 if (decide (q3 < 0))=true then
  some (-1)
 else
  some q3
def EI (p0:(List Cell)):Nat→Int→Int→Option ((Int) ⊕ (Int))
 | 0,_,_=>none
 | n+1,left9,i10=>
  if (decide (i10 < (Sh.len p0)))=true then
   Option.bind (Sh.get p0 i10) fun c19=>
   Option.bind (Ie c19 left9) fun q20=>
   if (decide (q20 < 0))=true then
    some (Sum.inl (-1))
   else
    EI p0 n q20 (Sh.w (i10+1))
  else
   some (Sum.inr left9)
def Hw (N:Nat) (p0:(List Cell)) (p1:Int):Option (Int):=
 if (decide ((Sh.w (p1 - (Sh.len p0))) < 0))=true then
  some (-1)
 else
  Sh.cont (EI p0 N (Sh.w (p1 - (Sh.len p0))) 0) (id) fun left11=>
  some left11
def ED (p0:(List Int)):Nat→Int→(List Int)→Option ((List Int))
 | 0,_,_=>none
 | n+1,i6,l7=>
  if (decide (i6 < (Sh.len p0)))=true then
   Option.bind (Sh.get p0 i6) fun c15=>
   Option.bind (Sh.get l7 i6) fun c16=>
   ED p0 n (Sh.w (i6+1)) (Sh.put l7 i6 c15)
  else
   some l7
def DG (N:Nat) (p0:(List Int)):Option ((List Int)):=
 Option.bind (Sh.mk 0 (Sh.len p0) 8) fun l3=>
 Option.bind (ED p0 N 0 l3) fun l8=>
 some l8
def Ik (N:Nat) (p0:Cell):Option (Cell):=
 Option.bind (DG N p0.fields) fun q6=>
 some (Cell.mk p0.count p0.tag q6)
def De (N:Nat) (p0:(List Cell)):Nat→Int→(List Cell)→Option ((List Cell))
 | 0,_,_=>none
 | n+1,i6,l7=>
  if (decide (i6 < (Sh.len p0)))=true then
   Option.bind (Sh.get p0 i6) fun c15=>
   Option.bind (Ik N c15) fun q16=>
   Option.bind (Sh.get l7 i6) fun c17=>
   De N p0 n (Sh.w (i6+1)) (Sh.put l7 i6 q16)
  else
   some l7
def Hv (N:Nat) (p0:(List Cell)):Option ((List Cell)):=
 Option.bind (Sh.mk (Cell.mk 0 0 []) (Sh.len p0) 40) fun l3=>
 Option.bind (De N p0 N 0 l3) fun l8=>
 some l8
def At (p0:Int) (p1:Int) (p2:Int):Option (Bool):=
 Option.bind (
  if (decide (p1≤p0))=true then
   some (decide (p0≤p2))
  else
   some false
 ) fun t3=>
 some t3
def Dg (p0:(List Int)):Nat→Int→Option ((Bool) ⊕ (Unit))
 | 0,_=>none
 | n+1,i4=>
  if (decide (i4 < (Sh.len p0)))=true then
   Option.bind (Sh.get p0 i4) fun c12=>
   if (!decide (c12=0))=true then
    some (Sum.inl false)
   else
    Dg p0 n (Sh.w (i4+1))
  else
   some (Sum.inr ())
def Hy (N:Nat) (p0:(List Int)):Option (Bool):=
 Sh.cont (Dg p0 N 0) (id) fun ()=>
 some true
def Cx (p0:Int):Option (Bool):=
 some (decide (1000≤p0))
def FF (p0:(List Cell)) (p1:Int):Option (Bool):=
 Option.bind (
  Option.bind (At (Sh.w (p1 - 1000)) 0 (Sh.w ((Sh.len p0) - 1))) fun q5=>
  if q5=true then
   Option.bind (Cx p1) fun q7=>
   if q7=true then
    Option.bind (Sh.get p0 (Sh.w (p1 - 1000))) fun c9=>
    some (decide (0 < c9.count))
   else
    some false
  else
   some false
 ) fun t3=>
 some t3
def Iv (p0:(List Cell)) (p1:Int):Option (Bool):=
 Option.bind (
  Option.bind (At p1 (-999) 999) fun q5=>
  if q5=true then
   some true
  else
   Option.bind (FF p0 p1) fun q7=>
   some q7
 ) fun t3=>
 some t3
def Ck (p0:(List Cell)) (p1:Cell):Nat→Int→Option ((Bool) ⊕ (Unit))
 | 0,_=>none
 | n+1,i20=>
  if (decide (i20 < (Sh.len p1.fields)))=true then
   Option.bind (Sh.get p1.fields i20) fun c29=>
   Option.bind (Iv p0 c29) fun q30=>
   if (!q30)=true then
    some (Sum.inl false)
   else
    Ck p0 p1 n (Sh.w (i20+1))
  else
   some (Sum.inr ())
def Gd (N:Nat) (p0:(List Cell)) (p1:Cell):Option (Bool):=
 Option.bind (
  if (decide (3 < (Sh.len p1.fields)))=true then
   some true
  else
   Option.bind (At p1.count (-1) 999999) fun q36=>
   some (!q36)
 ) fun t4=>
 if t4=true then
  some false
 else
 if (decide (p1.count < 1))=true then
  Option.bind (
   if (decide (p1.tag=0))=true then
    Option.bind (Hy N p1.fields) fun q15=>
    if q15=true then
     if (decide (p1.count < 0))=true then
      some true
     else
      some (decide ((Sh.len p1.fields)=0))
    else
     some false
   else
    some false
  ) fun t12=>
  some t12
 else
  Sh.cont (Ck p0 p1 N 0) (id) fun ()=>
  Option.bind (At p1.tag 0 99) fun q23=>
  some q23
def D7 (i6:Int) (p0:(List Cell)):Nat→Int→(List Int)→Option ((List Int))
 | 0,_,_=>none
 | n+1,k16,l17=>
  Option.bind (Sh.get p0 i6) fun c22=>
  if (decide (k16 < (Sh.len c22.fields)))=true then
   Option.bind (
    Option.bind (Sh.get c22.fields k16) fun c28=>
    Option.bind (FF p0 c28) fun q29=>
    if q29=true then
     Option.bind (Sh.get l17 (Sh.w (c28 - 1000))) fun c32=>
     some (Sh.put l17 (Sh.w (c28 - 1000)) (Sh.w (c32+1)))
    else
     some l17
   ) fun l25=>
   D7 i6 p0 n (Sh.w (k16+1)) l25
  else
   some l17
def EC (N:Nat) (p0:(List Cell)):Nat→Int→(List Int)→Option ((List Int))
 | 0,_,_=>none
 | n+1,i6,l7=>
  if (decide (i6 < (Sh.len p0)))=true then
   Option.bind (D7 i6 p0 N 0 l7) fun l18=>
   EC N p0 n (Sh.w (i6+1)) l18
  else
   some l7
def HO (N:Nat) (p0:(List Cell)):Option ((List Int)):=
 Option.bind (Sh.mk 0 (Sh.len p0) 8) fun l3=>
 Option.bind (EC N p0 N 0 l3) fun l8=>
 some l8
def Ci (p0:(List Bool)) (p1:(List Int)):Nat→Int→Option ((Bool) ⊕ (Unit))
 | 0,_=>none
 | n+1,i4=>
  if (decide (i4 < (Sh.len p1)))=true then
   Option.bind (
    Option.bind (Sh.get p1 i4) fun c16=>
    Option.bind (Cx c16) fun q17=>
    if q17=true then
     Option.bind (Sh.get p0 (Sh.w (c16 - 1000))) fun c19=>
     some (!c19)
    else
     some false
   ) fun t12=>
   if t12=true then
    some (Sum.inl false)
   else
    Ci p0 p1 n (Sh.w (i4+1))
  else
   some (Sum.inr ())
def GS (N:Nat) (p0:(List Bool)) (p1:(List Int)):Option (Bool):=
 Sh.cont (Ci p0 p1 N 0) (id) fun ()=>
 some true
def Cj (N:Nat) (p0:(List Cell)):Nat→Int→Bool→Int→(List Bool)→Option (Int×Bool×(List Bool))
 | 0,_,_,_,_=>none
 | n+1,many18,more19,i20,l21=>
  if (decide (i20 < (Sh.len p0)))=true then
   Option.bind (
    Option.bind (
     Option.bind (Sh.get l21 i20) fun c41=>
     if (!c41)=true then
      Option.bind (Sh.get p0 i20) fun c43=>
      Option.bind (GS N l21 c43.fields) fun q44=>
      some q44
     else
      some false
    ) fun t35=>
    if t35=true then
     Option.bind (Sh.get l21 i20) fun c39=>
     some (Sh.w (many18+1),true,Sh.put l21 i20 true)
    else
     some (many18,more19,l21)
   ) fun (many30,more31,l32)=>
   Cj N p0 n many30 more31 (Sh.w (i20+1)) l32
  else
   some (many18,more19,l21)
def Co (N:Nat) (p0:(List Cell)):Nat→Int→Bool→(List Bool)→Option (Int)
 | 0,_,_,_=>none
 | n+1,many7,more8,l9=>
  if more8=true then
   Option.bind (Cj N p0 N many7 false 0 l9) fun (many22,more23,l24)=>
   Co N p0 n many22 more23 l24
  else
   some many7
def GV (N:Nat) (p0:(List Cell)):Option (Bool):=
 Option.bind (Sh.mk false (Sh.len p0) 1) fun l3=>
 Option.bind (Co N p0 N 0 true l3) fun many10=>
 some (decide (many10=(Sh.len p0)))
def Cp (p0:(List Cell)) (q13:(List Int)):Nat→Int→Option ((Bool) ⊕ (Unit))
 | 0,_=>none
 | n+1,i16=>
  if (decide (i16 < (Sh.len p0)))=true then
   Option.bind (
    Option.bind (Sh.get p0 i16) fun c29=>
    if (decide (0 < c29.count))=true then
     Option.bind (Sh.get q13 i16) fun c31=>
     some (decide (c29.count < c31))
    else
     some false
   ) fun t25=>
   if t25=true then
    some (Sum.inl false)
   else
    Cp p0 q13 n (Sh.w (i16+1))
  else
   some (Sum.inr ())
def Cm (N:Nat) (p0:(List Cell)):Nat→Int→Option ((Bool) ⊕ (Unit))
 | 0,_=>none
 | n+1,i10=>
  if (decide (i10 < (Sh.len p0)))=true then
   Option.bind (Sh.get p0 i10) fun c37=>
   Option.bind (Gd N p0 c37) fun q38=>
   if (!q38)=true then
    some (Sum.inl false)
   else
    Cm N p0 n (Sh.w (i10+1))
  else
   some (Sum.inr ())
def El (N:Nat) (p0:(List Cell)):Option (Bool):=
 Option.bind (
  if (decide (0 < (Sh.len p0)))=true then
   Option.bind (Sh.get p0 (Sh.w ((Sh.len p0) - 1))) fun c44=>
   some (decide (c44.count=0))
  else
   some false
 ) fun t4=>
 if t4=true then
  some false
 else
  Sh.cont (Cm N p0 N 0) (id) fun ()=>
  Option.bind (HO N p0) fun q13=>
  Sh.cont (Cp p0 q13 N 0) (id) fun ()=>
  Option.bind (GV N p0) fun q19=>
  some q19
def Lm (N:Nat) (p0:(List Cell)):Option (Bool):=
 Option.bind (El N p0) fun q3=>
 some q3
def FH (p0:(List Cell)) (p1:Int):Option (Int×Bool):=
 Option.bind (
  if (decide (1000≤p1))=true then
   if (decide ((Sh.w (p1 - 1000)) < (Sh.len p0)))=true then
    Option.bind (Sh.get p0 (Sh.w (p1 - 1000))) fun c8=>
    some (decide (0 < c8.count))
   else
    some false
  else
   some false
 ) fun t4=>
 some (Sh.w (p1 - 1000),t4)
def GK (p0:Int):Option (Bool):=
 Option.bind (
  if (decide ((-999)≤p0))=true then
   some (decide (p0≤999))
  else
   some false
 ) fun t3=>
 some t3
def Gc (p0:(List Cell)) (p1:Int):Option (Bool):=
 Option.bind (FH p0 p1) fun q3=>
 Option.bind (
  if q3.2=true then
   some true
  else
   Option.bind (GK p1) fun q8=>
   some q8
 ) fun t5=>
 some t5
def Cq (p0:(List Cell)) (p1:Cell):Nat→Int→Option ((Bool) ⊕ (Unit))
 | 0,_=>none
 | n+1,t16=>
  if (decide (t16 < (Sh.len p1.fields)))=true then
   Option.bind (Sh.get p1.fields t16) fun c24=>
   Option.bind (
    Option.bind (Gc p0 c24) fun q30=>
    if (!q30)=true then
     some true
    else
    if (decide (p1.count < 0))=true then
     some (!decide (c24=0))
    else
     some false
   ) fun t26=>
   if t26=true then
    some (Sum.inl false)
   else
    Cq p0 p1 n (Sh.w (t16+1))
  else
   some (Sum.inr ())
def Gq (N:Nat) (p0:(List Cell)) (p1:Cell):Option (Bool):=
 Option.bind (
  if (decide (p1.count < (-1)))=true then
   some true
  else
  if (decide (p1.tag < 0))=true then
   some true
  else
  if (decide (99 < p1.tag))=true then
   some true
  else
   some (decide (3 < (Sh.len p1.fields)))
 ) fun t4=>
 if t4=true then
  some false
 else
  Option.bind (
   if (decide (p1.count < 1))=true then
    if (!decide (p1.tag=0))=true then
     some true
    else
    if (decide (p1.count=0))=true then
     some (decide (0 < (Sh.len p1.fields)))
    else
     some false
   else
   if (decide (p1.count=0))=true then
    some (decide (0 < (Sh.len p1.fields)))
   else
    some false
  ) fun t10=>
  if t10=true then
   some false
  else
   Sh.cont (Cq p0 p1 N 0) (id) fun ()=>
   some true
def D2 (p0:(List Int)):Option ((List Int)):=
 Option.bind (Sh.app ([]:List Int) p0 8) fun l6=>
 some l6
def CH (c39:Cell) (p0:(List Cell)):Nat→Int→(List Int)→(List Int)→Option ((List Int)×(List Int))
 | 0,_,_,_=>none
 | n+1,t43,l44,l45=>
  if (decide (t43 < (Sh.len c39.fields)))=true then
   Option.bind (
    Option.bind (Sh.get c39.fields t43) fun c57=>
    Option.bind (FH p0 c57) fun q59=>
    if q59.2=true then
     Option.bind (Sh.get l44 q59.1) fun c63=>
     Option.bind (Sh.get (Sh.put l44 q59.1 (Sh.w (c63 - 1))) q59.1) fun c65=>
     if (decide (c65=0))=true then
      Option.bind (Sh.app l45 [q59.1] 8) fun l67=>
      some (Sh.put l44 q59.1 (Sh.w (c63 - 1)),l67)
     else
      some (Sh.put l44 q59.1 (Sh.w (c63 - 1)),l45)
    else
     some (l44,l45)
   ) fun (l53,l54)=>
   CH c39 p0 n (Sh.w (t43+1)) l53 l54
  else
   some (l44,l45)
def CD (N:Nat) (p0:(List Cell)):Nat→Int→(List Int)→(List Int)→Option (Int)
 | 0,_,_,_=>none
 | n+1,many27,l28,l29=>
  if (decide (0 < (Sh.len l29)))=true then
   Option.bind (Sh.get l29 (Sh.w ((Sh.len l29) - 1))) fun c38=>
   Option.bind (Sh.get p0 c38) fun c39=>
   Option.bind (Sh.hi l29 (Sh.w ((Sh.len l29) - 1))) fun l41=>
   Option.bind (CH c39 p0 N 0 l28 l41) fun (l46,l47)=>
   CD N p0 n (Sh.w (many27+1)) l46 l47
  else
   some many27
def B8 (l8:(List Int)) (p0:(List Cell)):Nat→Int→(List Int)→Option (((List Int)×Bool) ⊕ ((List Int)))
 | 0,_,_=>none
 | n+1,t22,l23=>
  if (decide (t22 < (Sh.len p0)))=true then
   Sh.cont (
    Option.bind (Sh.get p0 t22) fun c75=>
    Option.bind (
     if (decide (0 < c75.count))=true then
      Option.bind (Sh.get l8 t22) fun c87=>
      if (decide (c75.count < c87))=true then
       some true
      else
       some (decide (999999 < c75.count))
     else
      some false
    ) fun t78=>
    if t78=true then
     some (Sum.inl (Sum.inl ([],false)))
    else
     Option.bind (Sh.get l8 t22) fun c83=>
     if (decide (c83=0))=true then
      Option.bind (Sh.app l23 [t22] 8) fun l85=>
      some (Sum.inr l85)
     else
      some (Sum.inr l23)
   ) (id) fun l72=>
   B8 l8 p0 n (Sh.w (t22+1)) l72
  else
   some (Sum.inr l23)
def B9 (c96:Cell) (p0:(List Cell)):Nat→Int→(List Int)→Option ((List Int))
 | 0,_,_=>none
 | n+1,t105,l106=>
  if (decide (t105 < (Sh.len c96.fields)))=true then
   Option.bind (
    Option.bind (Sh.get c96.fields t105) fun c116=>
    Option.bind (FH p0 c116) fun q118=>
    if q118.2=true then
     Option.bind (Sh.get l106 q118.1) fun c121=>
     some (Sh.put l106 q118.1 (Sh.w (c121+1)))
    else
     some l106
   ) fun l113=>
   B9 c96 p0 n (Sh.w (t105+1)) l113
  else
   some l106
def CI (N:Nat) (p0:(List Cell)):Nat→Int→(List Int)→Option (((List Int)×Bool) ⊕ ((List Int)))
 | 0,_,_=>none
 | n+1,t6,l7=>
  if (decide (t6 < (Sh.len p0)))=true then
   Option.bind (Sh.get p0 t6) fun c96=>
   Option.bind (Gq N p0 c96) fun q99=>
   if (!q99)=true then
    some (Sum.inl ([],false))
   else
    Option.bind (B9 c96 p0 N 0 l7) fun l107=>
    CI N p0 n (Sh.w (t6+1)) l107
  else
   some (Sum.inr l7)
def Eg (N:Nat) (p0:(List Cell)):Option ((List Int)×Bool):=
 Option.bind (Sh.mk 0 (Sh.len p0) 8) fun l3=>
 Sh.cont (CI N p0 N 0 l3) (id) fun l8=>
 Option.bind (
  if (decide (0 < (Sh.len p0)))=true then
   Option.bind (Sh.get p0 (Sh.w ((Sh.len p0) - 1))) fun c90=>
   some (decide (c90.count=0))
  else
   some false
 ) fun t12=>
 if t12=true then
  some ([],false)
 else
  Option.bind (D2 l8) fun q17=>
  Sh.cont (B8 l8 p0 N 0 []) (id) fun l24=>
  Option.bind (CD N p0 N 0 q17 l24) fun many30=>
  some (l8,decide (many30=(Sh.len p0)))
def Ge (N:Nat) (p0:(List Cell)):Option (Bool):=
 Option.bind (Eg N p0) fun q3=>
 some q3.2
def D8 (p0:(List Int)) (p1:(List Int)):Nat→Int→Option ((Bool) ⊕ (Unit))
 | 0,_=>none
 | n+1,i10=>
  if (decide (i10 < (Sh.len p0)))=true then
   Option.bind (Sh.get p0 i10) fun c18=>
   Option.bind (Sh.get p1 i10) fun c19=>
   if (!decide (c18=c19))=true then
    some (Sum.inl false)
   else
    D8 p0 p1 n (Sh.w (i10+1))
  else
   some (Sum.inr ())
def B7 (N:Nat) (p0:(List Int)) (p1:(List Int)):Option (Bool):=
 if (!decide ((Sh.len p0)=(Sh.len p1)))=true then
  some false
 else
  Sh.cont (D8 p0 p1 N 0) (id) fun ()=>
  some true
def IS (N:Nat) (p0:Cell) (p1:Cell):Option (Bool):=
 if (!decide (p0.count=p1.count))=true then
  some false
 else
 if (!decide (p0.tag=p1.tag))=true then
  some false
 else
  Option.bind (B7 N p0.fields p1.fields) fun q16=>
  if (!q16)=true then
   some false
  else
   some true
def Db (N:Nat) (p0:(List Cell)) (p1:(List Cell)):Nat→Int→Option ((Bool) ⊕ (Unit))
 | 0,_=>none
 | n+1,i10=>
  if (decide (i10 < (Sh.len p0)))=true then
   Option.bind (Sh.get p0 i10) fun c18=>
   Option.bind (Sh.get p1 i10) fun c19=>
   Option.bind (IS N c18 c19) fun q20=>
   if (!q20)=true then
    some (Sum.inl false)
   else
    Db N p0 p1 n (Sh.w (i10+1))
  else
   some (Sum.inr ())
def Hi (N:Nat) (p0:(List Cell)) (p1:(List Cell)):Option (Bool):=
 if (!decide ((Sh.len p0)=(Sh.len p1)))=true then
  some false
 else
  Sh.cont (Db N p0 p1 N 0) (id) fun ()=>
  some true
end RC


namespace RC
def Ja (p0:By) (p1:Int):Option (Int):=
 Option.bind (DE p0.fields p1) fun q3=>
 if (decide (q3 < 0))=true then
  some (-1)
 else
  some q3
def Em (p0:(List By)):Nat→Int→Int→Option ((Int) ⊕ (Int))
 | 0,_,_=>none
 | n+1,left9,i10=>
  if (decide (i10 < (Sh.len p0)))=true then
   Option.bind (Sh.get p0 i10) fun c19=>
   Option.bind (Ja c19 left9) fun q20=>
   if (decide (q20 < 0))=true then
    some (Sum.inl (-1))
   else
    Em p0 n q20 (Sh.w (i10+1))
  else
   some (Sum.inr left9)
def IL (N:Nat) (p0:(List By)) (p1:Int):Option (Int):=
 if (decide ((Sh.w (p1 - (Sh.len p0))) < 0))=true then
  some (-1)
 else
  Sh.cont (Em p0 N (Sh.w (p1 - (Sh.len p0))) 0) (id) fun left11=>
  some left11
def IY (N:Nat) (p0:An) (p1:Int):Option (Int):=
 Option.bind (IL N p0.cons p1) fun q3=>
 if (decide (q3 < 0))=true then
  some (-1)
 else
  some q3
def EH (N:Nat) (p0:(List An)):Nat→Int→Int→Option ((Int) ⊕ (Int))
 | 0,_,_=>none
 | n+1,left9,i10=>
  if (decide (i10 < (Sh.len p0)))=true then
   Option.bind (Sh.get p0 i10) fun c19=>
   Option.bind (IY N c19 left9) fun q20=>
   if (decide (q20 < 0))=true then
    some (Sum.inl (-1))
   else
    EH N p0 n q20 (Sh.w (i10+1))
  else
   some (Sum.inr left9)
def Ht (N:Nat) (p0:(List An)) (p1:Int):Option (Int):=
 if (decide ((Sh.w (p1 - (Sh.len p0))) < 0))=true then
  some (-1)
 else
  Sh.cont (EH N p0 N (Sh.w (p1 - (Sh.len p0))) 0) (id) fun left11=>
  some left11
def Hl (p0:Ag) (p1:Int):Option (Int):=
 Option.bind (DE p0.args p1) fun q3=>
 if (decide (q3 < 0))=true then
  some (-1)
 else
  Option.bind (DE p0.jumps q3) fun q9=>
  if (decide (q9 < 0))=true then
   some (-1)
  else
   some q9
def Dm (p0:(List Ag)):Nat→Int→Int→Option ((Int) ⊕ (Int))
 | 0,_,_=>none
 | n+1,left9,i10=>
  if (decide (i10 < (Sh.len p0)))=true then
   Option.bind (Sh.get p0 i10) fun c19=>
   Option.bind (Hl c19 left9) fun q20=>
   if (decide (q20 < 0))=true then
    some (Sum.inl (-1))
   else
    Dm p0 n q20 (Sh.w (i10+1))
  else
   some (Sum.inr left9)
def G6 (N:Nat) (p0:(List Ag)) (p1:Int):Option (Int):=
 if (decide ((Sh.w (p1 - (Sh.len p0))) < 0))=true then
  some (-1)
 else
  Sh.cont (Dm p0 N (Sh.w (p1 - (Sh.len p0))) 0) (id) fun left11=>
  some left11
def IV (N:Nat) (p0:A0) (p1:Int):Option (Int):=
 Option.bind (DE p0.params p1) fun q3=>
 if (decide (q3 < 0))=true then
  some (-1)
 else
  Option.bind (DE p0.BH q3) fun q9=>
  if (decide (q9 < 0))=true then
   some (-1)
  else
   Option.bind (G6 N p0.code q9) fun q15=>
   if (decide (q15 < 0))=true then
    some (-1)
   else
    some q15
def ER (N:Nat) (p0:(List A0)):Nat→Int→Int→Option ((Int) ⊕ (Int))
 | 0,_,_=>none
 | n+1,left9,i10=>
  if (decide (i10 < (Sh.len p0)))=true then
   Option.bind (Sh.get p0 i10) fun c19=>
   Option.bind (IV N c19 left9) fun q20=>
   if (decide (q20 < 0))=true then
    some (Sum.inl (-1))
   else
    ER N p0 n q20 (Sh.w (i10+1))
  else
   some (Sum.inr left9)
def Hd (N:Nat) (p0:(List A0)) (p1:Int):Option (Int):=
 if (decide ((Sh.w (p1 - (Sh.len p0))) < 0))=true then
  some (-1)
 else
  Sh.cont (ER N p0 N (Sh.w (p1 - (Sh.len p0))) 0) (id) fun left11=>
  some left11
def Hs (N:Nat) (p0:Au) (p1:Int):Option (Int):=
 Option.bind (Ht N p0.decls p1) fun q3=>
 if (decide (q3 < 0))=true then
  some (-1)
 else
  Option.bind (Hd N p0.procs q3) fun q9=>
  if (decide (q9 < 0))=true then
   some (-1)
  else
   some q9
def JR (N:Nat) (p0:By):Option (By):=
 Option.bind (DG N p0.fields) fun q4=>
 some (By.mk q4)
def Ej (N:Nat) (p0:(List By)):Nat→Int→(List By)→Option ((List By))
 | 0,_,_=>none
 | n+1,i6,l7=>
  if (decide (i6 < (Sh.len p0)))=true then
   Option.bind (Sh.get p0 i6) fun c15=>
   Option.bind (JR N c15) fun q16=>
   Option.bind (Sh.get l7 i6) fun c17=>
   Ej N p0 n (Sh.w (i6+1)) (Sh.put l7 i6 q16)
  else
   some l7
def IW (N:Nat) (p0:(List By)):Option ((List By)):=
 Option.bind (Sh.mk (By.mk []) (Sh.len p0) 24) fun l3=>
 Option.bind (Ej N p0 N 0 l3) fun l8=>
 some l8
def Ic (N:Nat) (p0:An):Option (An):=
 Option.bind (IW N p0.cons) fun q6=>
 some (An.mk p0.from_ p0.to q6)
def EG (N:Nat) (p0:(List An)):Nat→Int→(List An)→Option ((List An))
 | 0,_,_=>none
 | n+1,i6,l7=>
  if (decide (i6 < (Sh.len p0)))=true then
   Option.bind (Sh.get p0 i6) fun c15=>
   Option.bind (Ic N c15) fun q16=>
   Option.bind (Sh.get l7 i6) fun c17=>
   EG N p0 n (Sh.w (i6+1)) (Sh.put l7 i6 q16)
  else
   some l7
def Hk (N:Nat) (p0:(List An)):Option ((List An)):=
 Option.bind (Sh.mk (An.mk 0 0 []) (Sh.len p0) 40) fun l3=>
 Option.bind (EG N p0 N 0 l3) fun l8=>
 some l8
def Hq (N:Nat) (p0:Ag):Option (Ag):=
 Option.bind (DG N p0.args) fun q8=>
 Option.bind (DG N p0.jumps) fun q10=>
 some (Ag.mk p0.op p0.dst p0.num p0.BY q8 q10)
def Dw (N:Nat) (p0:(List Ag)):Nat→Int→(List Ag)→Option ((List Ag))
 | 0,_,_=>none
 | n+1,i6,l7=>
  if (decide (i6 < (Sh.len p0)))=true then
   Option.bind (Sh.get p0 i6) fun c15=>
   Option.bind (Hq N c15) fun q16=>
   Option.bind (Sh.get l7 i6) fun c17=>
   Dw N p0 n (Sh.w (i6+1)) (Sh.put l7 i6 q16)
  else
   some l7
def G3 (N:Nat) (p0:(List Ag)):Option ((List Ag)):=
 Option.bind (Sh.mk (Ag.mk 0 0 0 0 [] []) (Sh.len p0) 80) fun l3=>
 Option.bind (Dw N p0 N 0 l3) fun l8=>
 some l8
def Ih (N:Nat) (p0:A0):Option (A0):=
 Option.bind (DG N p0.params) fun q4=>
 Option.bind (DG N p0.BH) fun q6=>
 Option.bind (G3 N p0.code) fun q10=>
 some (A0.mk q4 q6 p0.result p0.Ab q10)
def EP (N:Nat) (p0:(List A0)):Nat→Int→(List A0)→Option ((List A0))
 | 0,_,_=>none
 | n+1,i6,l7=>
  if (decide (i6 < (Sh.len p0)))=true then
   Option.bind (Sh.get p0 i6) fun c15=>
   Option.bind (Ih N c15) fun q16=>
   Option.bind (Sh.get l7 i6) fun c17=>
   EP N p0 n (Sh.w (i6+1)) (Sh.put l7 i6 q16)
  else
   some l7
def Hg (N:Nat) (p0:(List A0)):Option ((List A0)):=
 Option.bind (Sh.mk (A0.mk [] [] 0 0 []) (Sh.len p0) 88) fun l3=>
 Option.bind (EP N p0 N 0 l3) fun l8=>
 some l8
def FL (N:Nat) (p0:Au):Option (Au):=
 Option.bind (Hk N p0.decls) fun q4=>
 Option.bind (Hg N p0.procs) fun q6=>
 some (Au.mk q4 q6)
def CF (p0:Au):Nat→Int→(List IT)→Option ((List IT))
 | 0,_,_=>none
 | n+1,i5,l6=>
  if (decide (i5 < (Sh.len p0.procs)))=true then
   Option.bind (Sh.get p0.procs i5) fun c14=>
   Option.bind (Sh.app l6 ([(IT.mk c14.params c14.result (Ib.mk 0 0 []))]) 72) fun l15=>
   CF p0 n (Sh.w (i5+1)) l15
  else
   some l6
def Fe (N:Nat) (p0:Au):Option (IH):=
 Option.bind (CF p0 N 0 []) fun l7=>
 some (IH.mk p0.decls l7)
def Dr (p0:(List An)) (p1:(List Int)):Nat→Int→Option ((Bool) ⊕ (Unit))
 | 0,_=>none
 | n+1,i4=>
  if (decide (i4 < (Sh.len p1)))=true then
   Option.bind (Sh.get p1 i4) fun c12=>
   Option.bind (At c12 0 (Sh.len p0)) fun q13=>
   if (!q13)=true then
    some (Sum.inl false)
   else
    Dr p0 p1 n (Sh.w (i4+1))
  else
   some (Sum.inr ())
def Fz (N:Nat) (p0:(List An)) (p1:(List Int)):Option (Bool):=
 Sh.cont (Dr p0 p1 N 0) (id) fun ()=>
 some true
def DR (N:Nat) (c3:An) (p0:(List An)):Nat→Int→Option ((Bool) ⊕ (Unit))
 | 0,_=>none
 | n+1,i15=>
  if (decide (i15 < (Sh.len c3.cons)))=true then
   Option.bind (
    Option.bind (Sh.get c3.cons i15) fun c27=>
    if (decide (3 < (Sh.len c27.fields)))=true then
     some true
    else
     Option.bind (Fz N p0 c27.fields) fun q29=>
     some (!q29)
   ) fun t23=>
   if t23=true then
    some (Sum.inl false)
   else
    DR N c3 p0 n (Sh.w (i15+1))
  else
   some (Sum.inr ())
def DS (c3:An) (p0:(List An)) (p1:Int):Nat→Int→Option ((Bool) ⊕ (Unit))
 | 0,_=>none
 | n+1,i34=>
  if (decide (i34 < p1))=true then
   Option.bind (
    Option.bind (Sh.get p0 i34) fun c51=>
    if (decide ((Sh.len c51.cons)=0))=true then
     if (decide (c51.from_=c3.from_))=true then
      some (decide (c51.to=c3.to))
     else
      some false
    else
     some false
   ) fun t47=>
   if t47=true then
    some (Sum.inl false)
   else
    DS c3 p0 p1 n (Sh.w (i34+1))
  else
   some (Sum.inr ())
def Gr (N:Nat) (p0:(List An)) (p1:Int):Option (Bool):=
 Option.bind (Sh.get p0 p1) fun c3=>
 if (decide (0 < (Sh.len c3.cons)))=true then
  Option.bind (
   if (decide (3 < (Sh.len c3.cons)))=true then
    some true
   else
   if (!decide (c3.from_=0))=true then
    some true
   else
    some (!decide (c3.to=0))
  ) fun t9=>
  if t9=true then
   some false
  else
   Sh.cont (DR N c3 p0 N 0) (id) fun ()=>
   some true
 else
  Sh.cont (DS c3 p0 p1 N 0) (id) fun ()=>
  Option.bind (
   Option.bind (At c3.from_ 0 (Sh.len p0)) fun q39=>
   if q39=true then
    Option.bind (At c3.to 0 (Sh.len p0)) fun q41=>
    some q41
   else
    some false
  ) fun t37=>
  some t37
def C9 (N:Nat) (p0:(List An)):Nat→Int→Option ((Bool) ⊕ (Unit))
 | 0,_=>none
 | n+1,i8=>
  if (decide (i8 < (Sh.len p0)))=true then
   Option.bind (Gr N p0 i8) fun q16=>
   if (!q16)=true then
    some (Sum.inl false)
   else
    C9 N p0 n (Sh.w (i8+1))
  else
   some (Sum.inr ())
def F7 (N:Nat) (p0:(List An)):Option (Bool):=
 if (decide (4 < (Sh.len p0)))=true then
  some false
 else
  Sh.cont (C9 N p0 N 0) (id) fun ()=>
  some true
def Ct (N:Nat) (p0:IH):Nat→Int→Option ((Bool) ⊕ (Unit))
 | 0,_=>none
 | n+1,i10=>
  if (decide (i10 < (Sh.len p0.funcs)))=true then
   Option.bind (Sh.get p0.funcs i10) fun c22=>
   Option.bind (
    if (decide (3 < (Sh.len c22.params)))=true then
     some true
    else
     Option.bind (Fz N p0.decls c22.params) fun q29=>
     if (!q29)=true then
      some true
     else
      Option.bind (At c22.result 0 (Sh.len p0.decls)) fun q31=>
      some (!q31)
   ) fun t24=>
   if t24=true then
    some (Sum.inl false)
   else
    Ct N p0 n (Sh.w (i10+1))
  else
   some (Sum.inr ())
def GZ (N:Nat) (p0:IH):Option (Bool):=
 Option.bind (
  Option.bind (F7 N p0.decls) fun q32=>
  if (!q32)=true then
   some true
  else
   Option.bind (At (Sh.len p0.funcs) 1 4) fun q34=>
   some (!q34)
 ) fun t4=>
 if t4=true then
  some false
 else
  Sh.cont (Ct N p0 N 0) (id) fun ()=>
  Option.bind (
   Option.bind (Sh.get p0.funcs 0) fun c15=>
   if (decide ((Sh.len c15.params)=0))=true then
    some (decide (c15.result=0))
   else
    some false
  ) fun t13=>
  some t13
def DQ (p0:(List Int)) (p1:(List Int)):Nat→Int→Option ((Bool) ⊕ (Unit))
 | 0,_=>none
 | n+1,i4=>
  if (decide (i4 < (Sh.len p1)))=true then
   Option.bind (
    Option.bind (Sh.get p1 i4) fun c16=>
    Option.bind (At c16 0 (Sh.w ((Sh.len p0) - 1))) fun q17=>
    if (!q17)=true then
     some true
    else
     Option.bind (Sh.get p0 c16) fun c19=>
     if (decide (c19=0))=true then
      some true
     else
     if (decide (0 < i4))=true then
      Option.bind (Sh.get p1 (Sh.w (i4 - 1))) fun c22=>
      some (decide (c16≤c22))
     else
      some false
   ) fun t12=>
   if t12=true then
    some (Sum.inl false)
   else
    DQ p0 p1 n (Sh.w (i4+1))
  else
   some (Sum.inr ())
def GY (N:Nat) (p0:(List Int)) (p1:(List Int)):Option (Bool):=
 Sh.cont (DQ p0 p1 N 0) (id) fun ()=>
 some true
def JK (p0:Int):Option (Bool):=
 Option.bind (At p0 0 11) fun q3=>
 some q3
def I2 (p0:Int):Option (Bool):=
 Option.bind (
  Option.bind (JK p0) fun q5=>
  if q5=true then
   if (!decide (p0=7))=true then
    if (!decide (p0=8))=true then
     some true
    else
    if (decide (p0=18))=true then
     some true
    else
     some (decide (p0=19))
   else
   if (decide (p0=18))=true then
    some true
   else
    some (decide (p0=19))
  else
  if (decide (p0=18))=true then
   some true
  else
   some (decide (p0=19))
 ) fun t3=>
 some t3
def DF (p0:(List An)) (p1:Int):Nat→Int→Int→Option (Int)
 | 0,_,_=>none
 | n+1,n5,i6=>
  if (decide (i6 < p1))=true then
   Option.bind (Sh.get p0 i6) fun c14=>
   DF p0 p1 n (Sh.w (n5+(Sh.len c14.cons))) (Sh.w (i6+1))
  else
   some n5
def FQ (N:Nat) (p0:(List An)) (p1:Int):Option (Int):=
 Option.bind (DF p0 p1 N 0 0) fun n7=>
 some n7
def CZ (N:Nat) (p0:(List An)) (p1:Int):Nat→Int→Option ((Int) ⊕ (Unit))
 | 0,_=>none
 | n+1,i4=>
  if (decide (i4 < (Sh.len p0)))=true then
   Option.bind (FQ N p0 i4) fun q12=>
   Option.bind (Sh.get p0 i4) fun c14=>
   Option.bind (At p1 q12 (Sh.w ((Sh.w (q12+(Sh.len c14.cons))) - 1))) fun q15=>
   if q15=true then
    some (Sum.inl (Sh.w (i4+1)))
   else
    CZ N p0 p1 n (Sh.w (i4+1))
  else
   some (Sum.inr ())
def Ez (N:Nat) (p0:(List An)) (p1:Int):Option (Int):=
 Sh.cont (CZ N p0 p1 N 0) (id) fun ()=>
 some (-1)
def Fa (N:Nat) (p0:(List An)) (p1:Int):Option ((List Int)):=
 Option.bind (Ez N p0 p1) fun q3=>
 if (decide (q3 < 1))=true then
  some []
 else
  Option.bind (Sh.get p0 (Sh.w (q3 - 1))) fun c9=>
  Option.bind (FQ N p0 (Sh.w (q3 - 1))) fun q10=>
  Option.bind (Sh.get c9.cons (Sh.w (p1 - q10))) fun c11=>
  some c11.fields
def EY (p0:Au) (p1:Int) (p2:Int) (p3:Int):Option (Bool):=
 Option.bind (
  Option.bind (At p1 0 (Sh.w ((Sh.len p0.procs) - 1))) fun q5=>
  if q5=true then
   Option.bind (Sh.get p0.procs p1) fun c7=>
   some (decide ((Sh.len c7.params)=(Sh.w (p2+p3))))
  else
   some false
 ) fun t3=>
 some t3
def EA (N:Nat) (p0:(List An)) (p1:Int):Nat→Int→(List Int)→Option ((List Int))
 | 0,_,_=>none
 | n+1,i12,l13=>
  Option.bind (Sh.get p0 (Sh.w (p1 - 1))) fun c19=>
  if (decide (i12 < (Sh.len c19.cons)))=true then
   Option.bind (FQ N p0 (Sh.w (p1 - 1))) fun q22=>
   Option.bind (Sh.app l13 [Sh.w (q22+i12)] 8) fun l23=>
   EA N p0 p1 n (Sh.w (i12+1)) l23
  else
   some l13
def HS (N:Nat) (p0:(List An)) (p1:Int):Option ((List Int)):=
 Option.bind (At p1 1 (Sh.len p0)) fun q5=>
 if (!q5)=true then
  some []
 else
  Option.bind (EA N p0 p1 N 0 []) fun l14=>
  some l14
def C3 (p0:(List Int)) (p1:Int) (p2:Int) (p3:Int):Nat→Int→Option ((Bool) ⊕ (Unit))
 | 0,_=>none
 | n+1,i10=>
  if (decide (i10 < p1))=true then
   Option.bind (Sh.get p0 i10) fun c18=>
   Option.bind (At c18 (Sh.w (p2+1)) (Sh.w (p3 - 1))) fun q19=>
   if (!q19)=true then
    some (Sum.inl false)
   else
    C3 p0 p1 p2 p3 n (Sh.w (i10+1))
  else
   some (Sum.inr ())
def FO (N:Nat) (p0:(List Int)) (p1:Int) (p2:Int) (p3:Int):Option (Bool):=
 if (!decide ((Sh.len p0)=p1))=true then
  some false
 else
  Sh.cont (C3 p0 p1 p2 p3 N 0) (id) fun ()=>
  some true
def CQ (c3:Ag) (p1:A0):Nat→Int→Option ((Bool) ⊕ (Unit))
 | 0,_=>none
 | n+1,k7=>
  if (decide (k7 < (Sh.len c3.args)))=true then
   Option.bind (Sh.get c3.args k7) fun c143=>
   Option.bind (At c143 0 (Sh.w (p1.Ab - 1))) fun q144=>
   if (!q144)=true then
    some (Sum.inl false)
   else
    CQ c3 p1 n (Sh.w (k7+1))
  else
   some (Sum.inr ())
def Eu (N:Nat) (p0:Au) (p1:A0) (p2:Int):Option (Bool):=
 Option.bind (Sh.get p1.code p2) fun c3=>
 Sh.cont (CQ c3 p1 N 0) (id) fun ()=>
 Option.bind (
  Option.bind (At c3.dst 0 (Sh.w (p1.Ab - 1))) fun q125=>
  if (!q125)=true then
   some true
  else
  if (!decide (c3.dst=0))=true then
   Option.bind (I2 c3.op) fun q128=>
   if (!q128)=true then
    some true
   else
   if (!decide (c3.BY=0))=true then
    if (!decide (c3.op=6))=true then
     some true
    else
    if (!decide (c3.op=21))=true then
     some (decide (0 < (Sh.len c3.jumps)))
    else
     some false
   else
   if (!decide (c3.op=21))=true then
    some (decide (0 < (Sh.len c3.jumps)))
   else
    some false
  else
  if (!decide (c3.BY=0))=true then
   if (!decide (c3.op=6))=true then
    some true
   else
   if (!decide (c3.op=21))=true then
    some (decide (0 < (Sh.len c3.jumps)))
   else
    some false
  else
  if (!decide (c3.op=21))=true then
   some (decide (0 < (Sh.len c3.jumps)))
  else
   some false
 ) fun t11=>
 if t11=true then
  some false
 else
 if (decide (c3.op=0))=true then
  Option.bind (
   if (decide ((Sh.len c3.args)=0))=true then
    Option.bind (At c3.num (-999) 999) fun q23=>
    some q23
   else
    some false
  ) fun t20=>
  some t20
 else
  Option.bind (
   if (decide (c3.op=1))=true then
    some true
   else
   if (decide (c3.op=2))=true then
    some true
   else
   if (decide (c3.op=3))=true then
    some true
   else
   if (decide (c3.op=4))=true then
    some true
   else
    some (decide (c3.op=11))
  ) fun t25=>
  if t25=true then
   Option.bind (
    if (decide ((Sh.len c3.args)=2))=true then
     some (decide (c3.num=0))
    else
     some false
   ) fun t29=>
   some t29
  else
   Option.bind (
    if (decide (c3.op=5))=true then
     some true
    else
    if (decide (c3.op=14))=true then
     some true
    else
    if (decide (c3.op=15))=true then
     some true
    else
    if (decide (c3.op=18))=true then
     some true
    else
     some (decide (c3.op=23))
   ) fun t33=>
   if t33=true then
    Option.bind (
     if (decide ((Sh.len c3.args)=1))=true then
      some (decide (c3.num=0))
     else
      some false
    ) fun t37=>
    some t37
   else
   if (decide (c3.op=6))=true then
    Option.bind (
     Option.bind (Ez N p0.decls c3.num) fun q45=>
     if (decide (0 < q45))=true then
      Option.bind (Fa N p0.decls c3.num) fun q47=>
      if (decide ((Sh.len c3.args)=(Sh.len q47)))=true then
       Option.bind (At c3.BY 0 p1.Ab) fun q49=>
       some q49
      else
       some false
     else
      some false
    ) fun t43=>
    some t43
   else
    Option.bind (
     if (decide (c3.op=9))=true then
      some true
     else
      some (decide (c3.op=24))
    ) fun t51=>
    if t51=true then
     Option.bind (EY p0 c3.num (Sh.len c3.args) 0) fun q55=>
     some q55
    else
    if (decide (c3.op=10))=true then
     Option.bind (
      Option.bind (EY p0 c3.num (Sh.len c3.args) 1) fun q61=>
      if q61=true then
       Option.bind (Sh.get p0.procs c3.num) fun c63=>
       some (decide ((Sh.len c63.BH)=0))
      else
       some false
     ) fun t59=>
     some t59
    else
     Option.bind (
      if (decide (c3.op=16))=true then
       some true
      else
       some (decide (c3.op=17))
     ) fun t65=>
     if t65=true then
      Option.bind (
       Option.bind (At (Sh.len c3.args) 1 4) fun q71=>
       if q71=true then
        some (decide (c3.num=0))
       else
        some false
      ) fun t69=>
      some t69
     else
     if (decide (c3.op=19))=true then
      Option.bind (
       if (decide ((Sh.len c3.args)=1))=true then
        Option.bind (At c3.num 0 2) fun q79=>
        some q79
       else
        some false
      ) fun t76=>
      some t76
     else
     if (decide (c3.op=20))=true then
      Option.bind (
       if (decide ((Sh.len c3.args)=1))=true then
        Option.bind (At c3.num (Sh.w (p2+1)) (Sh.w ((Sh.len p1.code) - 1))) fun q86=>
        some q86
       else
        some false
      ) fun t83=>
      some t83
     else
     if (decide (c3.op=22))=true then
      Option.bind (
       if (decide ((Sh.len c3.args)=0))=true then
        Option.bind (At c3.num (Sh.w (p2+1)) (Sh.w ((Sh.len p1.code) - 1))) fun q93=>
        some q93
       else
        some false
      ) fun t90=>
      some t90
     else
     if (decide (c3.op=21))=true then
      Option.bind (HS N p0.decls c3.num) fun q97=>
      Option.bind (
       if (decide ((Sh.len c3.args)=1))=true then
        if (decide (0 < (Sh.len q97)))=true then
         Option.bind (FO N c3.jumps (Sh.len q97) p2 (Sh.len p1.code)) fun q103=>
         some q103
        else
         some false
       else
        some false
      ) fun t99=>
      some t99
     else
      some false
def DT (N:Nat) (p0:Au) (p1:A0):Nat→Int→Option ((Bool) ⊕ (Unit))
 | 0,_=>none
 | n+1,at11=>
  if (decide (at11 < (Sh.len p1.code)))=true then
   Option.bind (Eu N p0 p1 at11) fun q23=>
   if (!q23)=true then
    some (Sum.inl false)
   else
    DT N p0 p1 n (Sh.w (at11+1))
  else
   some (Sum.inr ())
def GW (N:Nat) (p0:Au) (p1:A0):Option (Bool):=
 Option.bind (
  Option.bind (GY N p1.params p1.BH) fun q28=>
  if (!q28)=true then
   some true
  else
   Option.bind (At p1.Ab (if (Sh.len p1.params) > 1 then (Sh.len p1.params) else 1) 2000) fun q30=>
   if (!q30)=true then
    some true
   else
    Option.bind (At (Sh.len p1.code) 1 2000) fun q32=>
    some (!q32)
 ) fun t5=>
 if t5=true then
  some false
 else
  Sh.cont (DT N p0 p1 N 0) (id) fun ()=>
  Option.bind (
   Option.bind (Sh.get p1.code (Sh.w ((Sh.len p1.code) - 1))) fun c16=>
   if (decide (c16.op=23))=true then
    some true
   else
    some (decide (c16.op=24))
  ) fun t14=>
  some t14
def CP (N:Nat) (p0:Au):Nat→Int→Option ((Bool) ⊕ (Unit))
 | 0,_=>none
 | n+1,i10=>
  if (decide (i10 < (Sh.len p0.procs)))=true then
   Option.bind (Sh.get p0.procs i10) fun c18=>
   Option.bind (GW N p0 c18) fun q19=>
   if (!q19)=true then
    some (Sum.inl false)
   else
    CP N p0 n (Sh.w (i10+1))
  else
   some (Sum.inr ())
def Dh (N:Nat) (p0:Au):Option (Bool):=
 Option.bind (
  if (decide (4 < (Sh.len p0.procs)))=true then
   some true
  else
   Option.bind (Fe N p0) fun q25=>
   Option.bind (GZ N q25) fun q26=>
   some (!q26)
 ) fun t4=>
 if t4=true then
  some false
 else
  Sh.cont (CP N p0 N 0) (id) fun ()=>
  some true
def I8 (N:Nat) (p0:Au):Option (Bool):=
 Option.bind (Dh N p0) fun q3=>
 some q3
def Fl (p0:(List An)) (p1:Int):Option (Bool):=
 Option.bind (
  if (decide (0≤p1))=true then
   some (decide (p1≤(Sh.len p0)))
  else
   some false
 ) fun t3=>
 some t3
def Dx (p0:(List An)) (p1:(List Int)):Nat→Int→Option ((Bool) ⊕ (Unit))
 | 0,_=>none
 | n+1,t4=>
  if (decide (t4 < (Sh.len p1)))=true then
   Option.bind (Sh.get p1 t4) fun c12=>
   Option.bind (Fl p0 c12) fun q14=>
   if (!q14)=true then
    some (Sum.inl false)
   else
    Dx p0 p1 n (Sh.w (t4+1))
  else
   some (Sum.inr ())
def GD (N:Nat) (p0:(List An)) (p1:(List Int)):Option (Bool):=
 Sh.cont (Dx p0 p1 N 0) (id) fun ()=>
 some true
def CU (c16:An) (l28:(List An)):Nat→Int→Option ((Bool) ⊕ (Unit))
 | 0,_=>none
 | n+1,t29=>
  if (decide (t29 < (Sh.len l28)))=true then
   Option.bind (Sh.get l28 t29) fun c36=>
   Option.bind (
    if (decide ((Sh.len c16.cons)=0))=true then
     if (decide ((Sh.len c36.cons)=0))=true then
      if (decide (c36.from_=c16.from_))=true then
       some (decide (c36.to=c16.to))
      else
       some false
     else
      some false
    else
     some false
   ) fun t38=>
   if t38=true then
    some (Sum.inl false)
   else
    CU c16 l28 n (Sh.w (t29+1))
  else
   some (Sum.inr ())
def CO (N:Nat) (c16:An) (p0:(List An)):Nat→Int→Option ((Bool) ⊕ (Unit))
 | 0,_=>none
 | n+1,t25=>
  if (decide (t25 < (Sh.len c16.cons)))=true then
   Option.bind (Sh.get c16.cons t25) fun c50=>
   Option.bind (
    if (decide (3 < (Sh.len c50.fields)))=true then
     some true
    else
     Option.bind (GD N p0 c50.fields) fun q57=>
     some (!q57)
   ) fun t52=>
   if t52=true then
    some (Sum.inl false)
   else
    CO N c16 p0 n (Sh.w (t25+1))
  else
   some (Sum.inr ())
def C8 (N:Nat) (p0:(List An)):Nat→Int→Option ((Bool) ⊕ (Unit))
 | 0,_=>none
 | n+1,t8=>
  if (decide (t8 < (Sh.len p0)))=true then
   Option.bind (Sh.get p0 t8) fun c16=>
   Option.bind (
    Option.bind (Fl p0 c16.from_) fun q58=>
    if (!q58)=true then
     some true
    else
     Option.bind (Fl p0 c16.to) fun q60=>
     if (!q60)=true then
      some true
     else
     if (decide (3 < (Sh.len c16.cons)))=true then
      some true
     else
     if (decide (0 < (Sh.len c16.cons)))=true then
      if (!decide (c16.from_=0))=true then
       some true
      else
       some (!decide (c16.to=0))
     else
      some false
   ) fun t19=>
   if t19=true then
    some (Sum.inl false)
   else
    Sh.cont (CO N c16 p0 N 0) (fun x=>Sum.inl x) fun ()=>
    Option.bind (Sh.sl p0 0 t8) fun l28=>
    Sh.cont (CU c16 l28 N 0) (fun x=>Sum.inl x) fun ()=>
    C8 N p0 n (Sh.w (t8+1))
  else
   some (Sum.inr ())
def GG (N:Nat) (p0:(List An)):Option (Bool):=
 if (decide (4 < (Sh.len p0)))=true then
  some false
 else
  Sh.cont (C8 N p0 N 0) (id) fun ()=>
  some true
def Cl (c18:Bu):Nat→Int→Option ((Bool) ⊕ (Unit))
 | 0,_=>none
 | n+1,t26=>
  if (decide (t26 < (Sh.len c18.BH)))=true then
   Option.bind (Sh.get c18.BH t26) fun c33=>
   Option.bind (
    if (decide (c33 < 0))=true then
     some true
    else
    if (decide ((Sh.len c18.params)≤c33))=true then
     some true
    else
     Option.bind (Sh.get c18.params c33) fun c41=>
     if (decide (c41=0))=true then
      some true
     else
     if (decide (0 < t26))=true then
      Option.bind (Sh.get c18.BH (Sh.w (t26 - 1))) fun c44=>
      some (decide (c33≤c44))
     else
      some false
   ) fun t35=>
   if t35=true then
    some (Sum.inl false)
   else
    Cl c18 n (Sh.w (t26+1))
  else
   some (Sum.inr ())
def Cr (N:Nat) (p0:(List An)) (p1:(List Bu)):Nat→Int→Option ((Bool) ⊕ (Unit))
 | 0,_=>none
 | n+1,t10=>
  if (decide (t10 < (Sh.len p1)))=true then
   Option.bind (Sh.get p1 t10) fun c18=>
   Option.bind (
    if (decide (3 < (Sh.len c18.params)))=true then
     some true
    else
     Option.bind (GD N p0 c18.params) fun q46=>
     if (!q46)=true then
      some true
     else
      Option.bind (Fl p0 c18.result) fun q48=>
      some (!q48)
   ) fun t21=>
   if t21=true then
    some (Sum.inl false)
   else
    Sh.cont (Cl c18 N 0) (fun x=>Sum.inl x) fun ()=>
    Cr N p0 p1 n (Sh.w (t10+1))
  else
   some (Sum.inr ())
def Gp (N:Nat) (p0:(List An)) (p1:(List Bu)):Option (Bool):=
 Option.bind (
  Option.bind (GG N p0) fun q49=>
  if (!q49)=true then
   some true
  else
  if (decide ((Sh.len p1) < 1))=true then
   some true
  else
  if (decide (4 < (Sh.len p1)))=true then
   some true
  else
   Option.bind (Sh.get p1 0) fun c53=>
   if (decide (0 < (Sh.len c53.params)))=true then
    some true
   else
    some (!decide (c53.result=0))
 ) fun t4=>
 if t4=true then
  some false
 else
  Sh.cont (Cr N p0 p1 N 0) (id) fun ()=>
  some true
def CJ (p0:Au):Nat→Int→(List Bu)→Option ((List Bu))
 | 0,_,_=>none
 | n+1,t9,l10=>
  if (decide (t9 < (Sh.len p0.procs)))=true then
   Option.bind (Sh.get p0.procs t9) fun c20=>
   Option.bind (Sh.app l10 [(Bu.mk c20.params c20.BH c20.result)] 56) fun l21=>
   CJ p0 n (Sh.w (t9+1)) l21
  else
   some l10
def H5 (N:Nat) (p0:Au):Option (CR×Bool):=
 if (decide (4 < (Sh.len p0.procs)))=true then
  some ((CR.mk [] []),false)
 else
  Option.bind (CJ p0 N 0 []) fun l11=>
  Option.bind (Gp N p0.decls l11) fun q14=>
  some ((CR.mk p0.decls l11),q14)
def Et (p0:Int):Option (Bool):=
 Option.bind (
  if (decide (0≤p0))=true then
   if (decide (p0≤11))=true then
    some true
   else
   if (decide (p0=18))=true then
    some true
   else
    some (decide (p0=19))
  else
  if (decide (p0=18))=true then
   some true
  else
   some (decide (p0=19))
 ) fun t3=>
 some t3
def B0 (s0_0:Int) (s1_0:(List Int)) (s1_1:(List Int)) (s1_2:Int) (s1_3:Int) (s1_4:(List Ag)) (p0:Int):Option (Bool):=
 Option.bind (
  if (decide (s0_0 < p0))=true then
   some (decide (p0 < (Sh.len s1_4)))
  else
   some false
 ) fun t3=>
 some t3
def Ds (s1_0:Int) (s2_0:(List Int)) (s2_1:(List Int)) (s2_2:Int) (s2_3:Int) (s2_4:(List Ag)) (p0:Int):Option (Bool):=
 Option.bind (B0 s1_0 s2_0 s2_1 s2_2 s2_3 s2_4 p0) fun q3=>
 some (!q3)
def BZ (s1_0:Int) (s2_0:(List Int)) (s2_1:(List Int)) (s2_2:Int) (s2_3:Int) (s2_4:(List Ag)) (p0:(List Int)):Nat→Int→Option ((Int) ⊕ (Unit))
 | 0,_=>none
 | n+1,t4=>
  if (decide (t4 < (Sh.len p0)))=true then
   Option.bind (Sh.get p0 t4) fun c13=>
   Option.bind (Ds s1_0 s2_0 s2_1 s2_2 s2_3 s2_4 c13) fun q14=>
   if q14=true then
    some (Sum.inl t4)
   else
    BZ s1_0 s2_0 s2_1 s2_2 s2_3 s2_4 p0 n (Sh.w (t4+1))
  else
   some (Sum.inr ())
def Ep (N:Nat) (s1_0:Int) (s2_0:(List Int)) (s2_1:(List Int)) (s2_2:Int) (s2_3:Int) (s2_4:(List Ag)) (p0:(List Int)):Option (Int):=
 Sh.cont (BZ s1_0 s2_0 s2_1 s2_2 s2_3 s2_4 p0 N 0) (id) fun ()=>
 some (-1)
def B6 (N:Nat) (s1_0:Int) (s2_0:(List Int)) (s2_1:(List Int)) (s2_2:Int) (s2_3:Int) (s2_4:(List Ag)) (p0:(List Int)):Option (Bool):=
 Option.bind (Ep N s1_0 s2_0 s2_1 s2_2 s2_3 s2_4 p0) fun q3=>
 some (decide (0≤q3))
def DC (p0:(List An)):Nat→Int→Int→Option (Int)
 | 0,_,_=>none
 | n+1,n5,t6=>
  if (decide (t6 < (Sh.len p0)))=true then
   Option.bind (Sh.get p0 t6) fun c15=>
   DC p0 n (Sh.w (n5+(Sh.len c15.cons))) (Sh.w (t6+1))
  else
   some n5
def GH (N:Nat) (p0:(List An)):Option (Int):=
 Option.bind (DC p0 N 0 0) fun n7=>
 some n7
def D6 (c14:An) (q10:Int):Nat→Int→(List Int)→Option ((List Int))
 | 0,_,_=>none
 | n+1,t15,l16=>
  if (decide (t15 < (Sh.len c14.cons)))=true then
   Option.bind (Sh.app l16 [Sh.w (q10+t15)] 8) fun l25=>
   D6 c14 q10 n (Sh.w (t15+1)) l25
  else
   some l16
def IZ (N:Nat) (p0:(List An)) (p1:Int):Option ((List Int)):=
 Option.bind (
  if (decide (p1 < 1))=true then
   some true
  else
   some (decide ((Sh.len p0) < p1))
 ) fun t4=>
 if t4=true then
  some []
 else
  Option.bind (Sh.sl p0 0 (Sh.w (p1 - 1))) fun l9=>
  Option.bind (GH N l9) fun q10=>
  Option.bind (Sh.get p0 (Sh.w (p1 - 1))) fun c14=>
  Option.bind (D6 c14 q10 N 0 []) fun l17=>
  some l17
def Aq (N:Nat) (s0_0:Int) (s1_0:(List Int)) (s1_1:(List Int)) (s1_2:Int) (s1_3:Int) (s1_4:(List Ag)) (p0:CR) (p1:Ag):Option (Bool):=
 if (decide (p1.op=0))=true then
  Option.bind (
   if (decide ((-999)≤p1.num))=true then
    some (decide (p1.num≤999))
   else
    some false
  ) fun t7=>
  some t7
 else
 if (decide (p1.op=6))=true then
  Option.bind (
   if (decide (0≤p1.num))=true then
    Option.bind (GH N p0.decls) fun q16=>
    some (decide (p1.num < q16))
   else
    some false
  ) fun t13=>
  some t13
 else
  Option.bind (
   if (decide (p1.op=9))=true then
    some true
   else
    some (decide (p1.op=24))
  ) fun t18=>
  if t18=true then
   Option.bind (
    if (decide (0≤p1.num))=true then
     some (decide (p1.num < (Sh.len p0.funcs)))
    else
     some false
   ) fun t22=>
   some t22
  else
  if (decide (p1.op=10))=true then
   Option.bind (
    if (decide (0≤p1.num))=true then
     if (decide (p1.num < (Sh.len p0.funcs)))=true then
      Option.bind (Sh.get p0.funcs p1.num) fun c32=>
      some (decide ((Sh.len c32.BH)=0))
     else
      some false
    else
     some false
   ) fun t28=>
   some t28
  else
  if (decide (p1.op=19))=true then
   Option.bind (
    if (decide (0≤p1.num))=true then
     some (decide (p1.num < 3))
    else
     some false
   ) fun t36=>
   some t36
  else
   Option.bind (
    if (decide (p1.op=20))=true then
     some true
    else
     some (decide (p1.op=22))
   ) fun t40=>
   if t40=true then
    Option.bind (B0 s0_0 s1_0 s1_1 s1_2 s1_3 s1_4 p1.num) fun q44=>
    some q44
   else
   if (decide (p1.op=21))=true then
    Option.bind (IZ N p0.decls p1.num) fun q48=>
    Option.bind (
     if (decide (0 < (Sh.len q48)))=true then
      some (decide ((Sh.len p1.jumps)=(Sh.len q48)))
     else
      some false
    ) fun t50=>
    some t50
   else
    some (decide (p1.num=0))
def FT (p0:(List An)):Nat→Int→Int→Option ((Int×By) ⊕ (Unit))
 | 0,_,_=>none
 | n+1,c4,t5=>
  if (decide (t5 < (Sh.len p0)))=true then
   Option.bind (Sh.get p0 t5) fun c13=>
   Option.bind (
    if (decide (0≤c4))=true then
     some (decide (c4 < (Sh.len c13.cons)))
    else
     some false
   ) fun t16=>
   if t16=true then
    Option.bind (Sh.get c13.cons c4) fun c20=>
    some (Sum.inl (Sh.w (t5+1),c20))
   else
    FT p0 n (Sh.w (c4 - (Sh.len c13.cons))) (Sh.w (t5+1))
  else
   some (Sum.inr ())
def JT (N:Nat) (p0:(List An)) (p1:Int):Option (Int×By):=
 Sh.cont (FT p0 N p1 0) (id) fun ()=>
 some (-1,(By.mk []))
def HB (N:Nat) (p0:(List An)) (p1:Int):Option ((List Int)):=
 Option.bind (JT N p0 p1) fun q3=>
 some q3.2.fields
def Ay (N:Nat) (p0:CR) (p1:Ag):Option (Int×Int):=
 Sh.cont (
  Option.bind (
   if (decide (p1.op=0))=true then
    some true
   else
    some (decide (p1.op=22))
  ) fun t9=>
  if t9=true then
   some (Sum.inr 0)
  else
   Option.bind (
    if (decide (p1.op=1))=true then
     some true
    else
    if (decide (p1.op=2))=true then
     some true
    else
    if (decide (p1.op=3))=true then
     some true
    else
    if (decide (p1.op=4))=true then
     some true
    else
     some (decide (p1.op=11))
   ) fun t13=>
   if t13=true then
    some (Sum.inr 2)
   else
   if (decide (p1.op=6))=true then
    Option.bind (HB N p0.decls p1.num) fun q18=>
    some (Sum.inr (Sh.len q18))
   else
    Option.bind (
     if (decide (p1.op=9))=true then
      some true
     else
      some (decide (p1.op=24))
    ) fun t20=>
    if t20=true then
     Option.bind (Sh.get p0.funcs p1.num) fun c23=>
     some (Sum.inr (Sh.len c23.params))
    else
    if (decide (p1.op=10))=true then
     Option.bind (Sh.get p0.funcs p1.num) fun c26=>
     some (Sum.inr (Sh.w ((Sh.len c26.params) - 1)))
    else
     Option.bind (
      if (decide (p1.op=16))=true then
       some true
      else
       some (decide (p1.op=17))
     ) fun t28=>
     if t28=true then
      some (Sum.inl (1,4))
     else
      some (Sum.inr 1)
 ) (id) fun n4=>
 some (n4,n4)
def BU (p1:A0) (p3:Ag):Nat→Int→Option ((Bool) ⊕ (Unit))
 | 0,_=>none
 | n+1,t16=>
  if (decide (t16 < (Sh.len p3.args)))=true then
   Option.bind (Sh.get p3.args t16) fun c47=>
   Option.bind (
    if (decide (c47 < 0))=true then
     some true
    else
     some (decide (p1.Ab≤c47))
   ) fun t49=>
   if t49=true then
    some (Sum.inl false)
   else
    BU p1 p3 n (Sh.w (t16+1))
  else
   some (Sum.inr ())
def CM (N:Nat) (p0:CR) (p1:A0) (p2:Int) (p3:Ag):Option (Bool):=
 Option.bind (
  if (decide (p3.op < 0))=true then
   some true
  else
  if (decide (24 < p3.op))=true then
   some true
  else
  if (decide (p3.op=7))=true then
   some true
  else
  if (decide (p3.op=8))=true then
   some true
  else
  if (decide (p3.op=12))=true then
   some true
  else
   some (decide (p3.op=13))
 ) fun t4=>
 if t4=true then
  some false
 else
  Option.bind (
   if (decide (p3.dst < 0))=true then
    some true
   else
   if (decide (p1.Ab≤p3.dst))=true then
    some true
   else
   if (!decide (p3.dst=0))=true then
    Option.bind (Et p3.op) fun q57=>
    if (!q57)=true then
     some true
    else
    if (decide (p3.BY < 0))=true then
     some true
    else
    if (decide (p1.Ab < p3.BY))=true then
     some true
    else
    if (!decide (p3.BY=0))=true then
     some (!decide (p3.op=6))
    else
     some false
   else
   if (decide (p3.BY < 0))=true then
    some true
   else
   if (decide (p1.Ab < p3.BY))=true then
    some true
   else
   if (!decide (p3.BY=0))=true then
    some (!decide (p3.op=6))
   else
    some false
  ) fun t10=>
  if t10=true then
   some false
  else
   Sh.cont (BU p1 p3 N 0) (id) fun ()=>
   Option.bind (
    if (decide (0 < (Sh.len p3.jumps)))=true then
     if (!decide (p3.op=21))=true then
      some true
     else
      Option.bind (B6 N p2 p1.params p1.BH p1.result p1.Ab p1.code p3.jumps) fun q40=>
      some q40
    else
     Option.bind (B6 N p2 p1.params p1.BH p1.result p1.Ab p1.code p3.jumps) fun q41=>
     some q41
   ) fun t21=>
   if t21=true then
    some false
   else
    Option.bind (Aq N p2 p1.params p1.BH p1.result p1.Ab p1.code p0 p3) fun q27=>
    if (!q27)=true then
     some false
    else
     Option.bind (Ay N p0 p3) fun q33=>
     Option.bind (
      if (decide (q33.1≤(Sh.len p3.args)))=true then
       some (decide ((Sh.len p3.args)≤q33.2))
      else
       some false
     ) fun t35=>
     some t35
def C4 (N:Nat) (c20:A0) (q3:CR×Bool):Nat→Int→Option ((Bool) ⊕ (Unit))
 | 0,_=>none
 | n+1,t36=>
  if (decide (t36 < (Sh.len c20.code)))=true then
   Option.bind (Sh.get c20.code t36) fun c43=>
   Option.bind (CM N q3.1 c20 t36 c43) fun q45=>
   if (!q45)=true then
    some (Sum.inl false)
   else
    C4 N c20 q3 n (Sh.w (t36+1))
  else
   some (Sum.inr ())
def CT (N:Nat) (p0:Au) (q3:CR×Bool):Nat→Int→Option ((Bool) ⊕ (Unit))
 | 0,_=>none
 | n+1,t12=>
  if (decide (t12 < (Sh.len p0.procs)))=true then
   Option.bind (Sh.get p0.procs t12) fun c20=>
   Option.bind (
    if (decide (c20.Ab < (if (Sh.len c20.params) > 1 then (Sh.len c20.params) else 1)))=true then
     some true
    else
    if (decide (2000 < c20.Ab))=true then
     some true
    else
    if (decide ((Sh.len c20.code) < 1))=true then
     some true
    else
     some (decide (2000 < (Sh.len c20.code)))
   ) fun t23=>
   if t23=true then
    some (Sum.inl false)
   else
    Option.bind (Sh.get c20.code (Sh.w ((Sh.len c20.code) - 1))) fun c29=>
    Option.bind (
     if (!decide (c29.op=23))=true then
      some (!decide (c29.op=24))
     else
      some false
    ) fun t31=>
    if t31=true then
     some (Sum.inl false)
    else
     Sh.cont (C4 N c20 q3 N 0) (fun x=>Sum.inl x) fun ()=>
     CT N p0 q3 n (Sh.w (t12+1))
  else
   some (Sum.inr ())
def F5 (N:Nat) (p0:Au):Option (Bool):=
 Option.bind (H5 N p0) fun q3=>
 if (!q3.2)=true then
  some false
 else
  Sh.cont (CT N p0 q3 N 0) (id) fun ()=>
  some true
def JN (N:Nat) (p0:By) (p1:By):Option (Bool):=
 Option.bind (B7 N p0.fields p1.fields) fun q4=>
 if (!q4)=true then
  some false
 else
  some true
def Ei (N:Nat) (p0:(List By)) (p1:(List By)):Nat→Int→Option ((Bool) ⊕ (Unit))
 | 0,_=>none
 | n+1,i10=>
  if (decide (i10 < (Sh.len p0)))=true then
   Option.bind (Sh.get p0 i10) fun c18=>
   Option.bind (Sh.get p1 i10) fun c19=>
   Option.bind (JN N c18 c19) fun q20=>
   if (!q20)=true then
    some (Sum.inl false)
   else
    Ei N p0 p1 n (Sh.w (i10+1))
  else
   some (Sum.inr ())
def Iu (N:Nat) (p0:(List By)) (p1:(List By)):Option (Bool):=
 if (!decide ((Sh.len p0)=(Sh.len p1)))=true then
  some false
 else
  Sh.cont (Ei N p0 p1 N 0) (id) fun ()=>
  some true
def It (N:Nat) (p0:An) (p1:An):Option (Bool):=
 if (!decide (p0.from_=p1.from_))=true then
  some false
 else
 if (!decide (p0.to=p1.to))=true then
  some false
 else
  Option.bind (Iu N p0.cons p1.cons) fun q16=>
  if (!q16)=true then
   some false
  else
   some true
def EN (N:Nat) (p0:(List An)) (p1:(List An)):Nat→Int→Option ((Bool) ⊕ (Unit))
 | 0,_=>none
 | n+1,i10=>
  if (decide (i10 < (Sh.len p0)))=true then
   Option.bind (Sh.get p0 i10) fun c18=>
   Option.bind (Sh.get p1 i10) fun c19=>
   Option.bind (It N c18 c19) fun q20=>
   if (!q20)=true then
    some (Sum.inl false)
   else
    EN N p0 p1 n (Sh.w (i10+1))
  else
   some (Sum.inr ())
def HZ (N:Nat) (p0:(List An)) (p1:(List An)):Option (Bool):=
 if (!decide ((Sh.len p0)=(Sh.len p1)))=true then
  some false
 else
  Sh.cont (EN N p0 p1 N 0) (id) fun ()=>
  some true
def Hx (N:Nat) (p0:Ag) (p1:Ag):Option (Bool):=
 if (!decide (p0.op=p1.op))=true then
  some false
 else
 if (!decide (p0.dst=p1.dst))=true then
  some false
 else
 if (!decide (p0.num=p1.num))=true then
  some false
 else
 if (!decide (p0.BY=p1.BY))=true then
  some false
 else
  Option.bind (B7 N p0.args p1.args) fun q28=>
  if (!q28)=true then
   some false
  else
   Option.bind (B7 N p0.jumps p1.jumps) fun q35=>
   if (!q35)=true then
    some false
   else
    some true
def Dz (N:Nat) (p0:(List Ag)) (p1:(List Ag)):Nat→Int→Option ((Bool) ⊕ (Unit))
 | 0,_=>none
 | n+1,i10=>
  if (decide (i10 < (Sh.len p0)))=true then
   Option.bind (Sh.get p0 i10) fun c18=>
   Option.bind (Sh.get p1 i10) fun c19=>
   Option.bind (Hx N c18 c19) fun q20=>
   if (!q20)=true then
    some (Sum.inl false)
   else
    Dz N p0 p1 n (Sh.w (i10+1))
  else
   some (Sum.inr ())
def HA (N:Nat) (p0:(List Ag)) (p1:(List Ag)):Option (Bool):=
 if (!decide ((Sh.len p0)=(Sh.len p1)))=true then
  some false
 else
  Sh.cont (Dz N p0 p1 N 0) (id) fun ()=>
  some true
def IX (N:Nat) (p0:A0) (p1:A0):Option (Bool):=
 Option.bind (B7 N p0.params p1.params) fun q4=>
 if (!q4)=true then
  some false
 else
  Option.bind (B7 N p0.BH p1.BH) fun q11=>
  if (!q11)=true then
   some false
  else
  if (!decide (p0.result=p1.result))=true then
   some false
  else
  if (!decide (p0.Ab=p1.Ab))=true then
   some false
  else
   Option.bind (HA N p0.code p1.code) fun q30=>
   if (!q30)=true then
    some false
   else
    some true
def EJ (N:Nat) (p0:(List A0)) (p1:(List A0)):Nat→Int→Option ((Bool) ⊕ (Unit))
 | 0,_=>none
 | n+1,i10=>
  if (decide (i10 < (Sh.len p0)))=true then
   Option.bind (Sh.get p0 i10) fun c18=>
   Option.bind (Sh.get p1 i10) fun c19=>
   Option.bind (IX N c18 c19) fun q20=>
   if (!q20)=true then
    some (Sum.inl false)
   else
    EJ N p0 p1 n (Sh.w (i10+1))
  else
   some (Sum.inr ())
def Hh (N:Nat) (p0:(List A0)) (p1:(List A0)):Option (Bool):=
 if (!decide ((Sh.len p0)=(Sh.len p1)))=true then
  some false
 else
  Sh.cont (EJ N p0 p1 N 0) (id) fun ()=>
  some true
def Hf (N:Nat) (p0:Au) (p1:Au):Option (Bool):=
 Option.bind (HZ N p0.decls p1.decls) fun q4=>
 if (!q4)=true then
  some false
 else
  Option.bind (Hh N p0.procs p1.procs) fun q11=>
  if (!q11)=true then
   some false
  else
   some true
end RC


namespace RC
def H0 (p0:Ai) (p1:Int):Option (Int):=
 Option.bind (DE p0.Ab p1) fun q3=>
 if (decide (q3 < 0))=true then
  some (-1)
 else
  Option.bind (DE p0.own q3) fun q9=>
  if (decide (q9 < 0))=true then
   some (-1)
  else
   Option.bind (DE p0.held q9) fun q15=>
   if (decide (q15 < 0))=true then
    some (-1)
   else
    some q15
def D1 (p0:(List Ai)):Nat→Int→Int→Option ((Int) ⊕ (Int))
 | 0,_,_=>none
 | n+1,left9,i10=>
  if (decide (i10 < (Sh.len p0)))=true then
   Option.bind (Sh.get p0 i10) fun c19=>
   Option.bind (H0 c19 left9) fun q20=>
   if (decide (q20 < 0))=true then
    some (Sum.inl (-1))
   else
    D1 p0 n q20 (Sh.w (i10+1))
  else
   some (Sum.inr left9)
def HJ (N:Nat) (p0:(List Ai)) (p1:Int):Option (Int):=
 if (decide ((Sh.w (p1 - (Sh.len p0))) < 0))=true then
  some (-1)
 else
  Sh.cont (D1 p0 N (Sh.w (p1 - (Sh.len p0))) 0) (id) fun left11=>
  some left11
def Hz (N:Nat) (p0:Av) (p1:Int):Option (Int):=
 Option.bind (DE p0.out p1) fun q3=>
 if (decide (q3 < 0))=true then
  some (-1)
 else
  Option.bind (Hw N p0.heap q3) fun q9=>
  if (decide (q9 < 0))=true then
   some (-1)
  else
   Option.bind (HJ N p0.AT q9) fun q15=>
   if (decide (q15 < 0))=true then
    some (-1)
   else
    some q15
def Hr (N:Nat) (p0:Ai):Option (Ai):=
 Option.bind (DG N p0.Ab) fun q7=>
 Option.bind (DG N p0.own) fun q9=>
 Option.bind (DG N p0.held) fun q11=>
 some (Ai.mk p0.proc p0.at_ p0.dst q7 q9 q11)
def D0 (N:Nat) (p0:(List Ai)):Nat→Int→(List Ai)→Option ((List Ai))
 | 0,_,_=>none
 | n+1,i6,l7=>
  if (decide (i6 < (Sh.len p0)))=true then
   Option.bind (Sh.get p0 i6) fun c15=>
   Option.bind (Hr N c15) fun q16=>
   Option.bind (Sh.get l7 i6) fun c17=>
   D0 N p0 n (Sh.w (i6+1)) (Sh.put l7 i6 q16)
  else
   some l7
def HE (N:Nat) (p0:(List Ai)):Option ((List Ai)):=
 Option.bind (Sh.mk (Ai.mk 0 0 0 [] [] []) (Sh.len p0) 96) fun l3=>
 Option.bind (D0 N p0 N 0 l3) fun l8=>
 some l8
def FJ (N:Nat) (p0:Av):Option (Av):=
 Option.bind (DG N p0.out) fun q8=>
 Option.bind (Hv N p0.heap) fun q10=>
 Option.bind (HE N p0.AT) fun q12=>
 some (Av.mk p0.status p0.value p0.calls p0.CV q8 q10 q12)
def C6 (p0:(List Int)):Nat→Int→Option ((Bool) ⊕ (Unit))
 | 0,_=>none
 | n+1,i4=>
  if (decide (i4 < (Sh.len p0)))=true then
   Option.bind (Sh.get p0 i4) fun c12=>
   Option.bind (At c12 (-999) 999) fun q13=>
   if (!q13)=true then
    some (Sum.inl false)
   else
    C6 p0 n (Sh.w (i4+1))
  else
   some (Sum.inr ())
def FN (N:Nat) (p0:(List Int)):Option (Bool):=
 Sh.cont (C6 p0 N 0) (id) fun ()=>
 some true
def DK (p0:(List Cell)) (p1:Ai):Nat→Int→Option ((Bool) ⊕ (Unit))
 | 0,_=>none
 | n+1,r4=>
  if (decide (r4 < (Sh.len p1.Ab)))=true then
   Option.bind (Sh.get p1.Ab r4) fun c12=>
   Option.bind (
    Option.bind (At c12 (-999) 999) fun q18=>
    if (!q18)=true then
     Option.bind (Cx c12) fun q20=>
     if (!q20)=true then
      some true
     else
      Option.bind (Sh.get p1.own r4) fun c22=>
      Option.bind (At c22 0 999999) fun q23=>
      if (!q23)=true then
       some true
      else
      if (decide (0 < c22))=true then
       Option.bind (FF p0 c12) fun q26=>
       some (!q26)
      else
       some false
    else
     Option.bind (Sh.get p1.own r4) fun c27=>
     Option.bind (At c27 0 999999) fun q28=>
     if (!q28)=true then
      some true
     else
     if (decide (0 < c27))=true then
      Option.bind (FF p0 c12) fun q31=>
      some (!q31)
     else
      some false
   ) fun t14=>
   if t14=true then
    some (Sum.inl false)
   else
    DK p0 p1 n (Sh.w (r4+1))
  else
   some (Sum.inr ())
def Ga (N:Nat) (p0:(List Cell)) (p1:Ai):Option (Bool):=
 Sh.cont (DK p0 p1 N 0) (id) fun ()=>
 some true
def F4 (N:Nat) (p0:Au) (p1:Av) (p2:Int):Option (Bool):=
 Option.bind (Sh.get p1.AT p2) fun c3=>
 Option.bind (At c3.proc 0 (Sh.w ((Sh.len p0.procs) - 1))) fun q6=>
 if (!q6)=true then
  some false
 else
  Option.bind (Sh.get p0.procs c3.proc) fun c12=>
  Option.bind (
   Option.bind (At c3.at_ 0 (Sh.w ((Sh.len c12.code) - 1))) fun q30=>
   if (!q30)=true then
    some true
   else
   if (!decide ((Sh.len c3.Ab)=c12.Ab))=true then
    some true
   else
   if (!decide ((Sh.len c3.own)=c12.Ab))=true then
    some true
   else
   if (!decide ((Sh.len c3.held)=c12.Ab))=true then
    some true
   else
    Option.bind (Ga N p1.heap c3) fun q35=>
    some (!q35)
  ) fun t15=>
  if t15=true then
   some false
  else
  if (decide (p2=0))=true then
   some (decide (c3.dst=0))
  else
   Option.bind (
    Option.bind (Sh.get p1.AT (Sh.w (p2 - 1))) fun c26=>
    Option.bind (At c3.dst 0 (Sh.w ((Sh.len c26.own) - 1))) fun q27=>
    if q27=true then
     Option.bind (Sh.get c26.own c3.dst) fun c29=>
     some (decide (c29=0))
    else
     some false
   ) fun t24=>
   some t24
def Dy (l8:(List Int)) (p0:Av):Nat→Int→Option ((Bool) ⊕ (Unit))
 | 0,_=>none
 | n+1,i12=>
  if (decide (i12 < (Sh.len l8)))=true then
   Option.bind (
    Option.bind (Sh.get p0.heap i12) fun c24=>
    if (decide (c24.count < 0))=true then
     Option.bind (Sh.get l8 i12) fun c26=>
     if (!decide (c26=1))=true then
      some true
     else
     if (decide (0≤c24.count))=true then
      some (!decide (c26=0))
     else
      some false
    else
    if (decide (0≤c24.count))=true then
     Option.bind (Sh.get l8 i12) fun c30=>
     some (!decide (c30=0))
    else
     some false
   ) fun t20=>
   if t20=true then
    some (Sum.inl false)
   else
    Dy l8 p0 n (Sh.w (i12+1))
  else
   some (Sum.inr ())
def Bn (i6:Int) (p0:Av):Nat→Int→(List Int)→Option ((Bool) ⊕ ((List Int)))
 | 0,_,_=>none
 | n+1,r36,l37=>
  Option.bind (Sh.get p0.AT i6) fun c42=>
  if (decide (r36 < (Sh.len c42.held)))=true then
   Sh.cont (
    Option.bind (Sh.get c42.held r36) fun c48=>
    if (!decide (c48=0))=true then
     Option.bind (
      Option.bind (Cx c48) fun q59=>
      if (!q59)=true then
       some true
      else
       Option.bind (At (Sh.w (c48 - 1000)) 0 (Sh.w ((Sh.len p0.heap) - 1))) fun q61=>
       some (!q61)
     ) fun t54=>
     if t54=true then
      some (Sum.inl (Sum.inl false))
     else
      Option.bind (Sh.get l37 (Sh.w (c48 - 1000))) fun c58=>
      some (Sum.inr (Sh.put l37 (Sh.w (c48 - 1000)) (Sh.w (c58+1))))
    else
     some (Sum.inr l37)
   ) (id) fun l45=>
   Bn i6 p0 n (Sh.w (r36+1)) l45
  else
   some (Sum.inr l37)
def Bs (N:Nat) (p0:Av):Nat→Int→(List Int)→Option ((Bool) ⊕ ((List Int)))
 | 0,_,_=>none
 | n+1,i6,l7=>
  if (decide (i6 < (Sh.len p0.AT)))=true then
   Sh.cont (Bn i6 p0 N 0 l7) (fun x=>Sum.inl x) fun l38=>
   Bs N p0 n (Sh.w (i6+1)) l38
  else
   some (Sum.inr l7)
def F6 (N:Nat) (p0:Av):Option (Bool):=
 Option.bind (Sh.mk 0 (Sh.len p0.heap) 8) fun l3=>
 Sh.cont (Bs N p0 N 0 l3) (id) fun l8=>
 Sh.cont (Dy l8 p0 N 0) (id) fun ()=>
 some true
def Bv (c16:Ai):Nat→Int→(List Int)→Option ((List Int))
 | 0,_,_=>none
 | n+1,r18,l19=>
  if (decide (r18 < (Sh.len c16.own)))=true then
   Option.bind (
    Option.bind (Sh.get c16.own r18) fun c29=>
    if (decide (0 < c29))=true then
     Option.bind (Sh.get c16.Ab r18) fun c31=>
     Option.bind (Sh.get l19 (Sh.w (c31 - 1000))) fun c32=>
     some (Sh.put l19 (Sh.w (c31 - 1000)) (Sh.w (c32+c29)))
    else
     some l19
   ) fun l26=>
   Bv c16 n (Sh.w (r18+1)) l26
  else
   some l19
def CC (N:Nat) (p0:Av):Nat→Int→(List Int)→Option ((List Int))
 | 0,_,_=>none
 | n+1,i6,l7=>
  if (decide (i6 < (Sh.len p0.AT)))=true then
   Option.bind (Sh.get p0.AT i6) fun c16=>
   Option.bind (Bv c16 N 0 l7) fun l20=>
   CC N p0 n (Sh.w (i6+1)) l20
  else
   some l7
def G7 (N:Nat) (p0:Av):Option ((List Int)):=
 Option.bind (Sh.mk 0 (Sh.len p0.heap) 8) fun l3=>
 Option.bind (CC N p0 N 0 l3) fun l8=>
 some l8
def Cd (p0:Av) (q3:(List Int)) (q5:(List Int)):Nat→Int→Option ((Bool) ⊕ (Unit))
 | 0,_=>none
 | n+1,i8=>
  if (decide (i8 < (Sh.len p0.heap)))=true then
   Option.bind (
    Option.bind (Sh.get p0.heap i8) fun c20=>
    if (decide (0 < c20.count))=true then
     Option.bind (Sh.get q3 i8) fun c22=>
     Option.bind (Sh.get q5 i8) fun c23=>
     some (!decide (c20.count=(Sh.w (c22+c23))))
    else
     some false
   ) fun t16=>
   if t16=true then
    some (Sum.inl false)
   else
    Cd p0 q3 q5 n (Sh.w (i8+1))
  else
   some (Sum.inr ())
def E7 (N:Nat) (p0:Av):Option (Bool):=
 Option.bind (HO N p0.heap) fun q3=>
 Option.bind (G7 N p0) fun q5=>
 Sh.cont (Cd p0 q3 q5 N 0) (id) fun ()=>
 some true
def CS (N:Nat) (p0:Au) (p1:Av):Nat→Int→Option ((Bool) ⊕ (Unit))
 | 0,_=>none
 | n+1,k22=>
  if (decide (k22 < (Sh.len p1.AT)))=true then
   Option.bind (F4 N p0 p1 k22) fun q35=>
   if (!q35)=true then
    some (Sum.inl false)
   else
    CS N p0 p1 n (Sh.w (k22+1))
  else
   some (Sum.inr ())
def B2 (N:Nat) (p0:Au) (p1:Av):Option (Bool):=
 Option.bind (
  Option.bind (Dh N p0) fun q54=>
  if (!q54)=true then
   some true
  else
   Option.bind (At p1.status 0 3) fun q56=>
   if (!q56)=true then
    some true
   else
    some ((decide (p1.status=0)) != (decide ((Sh.len p1.AT)=0)))
 ) fun t4=>
 if t4=true then
  some false
 else
  Option.bind (
   Option.bind (At p1.value (-999) 999) fun q44=>
   if (!q44)=true then
    some true
   else
   if (!decide (p1.value=0))=true then
    if (!decide (p1.status=0))=true then
     some true
    else
     Option.bind (At p1.CV 0 40) fun q48=>
     if (!q48)=true then
      some true
     else
      Option.bind (At p1.calls 0 p1.CV) fun q50=>
      some (!q50)
   else
    Option.bind (At p1.CV 0 40) fun q51=>
    if (!q51)=true then
     some true
    else
     Option.bind (At p1.calls 0 p1.CV) fun q53=>
     some (!q53)
  ) fun t10=>
  if t10=true then
   some false
  else
   Option.bind (
    if (decide ((Sh.w (p1.calls+1)) < (Sh.len p1.AT)))=true then
     some true
    else
     Option.bind (FN N p1.out) fun q41=>
     if (!q41)=true then
      some true
     else
      Option.bind (El N p1.heap) fun q43=>
      some (!q43)
   ) fun t16=>
   if t16=true then
    some false
   else
    Sh.cont (CS N p0 p1 N 0) (id) fun ()=>
    Option.bind (
     Option.bind (F6 N p1) fun q27=>
     if q27=true then
      Option.bind (E7 N p1) fun q29=>
      some q29
     else
      some false
    ) fun t25=>
    some t25
def I1 (N:Nat) (p0:Au) (p1:Av):Option (Bool):=
 Option.bind (B2 N p0 p1) fun q3=>
 some q3
def GM (p0:Int):Option (Bool):=
 Option.bind (GK p0) fun q3=>
 some (!q3)
def BE (p0:(List Int)):Nat→Int→Option ((Int) ⊕ (Unit))
 | 0,_=>none
 | n+1,t4=>
  if (decide (t4 < (Sh.len p0)))=true then
   Option.bind (Sh.get p0 t4) fun c13=>
   Option.bind (GM c13) fun q14=>
   if q14=true then
    some (Sum.inl t4)
   else
    BE p0 n (Sh.w (t4+1))
  else
   some (Sum.inr ())
def ES (N:Nat) (p0:(List Int)):Option (Int):=
 Sh.cont (BE p0 N 0) (id) fun ()=>
 some (-1)
def CX (N:Nat) (p0:(List Int)):Option (Bool):=
 Option.bind (ES N p0) fun q3=>
 some (decide (0≤q3))
def C7 (p1:Ai):Nat→Int→Option ((Bool) ⊕ (Unit))
 | 0,_=>none
 | n+1,t18=>
  if (decide (t18 < (Sh.len p1.Ab)))=true then
   Option.bind (Sh.get p1.Ab t18) fun c26=>
   Option.bind (
    Option.bind (GK c26) fun q32=>
    if (!q32)=true then
     if (decide (c26 < 1000))=true then
      some true
     else
      Option.bind (Sh.get p1.own t18) fun c35=>
      if (decide (c35 < 0))=true then
       some true
      else
       some (decide (999999 < c35))
    else
     Option.bind (Sh.get p1.own t18) fun c37=>
     if (decide (c37 < 0))=true then
      some true
     else
      some (decide (999999 < c37))
   ) fun t28=>
   if t28=true then
    some (Sum.inl false)
   else
    C7 p1 n (Sh.w (t18+1))
  else
   some (Sum.inr ())
def GA (N:Nat) (p0:Au) (p1:Ai):Option (Bool):=
 Option.bind (
  if (decide (p1.proc < 0))=true then
   some true
  else
   some (decide ((Sh.len p0.procs)≤p1.proc))
 ) fun t4=>
 if t4=true then
  some false
 else
  Option.bind (Sh.get p0.procs p1.proc) fun c9=>
  Option.bind (
   if (decide (p1.at_ < 0))=true then
    some true
   else
   if (decide ((Sh.len c9.code)≤p1.at_))=true then
    some true
   else
   if (!decide ((Sh.len p1.Ab)=c9.Ab))=true then
    some true
   else
   if (!decide ((Sh.len p1.own)=c9.Ab))=true then
    some true
   else
    some (!decide ((Sh.len p1.held)=c9.Ab))
  ) fun t12=>
  if t12=true then
   some false
  else
   Sh.cont (C7 p1 N 0) (id) fun ()=>
   some true
def Bc (p0:Ai) (p1:(List Cell)):Nat→Int→(List Int)→(List Int)→Option ((Bool×(List Int)×(List Int)) ⊕ ((List Int)×(List Int)))
 | 0,_,_,_=>none
 | n+1,t4,l5,l6=>
  if (decide (t4 < (Sh.len p0.own)))=true then
   Sh.cont (
    Option.bind (Sh.get p0.own t4) fun c19=>
    Sh.cont (
     if (decide (0 < c19))=true then
      Option.bind (Sh.get p0.Ab t4) fun c42=>
      Option.bind (FH p1 c42) fun q43=>
      if (!q43.2)=true then
       some (Sum.inl (Sum.inl (Sum.inl (false,l5,l6))))
      else
       Option.bind (Sh.get l5 q43.1) fun c50=>
       some (Sum.inr (Sh.put l5 q43.1 (Sh.w (c50+c19))))
     else
      some (Sum.inr l5)
    ) (id) fun l21=>
    Option.bind (Sh.get p0.held t4) fun c24=>
    if (!decide (c24=0))=true then
     Option.bind (
      if (decide ((Sh.w (c24 - 1000)) < 0))=true then
       some true
      else
      if (decide ((Sh.len p1)≤(Sh.w (c24 - 1000))))=true then
       some true
      else
       Option.bind (Sh.get p1 (Sh.w (c24 - 1000))) fun c37=>
       some (decide (0≤c37.count))
     ) fun t30=>
     if t30=true then
      some (Sum.inl (Sum.inl (false,l21,l6)))
     else
      Option.bind (Sh.get l6 (Sh.w (c24 - 1000))) fun c34=>
      some (Sum.inr (l21,Sh.put l6 (Sh.w (c24 - 1000)) (Sh.w (c34+1))))
    else
     some (Sum.inr (l21,l6))
   ) (id) fun (l15,l16)=>
   Bc p0 p1 n (Sh.w (t4+1)) l15 l16
  else
   some (Sum.inr (l5,l6))
def E6 (N:Nat) (s0:(List Int)) (s1:(List Int)) (p0:Ai) (p1:(List Cell)):Option (Bool×(List Int)×(List Int)):=
 Sh.cont (Bc p0 p1 N 0 s0 s1) (id) fun (l7,l8)=>
 some (true,l7,l8)
def Bt (l29:(List Int)) (l30:(List Int)) (p1:Av):Nat→Int→Option ((Bool) ⊕ (Unit))
 | 0,_=>none
 | n+1,t34=>
  if (decide (t34 < (Sh.len p1.heap)))=true then
   Option.bind (Sh.get p1.heap t34) fun c42=>
   Option.bind (
    if (decide (0 < c42.count))=true then
     Option.bind (Sh.get l29 t34) fun c49=>
     if (!decide (c42.count=c49))=true then
      some true
     else
     if (decide (c42.count < 0))=true then
      Option.bind (Sh.get l30 t34) fun c52=>
      some (!decide (c52=1))
     else
      some false
    else
    if (decide (c42.count < 0))=true then
     Option.bind (Sh.get l30 t34) fun c54=>
     some (!decide (c54=1))
    else
     some false
   ) fun t44=>
   if t44=true then
    some (Sum.inl false)
   else
    Bt l29 l30 p1 n (Sh.w (t34+1))
  else
   some (Sum.inr ())
def BS (N:Nat) (p0:Au) (p1:Av):Nat→Int→(List Int)→(List Int)→Option ((Bool) ⊕ ((List Int)×(List Int)))
 | 0,_,_,_=>none
 | n+1,t26,l27,l28=>
  if (decide (t26 < (Sh.len p1.AT)))=true then
   Option.bind (Sh.get p1.AT t26) fun c60=>
   Option.bind (GA N p0 c60) fun q63=>
   if (!q63)=true then
    some (Sum.inl false)
   else
    Option.bind (
     if (decide (t26=0))=true then
      if (!decide (c60.dst=0))=true then
       some true
      else
      if (decide (0 < t26))=true then
       if (decide (c60.dst < 0))=true then
        some true
       else
        Option.bind (Sh.get p1.AT (Sh.w (t26 - 1))) fun c86=>
        if (decide ((Sh.len c86.own)≤c60.dst))=true then
         some true
        else
         Option.bind (Sh.get c86.own c60.dst) fun c88=>
         some (!decide (c88=0))
      else
       some false
     else
     if (decide (0 < t26))=true then
      if (decide (c60.dst < 0))=true then
       some true
      else
       Option.bind (Sh.get p1.AT (Sh.w (t26 - 1))) fun c91=>
       if (decide ((Sh.len c91.own)≤c60.dst))=true then
        some true
       else
        Option.bind (Sh.get c91.own c60.dst) fun c93=>
        some (!decide (c93=0))
     else
      some false
    ) fun t70=>
    if t70=true then
     some (Sum.inl false)
    else
     Option.bind (E6 N l27 l28 c60 p1.heap) fun q75=>
     if (!q75.1)=true then
      some (Sum.inl false)
     else
      BS N p0 p1 n (Sh.w (t26+1)) q75.2.1 q75.2.2
  else
   some (Sum.inr (l27,l28))
def HL (N:Nat) (p0:Au) (p1:Av):Option (Bool):=
 Option.bind (
  if (decide (p1.status < 0))=true then
   some true
  else
  if (decide (3 < p1.status))=true then
   some true
  else
  if ((decide (p1.status=0)) != (decide ((Sh.len p1.AT)=0)))=true then
   some true
  else
   Option.bind (GK p1.value) fun q103=>
   if (!q103)=true then
    some true
   else
   if (!decide (p1.value=0))=true then
    some (!decide (p1.status=0))
   else
    some false
 ) fun t4=>
 if t4=true then
  some false
 else
  Option.bind (
   if (decide (p1.CV < 0))=true then
    some true
   else
   if (decide (40 < p1.CV))=true then
    some true
   else
   if (decide (p1.calls < 0))=true then
    some true
   else
   if (decide (p1.CV < p1.calls))=true then
    some true
   else
    some (decide ((Sh.w (p1.calls+1)) < (Sh.len p1.AT)))
  ) fun t10=>
  if t10=true then
   some false
  else
   Option.bind (Eg N p1.heap) fun q15=>
   Option.bind (
    if (!q15.2)=true then
     some true
    else
     Option.bind (CX N p1.out) fun q95=>
     some q95
   ) fun t18=>
   if t18=true then
    some false
   else
    Option.bind (Sh.mk 0 (Sh.len p1.heap) 8) fun l23=>
    Sh.cont (BS N p0 p1 N 0 q15.1 l23) (id) fun (l29,l30)=>
    Sh.cont (Bt l29 l30 p1 N 0) (id) fun ()=>
    some true
def FM (N:Nat) (p0:Au) (p1:Av):Option (Bool):=
 Option.bind (
  Option.bind (F5 N p0) fun q5=>
  if q5=true then
   Option.bind (HL N p0 p1) fun q7=>
   some q7
  else
   some false
 ) fun t3=>
 some t3
def He (N:Nat) (p0:Ai) (p1:Ai):Option (Bool):=
 if (!decide (p0.proc=p1.proc))=true then
  some false
 else
 if (!decide (p0.at_=p1.at_))=true then
  some false
 else
 if (!decide (p0.dst=p1.dst))=true then
  some false
 else
  Option.bind (B7 N p0.Ab p1.Ab) fun q22=>
  if (!q22)=true then
   some false
  else
   Option.bind (B7 N p0.own p1.own) fun q29=>
   if (!q29)=true then
    some false
   else
    Option.bind (B7 N p0.held p1.held) fun q36=>
    if (!q36)=true then
     some false
    else
     some true
def Dl (N:Nat) (p0:(List Ai)) (p1:(List Ai)):Nat→Int→Option ((Bool) ⊕ (Unit))
 | 0,_=>none
 | n+1,i10=>
  if (decide (i10 < (Sh.len p0)))=true then
   Option.bind (Sh.get p0 i10) fun c18=>
   Option.bind (Sh.get p1 i10) fun c19=>
   Option.bind (He N c18 c19) fun q20=>
   if (!q20)=true then
    some (Sum.inl false)
   else
    Dl N p0 p1 n (Sh.w (i10+1))
  else
   some (Sum.inr ())
def HK (N:Nat) (p0:(List Ai)) (p1:(List Ai)):Option (Bool):=
 if (!decide ((Sh.len p0)=(Sh.len p1)))=true then
  some false
 else
  Sh.cont (Dl N p0 p1 N 0) (id) fun ()=>
  some true
def Ho (N:Nat) (p0:Av) (p1:Av):Option (Bool):=
 if (!decide (p0.status=p1.status))=true then
  some false
 else
 if (!decide (p0.value=p1.value))=true then
  some false
 else
 if (!decide (p0.calls=p1.calls))=true then
  some false
 else
 if (!decide (p0.CV=p1.CV))=true then
  some false
 else
  Option.bind (B7 N p0.out p1.out) fun q28=>
  if (!q28)=true then
   some false
  else
   Option.bind (Hi N p0.heap p1.heap) fun q35=>
   if (!q35)=true then
    some false
   else
    Option.bind (HK N p0.AT p1.AT) fun q42=>
    if (!q42)=true then
     some false
    else
     some true
end RC


namespace RC
def GF (p0:(List Int)):Option ((List Int)):=
 Option.bind (Sh.app ([]:List Int) p0 8) fun l3=>
 some l3
def Cs (p0:(List Bool)):Nat→Int→(List Int)→Option ((List Int))
 | 0,_,_=>none
 | n+1,t5,l6=>
  if (decide (t5 < (Sh.len p0)))=true then
   Option.bind (
    Option.bind (Sh.get p0 t5) fun c17=>
    if c17=true then
     Option.bind (Sh.app l6 [t5] 8) fun l20=>
     some l20
    else
     some l6
   ) fun l14=>
   Cs p0 n (Sh.w (t5+1)) l14
  else
   some l6
def E8 (N:Nat) (p0:(List Bool)):Option ((List Int)):=
 Option.bind (Cs p0 N 0 []) fun l7=>
 some l7
def C2 (p0:(List Cell)):Nat→(List Bool)→(List Int)→Option ((List Bool))
 | 0,_,_=>none
 | n+1,l14,l15=>
  if (decide (0 < (Sh.len l15)))=true then
   Option.bind (Sh.get l15 (Sh.w ((Sh.len l15) - 1))) fun c24=>
   Option.bind (FH p0 c24) fun q25=>
   Option.bind (Sh.hi l15 (Sh.w ((Sh.len l15) - 1))) fun l27=>
   Option.bind (
    if q25.2=true then
     Option.bind (Sh.get l14 q25.1) fun c37=>
     some (!c37)
    else
     some false
   ) fun t29=>
   if t29=true then
    Option.bind (Sh.get l14 q25.1) fun c33=>
    Option.bind (Sh.get p0 q25.1) fun c34=>
    Option.bind (Sh.app l27 c34.fields 8) fun l35=>
    C2 p0 n (Sh.put l14 q25.1 true) l35
   else
    C2 p0 n l14 l27
  else
   some l14
def Gu (N:Nat) (p0:(List Cell)) (p1:(List Int)):Option ((List Int)):=
 Option.bind (Ge N p0) fun q4=>
 if (!q4)=true then
  some []
 else
  Option.bind (Sh.mk false (Sh.len p0) 1) fun l10=>
  Option.bind (D2 p1) fun q12=>
  Option.bind (C2 p0 N l10 q12) fun l16=>
  Option.bind (E8 N l16) fun q19=>
  some q19
def DZ (l9:(List Bool)) (p0:(List Cell)):Nat→Int→(List Int)→Option ((List Int))
 | 0,_,_=>none
 | n+1,i14,l15=>
  if (decide (i14 < (Sh.len p0)))=true then
   Option.bind (
    Option.bind (Sh.get l9 i14) fun c26=>
    if c26=true then
     Option.bind (Sh.app l15 [i14] 8) fun l28=>
     some l28
    else
     some l15
   ) fun l23=>
   DZ l9 p0 n (Sh.w (i14+1)) l23
  else
   some l15
def C0 (p0:(List Cell)):Nat→(List Bool)→(List Int)→Option ((List Bool))
 | 0,_,_=>none
 | n+1,l7,l8=>
  if (decide (0 < (Sh.len l8)))=true then
   Option.bind (Sh.get l8 (Sh.w ((Sh.len l8) - 1))) fun c33=>
   Option.bind (Sh.hi l8 (Sh.w ((Sh.len l8) - 1))) fun l35=>
   Option.bind (
    Option.bind (FF p0 c33) fun q44=>
    if q44=true then
     Option.bind (Sh.get l7 (Sh.w (c33 - 1000))) fun c46=>
     some (!c46)
    else
     some false
   ) fun t37=>
   if t37=true then
    Option.bind (Sh.get l7 (Sh.w (c33 - 1000))) fun c41=>
    Option.bind (Sh.get p0 (Sh.w (c33 - 1000))) fun c42=>
    Option.bind (Sh.app l35 c42.fields 8) fun l43=>
    C0 p0 n (Sh.put l7 (Sh.w (c33 - 1000)) true) l43
   else
    C0 p0 n l7 l35
  else
   some l7
def FK (N:Nat) (p0:(List Cell)) (p1:(List Int)):Option ((List Int)):=
 Option.bind (Sh.mk false (Sh.len p0) 1) fun l3=>
 Option.bind (GF p1) fun q5=>
 Option.bind (C0 p0 N l3 q5) fun l9=>
 Option.bind (DZ l9 p0 N 0 []) fun l16=>
 some l16
def Kl (N:Nat) (p0:(List Cell)) (p1:(List Int)):Option ((List Int)):=
 Option.bind (El N p0) fun q4=>
 if (!q4)=true then
  some []
 else
  Option.bind (FK N p0 p1) fun q10=>
  some q10
end RC


namespace RC
def Dq :Nat→Int→Int→(List Int)→Option (Int×(List Int))
 | 0,_,_,_=>none
 | n+1,k4,i5,l6=>
  if (decide (i5 < (Sh.len l6)))=true then
   Option.bind (Sh.get l6 i5) fun c16=>
   Dq  n (Sh.w (k4+1)) (Sh.w (i5+1)) (Sh.put l6 i5 k4)
  else
   some (k4,l6)
def Bx (N:Nat) (s0:(List Int)) (p1:Int):Option (Int×(List Int)):=
 Option.bind (Dq  N p1 0 s0) fun (k7,l8)=>
 some (k7,l8)
def DM (N:Nat):Nat→Int→Int→(List Cell)→Option (Int×(List Cell))
 | 0,_,_,_=>none
 | n+1,k4,i5,l6=>
  if (decide (i5 < (Sh.len l6)))=true then
   Option.bind (Sh.get l6 i5) fun c16=>
   Option.bind (Sh.get (Sh.put l6 i5 (Cell.mk k4 c16.tag c16.fields)) i5) fun c19=>
   Option.bind (Sh.get (Sh.put (Sh.put l6 i5 (Cell.mk k4 c16.tag c16.fields)) i5 (Cell.mk c19.count (Sh.w (k4+1)) c19.fields)) i5) fun c21=>
   Option.bind (Bx N c21.fields (Sh.w ((Sh.w (k4+1)) + 1))) fun q22=>
   DM N n q22.1 (Sh.w (i5+1)) (Sh.put (Sh.put (Sh.put l6 i5 (Cell.mk k4 c16.tag c16.fields)) i5 (Cell.mk c19.count (Sh.w (k4+1)) c19.fields)) i5 (Cell.mk c21.count c21.tag q22.2))
  else
   some (k4,l6)
def Gm (N:Nat) (s0:(List Cell)) (p1:Int):Option (Int×(List Cell)):=
 Option.bind (DM N N p1 0 s0) fun (k7,l8)=>
 some (k7,l8)
def Dp (p0:(List Int)):Nat→Int→Int→Option ((Int) ⊕ (Int))
 | 0,_,_=>none
 | n+1,k4,i5=>
  if (decide (i5 < (Sh.len p0)))=true then
   Option.bind (Sh.get p0 i5) fun c15=>
   if (!decide (c15=k4))=true then
    some (Sum.inl (-1))
   else
    Dp p0 n (Sh.w (k4+1)) (Sh.w (i5+1))
  else
   some (Sum.inr k4)
def GC (N:Nat) (p0:(List Int)) (p1:Int):Option (Int):=
 Sh.cont (Dp p0 N p1 0) (id) fun k6=>
 some k6
end RC


namespace RC
def Ey (p0:(List Int)) (p1:Int):Nat→Int→Option ((Bool) ⊕ (Unit))
 | 0,_=>none
 | n+1,i4=>
  if (decide (i4 < (Sh.len p0)))=true then
   Option.bind (Sh.get p0 i4) fun c12=>
   if (decide (c12=p1))=true then
    some (Sum.inl true)
   else
    Ey p0 p1 n (Sh.w (i4+1))
  else
   some (Sum.inr ())
def J4 (N:Nat) (p0:(List Int)) (p1:Int):Option (Bool):=
 Sh.cont (Ey p0 p1 N 0) (id) fun ()=>
 some false
def B3 (p0:(List Int)) (p1:Int):Nat→Bool→Int→(List Int)→Option (Bool×(List Int))
 | 0,_,_,_=>none
 | n+1,done6,i7,l8=>
  if (decide (i7 < (Sh.len p0)))=true then
   Option.bind (
    Option.bind (
     if (!done6)=true then
      Option.bind (Sh.get p0 i7) fun c43=>
      some (decide (p1≤c43))
     else
      some false
    ) fun t32=>
    if t32=true then
     Option.bind (
      Option.bind (Sh.get p0 i7) fun c39=>
      if (decide (p1 < c39))=true then
       Option.bind (Sh.app l8 [p1] 8) fun l41=>
       some l41
      else
       some l8
     ) fun l36=>
     some (true,l36)
    else
     some (done6,l8)
   ) fun (done26,l27)=>
   Option.bind (Sh.get p0 i7) fun c29=>
   Option.bind (Sh.app l27 [c29] 8) fun l30=>
   B3 p0 p1 n done26 (Sh.w (i7+1)) l30
  else
   some (done6,l8)
def FG (N:Nat) (p0:(List Int)) (p1:Int):Option ((List Int)):=
 Option.bind (B3 p0 p1 N false 0 []) fun (done9,l10)=>
 Option.bind (
  if (!done9)=true then
   Option.bind (Sh.app l10 [p1] 8) fun l19=>
   some l19
  else
   some l10
 ) fun l13=>
 some l13
def D9 (N:Nat) (c3:Ag):Nat→Int→(List Int)→Option ((List Int))
 | 0,_,_=>none
 | n+1,k23,l24=>
  if (decide (k23 < (Sh.len c3.jumps)))=true then
   Option.bind (Sh.get c3.jumps k23) fun c32=>
   Option.bind (FG N l24 c32) fun q33=>
   D9 N c3 n (Sh.w (k23+1)) q33
  else
   some l24
def IP (N:Nat) (p0:(List Ag)) (p1:Int):Option ((List Int)):=
 Option.bind (Sh.get p0 p1) fun c3=>
 Option.bind (
  if (decide (c3.op=23))=true then
   some true
  else
   some (decide (c3.op=24))
 ) fun t7=>
 if t7=true then
  some []
 else
 if (decide (c3.op=22))=true then
  some [c3.num]
 else
 if (decide (c3.op=20))=true then
  Option.bind (FG N [Sh.w (p1+1)] c3.num) fun q17=>
  some q17
 else
 if (decide (c3.op=21))=true then
  Option.bind (D9 N c3 N 0 []) fun l25=>
  some l25
 else
  some [Sh.w (p1+1)]
def Fi (p0:Ag) (p1:Int):Option ((List Int)):=
 if (decide (p0.op=22))=true then
  some [p0.num]
 else
 if (decide (p0.op=20))=true then
  some [Sh.w (p1+1),p0.num]
 else
 if (decide (p0.op=21))=true then
  some p0.jumps
 else
  Option.bind (
   if (decide (p0.op=23))=true then
    some true
   else
    some (decide (p0.op=24))
  ) fun t14=>
  if t14=true then
   some []
  else
   some [Sh.w (p1+1)]
def Dn (N:Nat):Nat→Int→Int→(List By)→Option (Int×(List By))
 | 0,_,_,_=>none
 | n+1,k4,i5,l6=>
  if (decide (i5 < (Sh.len l6)))=true then
   Option.bind (Sh.get l6 i5) fun c15=>
   Option.bind (Bx N c15.fields k4) fun q16=>
   Dn N n q16.1 (Sh.w (i5+1)) (Sh.put l6 i5 (By.mk q16.2))
  else
   some (k4,l6)
def G8 (N:Nat) (s0:(List By)) (p1:Int):Option (Int×(List By)):=
 Option.bind (Dn N N p1 0 s0) fun (k7,l8)=>
 some (k7,l8)
def DP (N:Nat):Nat→Int→Int→(List An)→Option (Int×(List An))
 | 0,_,_,_=>none
 | n+1,k4,i5,l6=>
  if (decide (i5 < (Sh.len l6)))=true then
   Option.bind (Sh.get l6 i5) fun c16=>
   Option.bind (Sh.get (Sh.put l6 i5 (An.mk k4 c16.to c16.cons)) i5) fun c19=>
   Option.bind (Sh.get (Sh.put (Sh.put l6 i5 (An.mk k4 c16.to c16.cons)) i5 (An.mk c19.from_ (Sh.w (k4+1)) c19.cons)) i5) fun c21=>
   Option.bind (G8 N c21.cons (Sh.w ((Sh.w (k4+1)) + 1))) fun q22=>
   DP N n q22.1 (Sh.w (i5+1)) (Sh.put (Sh.put (Sh.put l6 i5 (An.mk k4 c16.to c16.cons)) i5 (An.mk c19.from_ (Sh.w (k4+1)) c19.cons)) i5 (An.mk c21.from_ c21.to q22.2))
  else
   some (k4,l6)
def Gj (N:Nat) (s0:(List An)) (p1:Int):Option (Int×(List An)):=
 Option.bind (DP N N p1 0 s0) fun (k7,l8)=>
 some (k7,l8)
def C5 (N:Nat):Nat→Int→Int→(List Ag)→Option (Int×(List Ag))
 | 0,_,_,_=>none
 | n+1,k4,i5,l6=>
  if (decide (i5 < (Sh.len l6)))=true then
   Option.bind (Sh.get l6 i5) fun c16=>
   Option.bind (Sh.get (Sh.put l6 i5 (Ag.mk k4 c16.dst c16.num c16.BY c16.args c16.jumps)) i5) fun c19=>
   Option.bind (Sh.get (Sh.put (Sh.put l6 i5 (Ag.mk k4 c16.dst c16.num c16.BY c16.args c16.jumps)) i5 (Ag.mk c19.op (Sh.w (k4+1)) c19.num c19.BY c19.args c19.jumps)) i5) fun c22=>
   Option.bind (Sh.get (Sh.put (Sh.put (Sh.put l6 i5 (Ag.mk k4 c16.dst c16.num c16.BY c16.args c16.jumps)) i5 (Ag.mk c19.op (Sh.w (k4+1)) c19.num c19.BY c19.args c19.jumps)) i5 (Ag.mk c22.op c22.dst (Sh.w ((Sh.w (k4+1)) + 1)) c22.BY c22.args c22.jumps)) i5) fun c25=>
   Option.bind (Sh.get (Sh.put (Sh.put (Sh.put (Sh.put l6 i5 (Ag.mk k4 c16.dst c16.num c16.BY c16.args c16.jumps)) i5 (Ag.mk c19.op (Sh.w (k4+1)) c19.num c19.BY c19.args c19.jumps)) i5 (Ag.mk c22.op c22.dst (Sh.w ((Sh.w (k4+1)) + 1)) c22.BY c22.args c22.jumps)) i5 (Ag.mk c25.op c25.dst c25.num (Sh.w ((Sh.w ((Sh.w (k4+1)) + 1)) + 1)) c25.args c25.jumps)) i5) fun c28=>
   Option.bind (Bx N c28.args (Sh.w ((Sh.w ((Sh.w ((Sh.w (k4+1)) + 1)) + 1)) + 1))) fun q29=>
   Option.bind (Sh.get (Sh.put (Sh.put (Sh.put (Sh.put (Sh.put l6 i5 (Ag.mk k4 c16.dst c16.num c16.BY c16.args c16.jumps)) i5 (Ag.mk c19.op (Sh.w (k4+1)) c19.num c19.BY c19.args c19.jumps)) i5 (Ag.mk c22.op c22.dst (Sh.w ((Sh.w (k4+1)) + 1)) c22.BY c22.args c22.jumps)) i5 (Ag.mk c25.op c25.dst c25.num (Sh.w ((Sh.w ((Sh.w (k4+1)) + 1)) + 1)) c25.args c25.jumps)) i5 (Ag.mk c28.op c28.dst c28.num c28.BY q29.2 c28.jumps)) i5) fun c31=>
   Option.bind (Bx N c31.jumps q29.1) fun q32=>
   C5 N n q32.1 (Sh.w (i5+1)) (Sh.put (Sh.put (Sh.put (Sh.put (Sh.put (Sh.put l6 i5 (Ag.mk k4 c16.dst c16.num c16.BY c16.args c16.jumps)) i5 (Ag.mk c19.op (Sh.w (k4+1)) c19.num c19.BY c19.args c19.jumps)) i5 (Ag.mk c22.op c22.dst (Sh.w ((Sh.w (k4+1)) + 1)) c22.BY c22.args c22.jumps)) i5 (Ag.mk c25.op c25.dst c25.num (Sh.w ((Sh.w ((Sh.w (k4+1)) + 1)) + 1)) c25.args c25.jumps)) i5 (Ag.mk c28.op c28.dst c28.num c28.BY q29.2 c28.jumps)) i5 (Ag.mk c31.op c31.dst c31.num c31.BY c31.args q32.2))
  else
   some (k4,l6)
def GJ (N:Nat) (s0:(List Ag)) (p1:Int):Option (Int×(List Ag)):=
 Option.bind (C5 N N p1 0 s0) fun (k7,l8)=>
 some (k7,l8)
def DN (N:Nat):Nat→Int→Int→(List A0)→Option (Int×(List A0))
 | 0,_,_,_=>none
 | n+1,k4,i5,l6=>
  if (decide (i5 < (Sh.len l6)))=true then
   Option.bind (Sh.get l6 i5) fun c16=>
   Option.bind (Bx N c16.params k4) fun q17=>
   Option.bind (Sh.get (Sh.put l6 i5 (A0.mk q17.2 c16.BH c16.result c16.Ab c16.code)) i5) fun c20=>
   Option.bind (Bx N c20.BH q17.1) fun q21=>
   Option.bind (Sh.get (Sh.put (Sh.put l6 i5 (A0.mk q17.2 c16.BH c16.result c16.Ab c16.code)) i5 (A0.mk c20.params q21.2 c20.result c20.Ab c20.code)) i5) fun c24=>
   Option.bind (Sh.get (Sh.put (Sh.put (Sh.put l6 i5 (A0.mk q17.2 c16.BH c16.result c16.Ab c16.code)) i5 (A0.mk c20.params q21.2 c20.result c20.Ab c20.code)) i5 (A0.mk c24.params c24.BH q21.1 c24.Ab c24.code)) i5) fun c27=>
   Option.bind (Sh.get (Sh.put (Sh.put (Sh.put (Sh.put l6 i5 (A0.mk q17.2 c16.BH c16.result c16.Ab c16.code)) i5 (A0.mk c20.params q21.2 c20.result c20.Ab c20.code)) i5 (A0.mk c24.params c24.BH q21.1 c24.Ab c24.code)) i5 (A0.mk c27.params c27.BH c27.result (Sh.w (q21.1+1)) c27.code)) i5) fun c29=>
   Option.bind (GJ N c29.code (Sh.w ((Sh.w (q21.1+1)) + 1))) fun q30=>
   DN N n q30.1 (Sh.w (i5+1)) (Sh.put (Sh.put (Sh.put (Sh.put (Sh.put l6 i5 (A0.mk q17.2 c16.BH c16.result c16.Ab c16.code)) i5 (A0.mk c20.params q21.2 c20.result c20.Ab c20.code)) i5 (A0.mk c24.params c24.BH q21.1 c24.Ab c24.code)) i5 (A0.mk c27.params c27.BH c27.result (Sh.w (q21.1+1)) c27.code)) i5 (A0.mk c29.params c29.BH c29.result c29.Ab q30.2))
  else
   some (k4,l6)
def Gi (N:Nat) (s0:(List A0)) (p1:Int):Option (Int×(List A0)):=
 Option.bind (DN N N p1 0 s0) fun (k7,l8)=>
 some (k7,l8)
def Gh (N:Nat) (s0:(List An)) (s1:(List A0)) (p1:Int):Option (Int×(List An)×(List A0)):=
 Option.bind (Gj N s0 p1) fun q3=>
 Option.bind (Gi N s1 q3.1) fun q6=>
 some (q6.1,q3.2,q6.2)
end RC


namespace RC
def DA (N:Nat):Nat→Int→Int→(List Ai)→Option (Int×(List Ai))
 | 0,_,_,_=>none
 | n+1,k4,i5,l6=>
  if (decide (i5 < (Sh.len l6)))=true then
   Option.bind (Sh.get l6 i5) fun c16=>
   Option.bind (Sh.get (Sh.put l6 i5 (Ai.mk k4 c16.at_ c16.dst c16.Ab c16.own c16.held)) i5) fun c19=>
   Option.bind (Sh.get (Sh.put (Sh.put l6 i5 (Ai.mk k4 c16.at_ c16.dst c16.Ab c16.own c16.held)) i5 (Ai.mk c19.proc (Sh.w (k4+1)) c19.dst c19.Ab c19.own c19.held)) i5) fun c22=>
   Option.bind (Sh.get (Sh.put (Sh.put (Sh.put l6 i5 (Ai.mk k4 c16.at_ c16.dst c16.Ab c16.own c16.held)) i5 (Ai.mk c19.proc (Sh.w (k4+1)) c19.dst c19.Ab c19.own c19.held)) i5 (Ai.mk c22.proc c22.at_ (Sh.w ((Sh.w (k4+1)) + 1)) c22.Ab c22.own c22.held)) i5) fun c25=>
   Option.bind (Bx N c25.Ab (Sh.w ((Sh.w ((Sh.w (k4+1)) + 1)) + 1))) fun q26=>
   Option.bind (Sh.get (Sh.put (Sh.put (Sh.put (Sh.put l6 i5 (Ai.mk k4 c16.at_ c16.dst c16.Ab c16.own c16.held)) i5 (Ai.mk c19.proc (Sh.w (k4+1)) c19.dst c19.Ab c19.own c19.held)) i5 (Ai.mk c22.proc c22.at_ (Sh.w ((Sh.w (k4+1)) + 1)) c22.Ab c22.own c22.held)) i5 (Ai.mk c25.proc c25.at_ c25.dst q26.2 c25.own c25.held)) i5) fun c29=>
   Option.bind (Bx N c29.own q26.1) fun q30=>
   Option.bind (Sh.get (Sh.put (Sh.put (Sh.put (Sh.put (Sh.put l6 i5 (Ai.mk k4 c16.at_ c16.dst c16.Ab c16.own c16.held)) i5 (Ai.mk c19.proc (Sh.w (k4+1)) c19.dst c19.Ab c19.own c19.held)) i5 (Ai.mk c22.proc c22.at_ (Sh.w ((Sh.w (k4+1)) + 1)) c22.Ab c22.own c22.held)) i5 (Ai.mk c25.proc c25.at_ c25.dst q26.2 c25.own c25.held)) i5 (Ai.mk c29.proc c29.at_ c29.dst c29.Ab q30.2 c29.held)) i5) fun c32=>
   Option.bind (Bx N c32.held q30.1) fun q33=>
   DA N n q33.1 (Sh.w (i5+1)) (Sh.put (Sh.put (Sh.put (Sh.put (Sh.put (Sh.put l6 i5 (Ai.mk k4 c16.at_ c16.dst c16.Ab c16.own c16.held)) i5 (Ai.mk c19.proc (Sh.w (k4+1)) c19.dst c19.Ab c19.own c19.held)) i5 (Ai.mk c22.proc c22.at_ (Sh.w ((Sh.w (k4+1)) + 1)) c22.Ab c22.own c22.held)) i5 (Ai.mk c25.proc c25.at_ c25.dst q26.2 c25.own c25.held)) i5 (Ai.mk c29.proc c29.at_ c29.dst c29.Ab q30.2 c29.held)) i5 (Ai.mk c32.proc c32.at_ c32.dst c32.Ab c32.own q33.2))
  else
   some (k4,l6)
def F3 (N:Nat) (s0:(List Ai)) (p1:Int):Option (Int×(List Ai)):=
 Option.bind (DA N N p1 0 s0) fun (k7,l8)=>
 some (k7,l8)
def Gl (N:Nat) (s0:(List Int)) (s1:(List Cell)) (s2:(List Ai)) (p0_0:Int) (p0_1:Int) (p0_2:Int) (p0_3:Int) (p1:Int):Option (Int×(List Int)×(List Cell)×(List Ai)):=
 Option.bind (Bx N s0 p1) fun q3=>
 Option.bind (Gm N s1 q3.1) fun q6=>
 Option.bind (F3 N s2 q6.1) fun q9=>
 some (q9.1,q3.2,q6.2,q9.2)
end RC


namespace RC
def Ea (N:Nat) (p1:(List Int)):Nat→Int→(List Int)→Option ((List Int))
 | 0,_,_=>none
 | n+1,i6,l7=>
  if (decide (i6 < (Sh.len p1)))=true then
   Option.bind (Sh.get p1 i6) fun c15=>
   Option.bind (FG N l7 c15) fun q16=>
   Ea N p1 n (Sh.w (i6+1)) q16
  else
   some l7
def IF (N:Nat) (p0:(List Int)) (p1:(List Int)):Option ((List Int)):=
 Option.bind (GF p0) fun q3=>
 Option.bind (Ea N p1 N 0 q3) fun l8=>
 some l8
def DY (p0:(List Int)) (p1:Int):Nat→Int→(List Int)→Option ((List Int))
 | 0,_,_=>none
 | n+1,i5,l6=>
  if (decide (i5 < (Sh.len p0)))=true then
   Option.bind (
    Option.bind (Sh.get p0 i5) fun c17=>
    if (!decide (c17=p1))=true then
     Option.bind (Sh.app l6 [c17] 8) fun l20=>
     some l20
    else
     some l6
   ) fun l14=>
   DY p0 p1 n (Sh.w (i5+1)) l14
  else
   some l6
def EX (N:Nat) (p0:(List Int)) (p1:Int):Option ((List Int)):=
 Option.bind (DY p0 p1 N 0 []) fun l7=>
 some l7
def EB (N:Nat) (p0:Ag):Nat→Int→(List Int)→Option ((List Int))
 | 0,_,_=>none
 | n+1,k13,l14=>
  if (decide (k13 < (Sh.len p0.args)))=true then
   Option.bind (Sh.get p0.args k13) fun c21=>
   Option.bind (FG N l14 c21) fun q22=>
   EB N p0 n (Sh.w (k13+1)) q22
  else
   some l14
def Il (N:Nat) (p0:Ag):Option ((List Int)):=
 Option.bind (
  Option.bind (
   if (!decide (p0.op=14))=true then
    some (!decide (p0.op=15))
   else
    some false
  ) fun t8=>
  if t8=true then
   Option.bind (EB N p0 N 0 []) fun l15=>
   some l15
  else
   some []
 ) fun l4=>
 some l4
def DI (N:Nat) (l7:(List (List Int))) (q17:(List Int)):Nat→Int→(List Int)→Option ((List Int))
 | 0,_,_=>none
 | n+1,k20,l21=>
  if (decide (k20 < (Sh.len q17)))=true then
   Option.bind (Sh.get q17 k20) fun c40=>
   Option.bind (Sh.get l7 c40) fun c41=>
   Option.bind (IF N l21 c41) fun q42=>
   DI N l7 q17 n (Sh.w (k20+1)) q42
  else
   some l21
def Dt (N:Nat) (p0:(List Ag)) (p1:Int):Nat→Int→(List (List Int))→Option ((List (List Int)))
 | 0,_,_=>none
 | n+1,at6,l7=>
  if (decide (p1≤at6))=true then
   Option.bind (IP N p0 at6) fun q17=>
   Option.bind (DI N l7 q17 N 0 []) fun l22=>
   Option.bind (
    Option.bind (Sh.get p0 at6) fun c32=>
    Option.bind (I2 c32.op) fun q33=>
    if q33=true then
     Option.bind (EX N l22 c32.dst) fun q35=>
     some q35
    else
     some l22
   ) fun l25=>
   Option.bind (Sh.get p0 at6) fun c27=>
   Option.bind (Il N c27) fun q28=>
   Option.bind (IF N l25 q28) fun q29=>
   Option.bind (Sh.get l7 at6) fun c30=>
   Dt N p0 p1 n (Sh.w (at6 - 1)) (Sh.put l7 at6 q29)
  else
   some l7
def HD (N:Nat) (p0:(List Ag)) (p1:Int):Option ((List (List Int))):=
 Option.bind (Sh.mk [] (Sh.len p0) 24) fun l3=>
 Option.bind (Dt N p0 p1 N (Sh.w ((Sh.len p0) - 1)) l3) fun l8=>
 some l8
def Ca (c23:Ag):Nat→Int→(List Bool)→Option ((List Bool))
 | 0,_,_=>none
 | n+1,t43,l44=>
  if (decide (t43 < (Sh.len c23.args)))=true then
   Option.bind (Sh.get c23.args t43) fun c52=>
   Option.bind (Sh.get l44 c52) fun c53=>
   Ca c23 n (Sh.w (t43+1)) (Sh.put l44 c52 true)
  else
   some l44
def DH (c66:(List Bool)):Nat→Int→(List Bool)→Option ((List Bool))
 | 0,_,_=>none
 | n+1,t68,l69=>
  if (decide (t68 < (Sh.len c66)))=true then
   Option.bind (
    Option.bind (Sh.get c66 t68) fun c79=>
    Option.bind (Sh.get l69 t68) fun c80=>
    if c80=true then
     some (Sh.put l69 t68 true)
    else
     some (Sh.put l69 t68 c79)
   ) fun l76=>
   DH c66 n (Sh.w (t68+1)) l76
  else
   some l69
def DJ (N:Nat) (k8:Int) (l9:(List (List Bool))) (q29:(List Int)):Nat→Int→(List Bool)→Option ((List Bool))
 | 0,_,_=>none
 | n+1,t30,l31=>
  if (decide (t30 < (Sh.len q29)))=true then
   Option.bind (Sh.get q29 t30) fun c64=>
   Option.bind (Sh.get l9 c64) fun c66=>
   Option.bind (Sh.apart k8 c64) fun u67=>
   Option.bind (DH c66 N 0 l31) fun l70=>
   DJ N k8 l9 q29 n (Sh.w (t30+1)) l70
  else
   some l31
def Du (N:Nat) (c3:A0) (p2:Int):Nat→Int→(List (List Bool))→Option ((List (List Bool)))
 | 0,_,_=>none
 | n+1,k8,l9=>
  if (decide (p2≤k8))=true then
   Option.bind (
    Option.bind (Sh.get c3.code k8) fun c23=>
    Option.bind (Sh.mk false c3.Ab 1) fun l25=>
    Option.bind (Sh.get l9 k8) fun c26=>
    Option.bind (Fi c23 k8) fun q29=>
    Option.bind (DJ N k8 l9 q29 N 0 l25) fun l32=>
    Option.bind (
     Option.bind (Et c23.op) fun q56=>
     if q56=true then
      Option.bind (Sh.get l32 c23.dst) fun c58=>
      some (Sh.put l32 c23.dst false)
     else
      some l32
    ) fun l35=>
    Option.bind (
     if (!decide (c23.op=14))=true then
      some (!decide (c23.op=15))
     else
      some false
    ) fun t38=>
    if t38=true then
     Option.bind (Ca c23 N 0 l35) fun l45=>
     some l45
    else
     some l35
   ) fun l19=>
   Option.bind (Sh.get l9 k8) fun c21=>
   Du N c3 p2 n (Sh.w (k8 - 1)) (Sh.put l9 k8 l19)
  else
   some l9
def HF (N:Nat) (p0:Au) (p1:Int) (p2:Int):Option ((List Int)):=
 Option.bind (Sh.get p0.procs p1) fun c3=>
 Option.bind (Sh.mk [] (Sh.len c3.code) 24) fun l5=>
 Option.bind (Du N c3 p2 N (Sh.w ((Sh.len c3.code) - 1)) l5) fun l10=>
 Option.bind (Sh.get l10 p2) fun c13=>
 Option.bind (E8 N c13) fun q14=>
 some q14
end RC


namespace RC
def Dd (p0:Ai) (p1:(List Int)):Nat→Int→(List Int)→Option ((List Int))
 | 0,_,_=>none
 | n+1,k5,l6=>
  if (decide (k5 < (Sh.len p1)))=true then
   Option.bind (Sh.get p1 k5) fun c14=>
   Option.bind (Sh.get p0.Ab c14) fun c15=>
   Option.bind (Sh.app l6 [c15] 8) fun l16=>
   Dd p0 p1 n (Sh.w (k5+1)) l16
  else
   some l6
def Hj (N:Nat) (p0:Ai) (p1:(List Int)):Option ((List Int)):=
 Option.bind (Dd p0 p1 N 0 []) fun l7=>
 some l7
def DL (N:Nat) (p0:Au) (p1:Av):Nat→Int→(List Int)→Option ((List Int))
 | 0,_,_=>none
 | n+1,k5,l6=>
  if (decide (k5 < (Sh.len p1.AT)))=true then
   Option.bind (Sh.get p1.AT k5) fun c15=>
   Option.bind (Sh.get p0.procs c15.proc) fun c17=>
   Option.bind (HD N c17.code c15.at_) fun q18=>
   Option.bind (Sh.get q18 c15.at_) fun c19=>
   Option.bind (
    if (decide (k5 < (Sh.w ((Sh.len p1.AT) - 1))))=true then
     Option.bind (Sh.get p1.AT (Sh.w (k5+1))) fun c27=>
     Option.bind (EX N c19 c27.dst) fun q28=>
     some q28
    else
     some c19
   ) fun live21=>
   Option.bind (Hj N c15 live21) fun q23=>
   Option.bind (Sh.app l6 q23 8) fun l24=>
   DL N p0 p1 n (Sh.w (k5+1)) l24
  else
   some l6
def Gk (N:Nat) (p0:Au) (p1:Av):Option ((List Int)):=
 Option.bind (DL N p0 p1 N 0 []) fun l7=>
 some l7
def CG (c16:Ai) (p1:Av) (q18:(List Int)) (t5:Int):Nat→Int→(List Int)→Option ((List Int))
 | 0,_,_=>none
 | n+1,t19,l20=>
  if (decide (t19 < (Sh.len q18)))=true then
   Option.bind (
    Option.bind (Sh.get q18 t19) fun c30=>
    Option.bind (
     if (decide (t5=(Sh.w ((Sh.len p1.AT) - 1))))=true then
      some true
     else
      Option.bind (Sh.get p1.AT (Sh.w (t5+1))) fun c38=>
      some (!decide (c30=c38.dst))
    ) fun t32=>
    if t32=true then
     Option.bind (Sh.get c16.Ab c30) fun c35=>
     Option.bind (Sh.app l20 [c35] 8) fun l36=>
     some l36
    else
     some l20
   ) fun l27=>
   CG c16 p1 q18 t5 n (Sh.w (t19+1)) l27
  else
   some l20
def Ce (N:Nat) (p0:Au) (p1:Av):Nat→Int→(List Int)→Option ((List Int))
 | 0,_,_=>none
 | n+1,t5,l6=>
  if (decide (t5 < (Sh.len p1.AT)))=true then
   Option.bind (Sh.get p1.AT t5) fun c16=>
   Option.bind (HF N p0 c16.proc c16.at_) fun q18=>
   Option.bind (CG c16 p1 q18 t5 N 0 l6) fun l21=>
   Ce N p0 p1 n (Sh.w (t5+1)) l21
  else
   some l6
def Fk (N:Nat) (p0:Au) (p1:Av):Option ((List Int)):=
 Option.bind (Ce N p0 p1 N 0 []) fun l7=>
 Option.bind (Gu N p1.heap l7) fun q10=>
 some q10
end RC


namespace RC
def Da (N:Nat) (p1:Av) (q11:(List Int)):Nat→Int→(List Int)→Option ((List Int))
 | 0,_,_=>none
 | n+1,i15,l16=>
  if (decide (i15 < (Sh.len p1.heap)))=true then
   Option.bind (
    Option.bind (
     Option.bind (Sh.get p1.heap i15) fun c31=>
     if (decide (0 < c31.count))=true then
      Option.bind (J4 N q11 i15) fun q33=>
      some (!q33)
     else
      some false
    ) fun t27=>
    if t27=true then
     Option.bind (Sh.app l16 [i15] 8) fun l30=>
     some l30
    else
     some l16
   ) fun l24=>
   Da N p1 q11 n (Sh.w (i15+1)) l24
  else
   some l16
def Hm (N:Nat) (p0:Au) (p1:Av):Option ((List Int)):=
 Option.bind (B2 N p0 p1) fun q4=>
 if (!q4)=true then
  some []
 else
  Option.bind (Gk N p0 p1) fun q10=>
  Option.bind (FK N p1.heap q10) fun q11=>
  Option.bind (Da N p1 q11 N 0 []) fun l17=>
  some l17
def BX (p0:(List Int)) (p1:Int):Nat→Int→Option ((Int) ⊕ (Unit))
 | 0,_=>none
 | n+1,t4=>
  if (decide (t4 < (Sh.len p0)))=true then
   Option.bind (Sh.get p0 t4) fun c13=>
   if (decide (p1=c13))=true then
    some (Sum.inl t4)
   else
    BX p0 p1 n (Sh.w (t4+1))
  else
   some (Sum.inr ())
def FV (N:Nat) (p0:(List Int)) (p1:Int):Option (Int):=
 Sh.cont (BX p0 p1 N 0) (id) fun ()=>
 some (-1)
def D4 (N:Nat) (p0:(List Int)) (p1:Int):Option (Bool):=
 Option.bind (FV N p0 p1) fun q3=>
 some (decide (0≤q3))
def Dc (N:Nat) (p1:Av) (q10:(List Int)):Nat→Int→(List Int)→Option ((List Int))
 | 0,_,_=>none
 | n+1,t14,l15=>
  if (decide (t14 < (Sh.len p1.heap)))=true then
   Option.bind (
    Option.bind (Sh.get p1.heap t14) fun c26=>
    Option.bind (
     if (decide (0 < c26.count))=true then
      Option.bind (D4 N q10 t14) fun q33=>
      some (!q33)
     else
      some false
    ) fun t28=>
    if t28=true then
     Option.bind (Sh.app l15 [t14] 8) fun l31=>
     some l31
    else
     some l15
   ) fun l23=>
   Dc N p1 q10 n (Sh.w (t14+1)) l23
  else
   some l15
def Gv (N:Nat) (p0:Au) (p1:Av):Option ((List Int)):=
 Option.bind (FM N p0 p1) fun q4=>
 if (!q4)=true then
  some []
 else
  Option.bind (Fk N p0 p1) fun q10=>
  Option.bind (Dc N p1 q10 N 0 []) fun l16=>
  some l16
def Fp (N:Nat) (p0:Au) (p1:Av):Option (Bool):=
 Option.bind (Hs N p0 1048576) fun q4=>
 if (decide (q4 < 0))=true then
  some true
 else
  Option.bind (Hz N p1 q4) fun q10=>
  if (decide (q10 < 0))=true then
   some true
  else
   Option.bind (FL N p0) fun q16=>
   Option.bind (FJ N p1) fun q17=>
   Option.bind (Hm N q16 q17) fun q18=>
   Option.bind (FL N p0) fun q20=>
   Option.bind (FJ N p1) fun q22=>
   Option.bind (Gv N q20 q22) fun q24=>
   Option.bind (B7 N q24 q18) fun q27=>
   if (!q27)=true then
    some false
   else
    Option.bind (FL N p0) fun q34=>
    Option.bind (Hf N q20 q34) fun q35=>
    if (!q35)=true then
     some false
    else
     Option.bind (FJ N p1) fun q42=>
     Option.bind (Ho N q22 q42) fun q43=>
     if (!q43)=true then
      some false
     else
      Option.bind (Gh N q20.decls q20.procs 1) fun q50=>
      Option.bind (Gl N q22.out q22.heap q22.AT q22.status q22.value q22.calls q22.CV q50.1) fun q54=>
      Option.bind (
       if (decide (q54.1 < 0))=true then
        some true
       else
        Option.bind (B7 N q24 q18) fun q107=>
        some (!q107)
      ) fun t60=>
      if t60=true then
       some false
      else
       Option.bind (Bx N q24 1) fun q66=>
       Option.bind (GC N q66.2 1) fun q70=>
       if (decide (q70 < 0))=true then
        some false
       else
       if (!decide (q70=q66.1))=true then
        some false
       else
        Option.bind (FL N p0) fun q82=>
        Option.bind (FJ N p1) fun q83=>
        Option.bind (Gv N q82 q83) fun q84=>
        Option.bind (B7 N q84 q18) fun q87=>
        if (!q87)=true then
         some false
        else
         Option.bind (GC N q66.2 1) fun q94=>
         if (decide (q94 < 0))=true then
          some false
         else
         if (!decide (q94=q66.1))=true then
          some false
         else
          some true
end RC

