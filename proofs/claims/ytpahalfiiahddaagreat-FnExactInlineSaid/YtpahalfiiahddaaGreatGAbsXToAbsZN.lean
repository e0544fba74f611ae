import Derived.Test.YtpahalfiiahddaaGreatAbsW
import Derived.Lib.AppendZerosOnto
import Derived.OrdersHeld

namespace Go.Abs
open Go
def OP:AV→Bool
 | .int .. | .bool _ | .str _ | .zc | .PG | .O1 | .dv ..=>true
 | _=>false
def Ru (xs:List (List AV)):Prop:=∀x∈xs,∀c∈x,OP c=true
theorem Wj {F S:Nat→Prop} {w:World} {os:List Own} {c:AV} {u:Value} (hc:OP c=true) (hd :∀e s ys,c≠.dv e s ys) (h:Ae F w os c u):DG S w c u:=by
 cases c <;> simp only[OP,Bool.false_eq_true] at hc <;> simp only[Ae] at h <;> simp only[DG] <;> first | exact h | exact absurd rfl (hd _ _ _)
theorem Mu {F S:Nat→Prop} {w:World} {os:List Own} {c:AV} {u:Value} (h:DG S w c u):Ae F w os c u∧c.kept=true∧OP c=true:=by
 cases c <;> simp only[DG] at h
 case dv=>
  refine⟨?_,rfl,rfl⟩
  simp only[Ae]
  rcases h.2 with ⟨_,a,rfl⟩ | ⟨b,cap,cur,rfl,_⟩ <;> exact⟨_,_,_,rfl⟩
 all_goals first | exact h.elim | exact⟨by simp only[Ae];exact h,rfl,rfl⟩
theorem Vj {w:World} {cur:Array Value} {D:Nat→Nat→Prop} (hdis :∀j j' b,D j b→D j' b→j=j') :∀(x:List AV) (o j0:Nat),(∀(j:Nat) c,x[j]?=some c→∃u,cur[o+j]?=some u∧DG (D (j0+j)) w c u)→
  Jw (fun b=>∃j,j0≤j∧D j b) w x cur o
 | [],_,_,_=>by simp[Jw]
 | c :: r,o,j0,h=>by
  simp only[Jw]
  obtain⟨u,h1,h2⟩:=h 0 c rfl
  refine⟨D j0,fun b=>∃j,j0+1≤j∧D j b,fun b hb=>⟨j0,Nat.le_refl _,hb⟩,fun b ⟨j,hj,hb⟩=>⟨j,by omega,hb⟩,fun b hb ⟨j,hj,hb'⟩=>by have:=hdis _ _ _ hb hb';omega,⟨u,h1,h2⟩,?_⟩
  exact Vj hdis r (o+1) (j0+1) fun j c hc=>by
   obtain⟨u,h1,h2⟩:=h (j+1) c (by simpa using hc)
   exact⟨u,by rw[← h1];congr 1;omega,by rw[show j0+1+j=j0+(j+1) by omega];exact h2⟩
theorem VR {w:World} {cur:Array Value} {size:Nat} {D:Nat→Nat→Nat→Prop} (hdis :∀i j i' j' b,D i j b→D i' j' b→i=i'∧j=j') :∀(xs:List (List AV)) (o i0:Nat),(∀x∈xs,x.length=size)→
  (∀(i:Nat) x,xs[i]?=some x→∀(j:Nat) c,x[j]?=some c→∃u,cur[o+i * size+j]?=some u∧DG (D (i0+i) j) w c u)→Jt (fun b=>∃i j,i0≤i∧D i j b) w xs cur o
 | [],_,_,_,_=>by simp[Jt]
 | x :: r,o,i0,hs,h=>by
  simp only[Jt]
  refine⟨fun b=>∃j,0≤j∧D i0 j b,fun b=>∃i j,i0+1≤i∧D i j b,fun b ⟨j,_,hb⟩=>⟨i0,j,Nat.le_refl _,hb⟩,fun b ⟨i,j,hi,hb⟩=>⟨i,j,by omega,hb⟩,fun b ⟨j,_,hb⟩ ⟨i,j',hi,hb'⟩=>by have:=(hdis _ _ _ _ _ hb hb').1;omega,?_,?_⟩
  ·exact Vj (D:=D i0) (fun j j' b h1 h2=>(hdis _ _ _ _ _ h1 h2).2) x o 0 fun j c hc=>by
    obtain⟨u,h1,h2⟩:=h 0 x rfl j c hc
    exact⟨u,by rw[← h1];congr 1;omega,by simpa using h2⟩
  ·rw[hs x (by simp)]
   exact VR hdis r (o+size) (i0+1) (fun x hx=>hs x (by simp[hx])) fun i y hy j c hc=>by
    obtain⟨u,h1,h2⟩:=h (i+1) y (by simpa using hy) j c hc
    exact⟨u,by rw[← h1];congr 1;rw[Nat.add_mul];omega,by rw[show i0+1+i=i0+(i+1) by omega];exact h2⟩
theorem UE {w:World} {cur:Array Value} :∀{x:List AV} {S:Nat→Prop} {o:Nat},Jw S w x cur o→∃D:Nat→Nat→Prop,(∀j b,D j b→S b)∧(∀j j' b,D j b→D j' b→j=j')∧
  ∀(j:Nat) c,x[j]?=some c→∃u,cur[o+j]?=some u∧DG (D j) w c u
 | [],_,_,_=>⟨fun _ _=>False,fun _ _ h=>h.elim,fun _ _ _ h=>h.elim,fun j c h=>by simp at h⟩
 | c :: r,S,o,h=>by
  simp only[Jw] at h
  obtain⟨S1,S2,h1,h2,h3,⟨u,h4,h5⟩,h6⟩:=h
  obtain⟨D,d1,d2,d3⟩:=UE h6
  refine⟨fun j=>match j with | 0=>S1 | j+1=>D j,fun j b hb=>?_,fun j j' b hb hb'=>?_,fun j c' hc=>?_⟩
  ·cases j with
   | zero=>exact h1 b hb
   | succ j=>exact h2 b (d1 j b hb)
  ·cases j with
   | zero=>
    cases j' with
    | zero=>rfl
    | succ j'=>exact absurd (d1 j' b hb') (h3 b hb)
   | succ j=>
    cases j' with
    | zero=>exact absurd (d1 j b hb) (h3 b hb')
    | succ j'=>rw[d2 j j' b hb hb']
  ·cases j with
   | zero=>simp only[List.getElem?_cons_zero,Option.some.injEq] at hc;subst hc;exact⟨u,h4,h5⟩
   | succ j=>
    obtain⟨u',g1,g2⟩:=d3 j c' (by simpa using hc)
    exact⟨u',by rw[← g1];congr 1;omega,g2⟩
theorem TV {w:World} {cur:Array Value} {size:Nat} :∀{xs:List (List AV)} {S:Nat→Prop} {o:Nat},(∀x∈xs,x.length=size)→Jt S w xs cur o→∃D:Nat→Nat→Nat→Prop,(∀i j b,D i j b→S b)∧
  (∀i j i' j' b,D i j b→D i' j' b→i=i'∧j=j')∧∀(i:Nat) x,xs[i]?=some x→∀(j:Nat) c,x[j]?=some c→∃u,cur[o+i * size+j]?=some u∧DG (D i j) w c u
 | [],_,_,_,_=>⟨fun _ _ _=>False,fun _ _ _ h=>h.elim,fun _ _ _ _ _ h=>h.elim,fun i x h=>by simp at h⟩
 | x :: r,S,o,hs,h=>by
  simp only[Jt] at h
  obtain⟨S1,S2,h1,h2,h3,h4,h5⟩:=h
  obtain⟨E,e1,e2,e3⟩:=UE h4
  obtain⟨D,d1,d2,d3⟩:=TV (fun x hx=>hs x (by simp[hx])) h5
  refine⟨fun i=>match i with | 0=>E | i+1=>D i,fun i j b hb=>?_,fun i j i' j' b hb hb'=>?_,fun i y hy j c hc=>?_⟩
  ·cases i with
   | zero=>exact h1 b (e1 j b hb)
   | succ i=>exact h2 b (d1 i j b hb)
  ·cases i with
   | zero=>
    cases i' with
    | zero=>exact⟨rfl,e2 j j' b hb hb'⟩
    | succ i'=>exact absurd (d1 i' j' b hb') (h3 b (e1 j b hb))
   | succ i=>
    cases i' with
    | zero=>exact absurd (d1 i j b hb) (h3 b (e1 j' b hb'))
    | succ i'=>
     obtain⟨q1,q2⟩:=d2 i j i' j' b hb hb'
     exact⟨by rw[q1],q2⟩
  ·cases i with
   | zero=>
    simp only[List.getElem?_cons_zero,Option.some.injEq] at hy;subst hy
    obtain⟨u,g1,g2⟩:=e3 j c hc
    exact⟨u,by rw[← g1];congr 1;omega,g2⟩
   | succ i=>
    obtain⟨u,g1,g2⟩:=d3 i y (by simpa using hy) j c hc
    rw[hs x (by simp)] at g1
    exact⟨u,by rw[← g1];congr 1;rw[Nat.add_mul];omega,g2⟩
variable {P : Program} {F : Nat → Prop} {os : List Own} {s : St} {a : Act} {w : World} {k : Nat}
theorem SY {p:Own} (h:KO F w os p) (hd:Ru p.row.xs) {v:Value} (hv:(p.Eb=none∧∃a,v=.slice a p.row.xs.length 0)∨∃b,p.Eb=some b∧v=.slice (some ⟨b,0,none⟩) p.row.xs.length p.cap) :
  DG p.owns w (.dv p.row.elem p.row.size p.row.xs) v:=by
 simp only[DG]
 refine⟨h.pos,?_⟩
 rcases hv with ⟨hb,a,rfl⟩ | ⟨b,hb,rfl⟩
 ·have:=(h.none hb).1
  exact .inl ⟨this,a,by rw[this];rfl⟩
 ·obtain⟨_,cur,hcur,hsz,hle,hmax,hcells⟩:=h.some b hb
  obtain⟨D,d1,d2,d3⟩:=h.deep
  refine .inr ⟨b,p.cap,cur,rfl,hle,hmax,.inl hb,hcur,hsz,fun x hx=>(h.lens x hx).1,?_⟩
  have:=VR (w:=w) (cur:=cur) (size:=p.row.size) d2 p.row.xs 0 0 (fun x hx=>(h.lens x hx).1) (fun i x hx j c hc=>by
   simp only[Nat.zero_add]
   by_cases hdv :∃e s ys,c=.dv e s ys
   ·obtain⟨e,s,ys,rfl⟩:=hdv
    exact d3 b hb cur _ _ hcur i x j e s ys hx hc
   ·obtain⟨u,g1,g2⟩:=hcells i x hx j c hc
    exact⟨u,g1,Wj (hd x (List.mem_of_getElem? hx) c (List.mem_of_getElem? hc)) (fun e s ys e'=>hdv ⟨e,s,ys,e'⟩) g2⟩)
  exact OJ (fun c ⟨i,j,_,hc⟩=>⟨.inr (d1 i j c hc),fun e=>(h.mo c (d1 i j c hc)).2.2 (by rw[hb,e])⟩) (fun _ _=>rfl) _ _ _ this
theorem JS {id m g gm size sz n i j nn:Nat} {el el':TypeId} {xs ys:List (List AV)} {x:List AV} {e:Nat→AV} {st st':List Row} (hrow:st[id]?=some ⟨g,el,size,xs⟩) (hx:xs[i]?=some x) (hc:x[j]?=some (.own m gm n))
  (hm:st[m]?=some ⟨gm,el',sz,ys⟩) (hn:n=ys.length) (hne:id≠m) (hkm:k≤m) (hd:Ru ys) (hst:(st.set id ⟨g,el,size,xs.set i (x.set j (.dv el' sz ys))⟩).set m ⟨gm+1,el',sz,[]⟩=st') :
  Wk k ⟨nn,e,st⟩ ⟨nn,e,st'⟩:=fun F os a w hr=>by
 subst hst;subst hn
 obtain⟨o,ho,hor⟩:=hr.row hrow
 obtain⟨p,hp,hpr⟩:=hr.row hm
 have hok:=hr.rows id o ho
 have hpk:=hr.rows m p hp
 have hst:os.map Own.row=st:=hr.st
 have hxs:o.row.xs=xs:=by rw[hor]
 have hpx:p.row.xs=ys:=by rw[hpr]
 let o':Own:={ o with row:={ o.row with xs:=xs.set i (x.set j (.dv el' sz ys)) },more:=fun b=>o.more b∨p.owns b }
 let p':Own:=⟨{ p.row with gen:=p.row.gen+1,xs:=[] },none,0,Dv⟩
 have hil:i < xs.length:=(List.getElem?_eq_some_iff.1 hx).1
 have hjl:j < x.length:=(List.getElem?_eq_some_iff.1 hc).1
 have hidl:=(List.getElem?_eq_some_iff.1 ho).1
 have hml:=(List.getElem?_eq_some_iff.1 hp).1
 have hdis :∀b,o.owns b→¬ p.owns b:=fun b h1 h2=>hne (hr.inj id m o p b ho hp h1 h2)
 have hget :∀(q:Nat) (oq:Own),((os.set id o').set m p')[q]?=some oq→(q≠id∧q≠m∧os[q]?=some oq)∨(q=id∧oq=o')∨(q=m∧oq=p'):=fun q oq hq=>by
  by_cases e:q=m
  ·subst e
   rw[List.getElem?_set_self (by simpa using hml),Option.some.injEq] at hq
   exact .inr (.inr ⟨rfl,hq.symm⟩)
  ·rw[List.getElem?_set_ne (Ne.symm e)] at hq
   by_cases e2:q=id
   ·subst e2
    rw[List.getElem?_set_self hidl,Option.some.injEq] at hq
    exact .inr (.inl ⟨rfl,hq.symm⟩)
   ·rw[List.getElem?_set_ne (Ne.symm e2)] at hq
    exact .inl ⟨e2,e,hq⟩
 have hos:D3 os ((os.set id o').set m p'):=fun q oq hq=>by
  by_cases e:q=m
  ·subst e
   rw[hp] at hq;cases hq
   exact⟨p',List.getElem?_set_self (by simpa using hml),Nat.le_succ _,rfl,fun e=>by simp[p'] at e⟩
  ·rw[List.getElem?_set_ne (Ne.symm e)]
   by_cases e2:q=id
   ·subst e2
    rw[ho] at hq;cases hq
    exact⟨o',List.getElem?_set_self hidl,Nat.le_refl _,rfl,fun _=>⟨rfl,rfl,by simp[o',hxs]⟩⟩
   ·rw[List.getElem?_set_ne (Ne.symm e2)]
    exact⟨oq,hq,Nat.le_refl _,rfl,fun _=>⟨rfl,rfl,rfl⟩⟩
 have hmono :∀y v,Ae F w os y v→Ae F w ((os.set id o').set m p') y v:=fun y v h=>B6 (fun _ h=>h) (fun _ _=>rfl) os _ hos y v h
 have howns :∀b,o'.owns b→o.owns b∨p.owns b:=fun b hb=>by
  rcases hb with hb | hb | hb
  ·exact .inl (.inl hb)
  ·exact .inl (.inr hb)
  ·exact .inr hb
 have hpn :∀b,¬ p'.owns b:=fun b hb=>by
  rcases hb with hb | hb
  ·simp[p'] at hb
  ·exact hb
 obtain⟨bo,hbo⟩ :∃b,o.Eb=some b:=by
  cases hb:o.Eb with
  | none=>have:=(hok.none hb).1;rw[hxs] at this;rw[this] at hil;simp at hil
  | some b=>exact⟨b,rfl⟩
 obtain⟨hnF,cur,hcur,hsz,hle,hmax,hcells⟩:=hok.some bo hbo
 obtain⟨uv,hu1,hu2⟩:=hcells i x (by rw[hxs];exact hx) j _ hc
 have huv:(p.Eb=none∧∃a,uv=.slice a p.row.xs.length 0)∨∃b,p.Eb=some b∧uv=.slice (some ⟨b,0,none⟩) p.row.xs.length p.cap:=by
  simp only[Ae] at hu2
  obtain⟨q,hq,_,_,hv⟩:=hu2
  rw[hp] at hq;cases hq
  have:=(hv (by rw[hpr])).2
  rw[hpx] at this ⊢;simpa only[Nat.sub_self,Nat.zero_mul,Nat.sub_zero] using this
 have hRD:DG p.owns w (.dv el' sz ys) uv:=by
  have:=SY hpk (by rw[hpx];exact hd) huv
  rw[hpr] at this;exact this
 refine⟨F,(os.set id o').set m p',⟨?_,fun t=>hmono _ _ (hr.env t),hr.size,fun q oq hq=>?_,fun q q' oq oq' b hq hq' hb hb'=>?_,hr.EO,hr.defers⟩,⟨rfl,rfl,rfl,Nat.le_refl _,fun _ h=>h,fun _ _=>rfl,fun b _ h1 h2=>⟨rfl,h1,fun oq hoq hb=>?_⟩,fun q oq _ hq=>hos q oq hq⟩⟩
 ·rw[List.map_set,List.map_set,hst]
  simp only[o',p',hor,hpr]
 ·rcases hget q oq hq with ⟨_,_,h⟩ | ⟨_,rfl⟩ | ⟨_,rfl⟩
  ·have h0:=hr.rows q oq h
   refine⟨h0.pos,h0.lens,h0.none,fun b hb=>?_,h0.mo,h0.deep⟩
   obtain⟨e1,cur,e2,e3,e4,e5,e6⟩:=h0.some b hb
   exact⟨e1,cur,e2,e3,e4,e5,fun i' y hy j' c hc=>by obtain⟨u,f1,f2⟩:=e6 i' y hy j' c hc;exact⟨u,f1,hmono _ _ f2⟩⟩
  ·refine⟨hok.pos,fun y hy=>?_,(fun hn=>by simp only[o'] at hn;rw[hbo] at hn;cases hn),fun b hb=>?_,fun b hb=>?_,?_⟩
   ·rcases List.mem_or_eq_of_mem_set hy with hy | rfl
    ·exact hok.lens y (by rw[hxs];exact hy)
    ·have h0:=hok.lens x (by rw[hxs];exact List.mem_of_getElem? hx)
     refine⟨by rw[List.length_set];exact h0.1,fun c hcm=>?_⟩
     rcases List.mem_or_eq_of_mem_set hcm with h | rfl
     ·exact h0.2 c h
     ·rfl
   ·simp only[o'] at hb
    rw[hbo] at hb;cases hb
    refine⟨hnF,cur,hcur,hsz,by simpa [o',hxs] using hle,hmax,fun i' y hy j' c hcy=>?_⟩
    simp only[o'] at hy ⊢
    by_cases hi:i'=i
    ·subst hi
     rw[List.getElem?_set_self hil,Option.some.injEq] at hy
     subst hy
     by_cases hj:j'=j
     ·subst hj
      rw[List.getElem?_set_self hjl,Option.some.injEq] at hcy
      subst hcy
      exact⟨uv,hu1,(Mu hRD).1⟩
     ·rw[List.getElem?_set_ne (Ne.symm hj)] at hcy
      obtain⟨u,f1,f2⟩:=hcells i' x (by rw[hxs];exact hx) j' c hcy
      exact⟨u,f1,hmono _ _ f2⟩
    ·rw[List.getElem?_set_ne (Ne.symm hi)] at hy
     obtain⟨u,f1,f2⟩:=hcells i' y (by rw[hxs];exact hy) j' c hcy
     exact⟨u,f1,hmono _ _ f2⟩
   ·rcases hb with hb | hb
    ·exact hok.mo b hb
    ·exact⟨hpk.nF hb,hpk.lt hb,fun e=>hdis b (.inl e) hb⟩
   ·obtain⟨D,d1,d2,d3⟩:=hok.deep
    refine⟨fun i' j' b=>if i'=i∧j'=j then p.owns b else D i' j' b,fun i' j' b hb=>?_,fun i1 j1 i2 j2 b h1 h2=>?_,fun b hb cur' el2 l hcur' i' y j' e2 s2 zs hy hcy=>?_⟩
    ·simp only at hb
     split at hb
     ·exact .inr hb
     ·exact .inl (d1 i' j' b hb)
    ·simp only at h1 h2
     split at h1 <;> split at h2
     ·rename_i q1 q2;exact⟨q1.1.trans q2.1.symm,q1.2.trans q2.2.symm⟩
     ·exact absurd h1 (hdis b (.inr (d1 _ _ _ h2)))
     ·exact absurd h2 (hdis b (.inr (d1 _ _ _ h1)))
     ·exact d2 _ _ _ _ _ h1 h2
    ·simp only[o'] at hb hy ⊢
     rw[hbo] at hb;cases hb
     rw[hcur] at hcur';cases hcur'
     by_cases hij:i'=i∧j'=j
     ·obtain⟨rfl,rfl⟩:=hij
      rw[List.getElem?_set_self hil,Option.some.injEq] at hy
      subst hy
      rw[List.getElem?_set_self hjl,Option.some.injEq] at hcy
      cases hcy
      exact⟨uv,hu1,by simpa using hRD⟩
     ·have hold :∃y0,o.row.xs[i']?=some y0∧y0[j']?=some (.dv e2 s2 zs):=by
       rw[hxs]
       by_cases hi:i'=i
       ·subst hi
        rw[List.getElem?_set_self hil,Option.some.injEq] at hy
        subst hy
        have hj:j'≠j:=fun e=>hij ⟨rfl,e⟩
        rw[List.getElem?_set_ne (Ne.symm hj)] at hcy
        exact⟨x,hx,hcy⟩
       ·rw[List.getElem?_set_ne (Ne.symm hi)] at hy
        exact⟨y,hy,hcy⟩
      obtain⟨y0,hy0,hc0⟩:=hold
      obtain⟨u,f1,f2⟩:=d3 bo hbo cur _ _ hcur i' y0 j' e2 s2 zs hy0 hc0
      exact⟨u,f1,by simpa only[hij,if_false] using f2⟩
  ·exact⟨hpk.pos,by simp[p'],by simp[p'],by simp[p'],fun b hb=>hb.elim,Cs (by simp[p'])⟩
 ·rcases hget q oq hq with ⟨q1,q2,h⟩ | ⟨rfl,rfl⟩ | ⟨_,rfl⟩ <;> rcases hget q' oq' hq' with ⟨q1',q2',h'⟩ | ⟨rfl,rfl⟩ | ⟨_,rfl⟩
  ·exact hr.inj q q' oq oq' b h h' hb hb'
  ·rcases howns b hb' with e | e
   ·exact hr.inj q _ oq o b h ho hb e
   ·exact absurd (hr.inj q m oq p b h hp hb e) q2
  ·exact absurd hb' (hpn b)
  ·rcases howns b hb with e | e
   ·exact hr.inj _ q' o oq' b ho h' e hb'
   ·exact absurd (hr.inj m q' p oq' b hp h' e hb').symm q2'
  ·rfl
  ·exact absurd hb' (hpn b)
  ·exact absurd hb (hpn b)
  ·exact absurd hb (hpn b)
  ·exact absurd hb (hpn b)
 ·obtain⟨q,hq⟩:=List.mem_iff_getElem?.1 hoq
  rcases hget q oq hq with ⟨_,_,h⟩ | ⟨_,rfl⟩ | ⟨_,rfl⟩
  ·exact h2 oq (List.mem_of_getElem? h) hb
  ·rcases howns b hb with e | e
   ·exact h2 o (List.mem_of_getElem? ho) e
   ·exact h2 p (List.mem_of_getElem? hp) e
  ·exact hpn b hb
end Go.Abs



namespace Go.Abs
open Go
variable {P : Program} {F : Nat → Prop} {os : List Own} {s : St} {a : Act} {w : World} {k : Nat}
theorem V5 {S:Nat→Prop} {el sz:Nat} {ys:List (List AV)} {u:Value} (hS :∀b,S b→¬ F b∧b < w.heap.size) (h:DG S w (.dv el sz ys) u) :
  ∃p:Own,p.row=⟨0,el,sz,ys⟩∧(∀b,p.owns b→S b)∧(∀os,KO F w os p)∧((p.Eb=none∧∃a,u=.slice a ys.length 0)∨∃b,p.Eb=some b∧u=.slice (some ⟨b,0,none⟩) ys.length p.cap):=by
 simp only[DG] at h
 obtain⟨hp,h⟩:=h
 rcases h with ⟨rfl,a,rfl⟩ | ⟨b,cap,cur,rfl,h2,h3,h4,h5,h6,h7,h8⟩
 ·refine⟨⟨⟨0,el,sz,[]⟩,none,0,Dv⟩,rfl,fun b hb=>?_,fun os=>⟨hp,by simp,by simp,by simp,fun b hb=>hb.elim,Cs (by simp)⟩,.inl ⟨rfl,a,rfl⟩⟩
  rcases hb with hb | hb
  ·cases hb
  ·exact hb.elim
 ·obtain⟨D,d1,d2,d3⟩:=TV h7 h8
  refine⟨⟨⟨0,el,sz,ys⟩,some b,cap,fun c=>S c∧c≠b⟩,rfl,fun c hc=>?_,fun os=>⟨hp,fun x hx=>⟨h7 x hx,fun c hc=>?_⟩,by simp,fun b' hb'=>?_,fun c hc=>⟨(hS c hc.1).1,(hS c hc.1).2,fun e=>hc.2 (by simpa using e.symm)⟩,⟨D,d1,d2,fun b' hb' cur' el2 l hcur' i x j e s zs hx hc=>?_⟩⟩,.inr ⟨b,rfl,rfl⟩⟩
  ·rcases hc with hc | hc
   ·cases hc;exact h4
   ·exact hc.1
  ·obtain⟨i,hi⟩:=List.mem_iff_getElem?.1 hx
   obtain⟨j,hj⟩:=List.mem_iff_getElem?.1 hc
   obtain⟨u,_,g2⟩:=d3 i x hi j c hj
   exact (Mu (F:=F) (os:=os) g2).2.1
  ·simp only[Option.some.injEq] at hb'
   subst hb'
   refine⟨(hS _ h4).1,cur,h5,h6,h2,h3,fun i x hx j c hc=>?_⟩
   obtain⟨u,g1,g2⟩:=d3 i x hx j c hc
   exact⟨u,by simpa using g1,(Mu g2).1⟩
  ·simp only[Option.some.injEq] at hb'
   subst hb'
   rw[h5] at hcur';cases hcur'
   obtain⟨u,g1,g2⟩:=d3 i x hx j _ hc
   exact⟨u,by simpa using g1,g2⟩
theorem Ql {id m g size sz n i j nn:Nat} {el el':TypeId} {xs ys:List (List AV)} {x:List AV} {e:Nat→AV} {st st':List Row} (hrow:st[id]?=some ⟨g,el,size,xs⟩) (hx:xs[i]?=some x) (hc:x[j]?=some (.dv el' sz ys))
  (hm:st.length=m) (hn:n=ys.length) (hst:st.set id ⟨g,el,size,xs.set i (x.set j (.own m 0 n))⟩ ++ [⟨0,el',sz,ys⟩]=st'):Wk k ⟨nn,e,st⟩ ⟨nn,e,st'⟩:=fun F os a w hr=>by
 subst hst;subst hn;subst hm
 obtain⟨o,ho,hor⟩:=hr.row hrow
 have hok:=hr.rows id o ho
 have hst:os.map Own.row=st:=hr.st
 have hol:os.length=st.length:=by rw[← hst];simp
 have hxs:o.row.xs=xs:=by rw[hor]
 have hil:i < xs.length:=(List.getElem?_eq_some_iff.1 hx).1
 have hjl:j < x.length:=(List.getElem?_eq_some_iff.1 hc).1
 have hidl:=(List.getElem?_eq_some_iff.1 ho).1
 obtain⟨bo,hbo⟩ :∃b,o.Eb=some b:=by
  cases hb:o.Eb with
  | none=>have:=(hok.none hb).1;rw[hxs] at this;rw[this] at hil;simp at hil
  | some b=>exact⟨b,rfl⟩
 obtain⟨hnF,cur,hcur,hsz,hle,hmax,hcells⟩:=hok.some bo hbo
 obtain⟨D,d1,d2,d3⟩:=hok.deep
 obtain⟨uv,hu1,hu2⟩:=d3 bo hbo cur _ _ hcur i x j el' sz ys (by rw[hxs];exact hx) hc
 obtain⟨p,hpr,hpo,hpk,hpv⟩:=V5 (F:=F) (fun b hb=>⟨(hok.mo b (d1 _ _ _ hb)).1,(hok.mo b (d1 _ _ _ hb)).2.1⟩) hu2
 let o':Own:={ o with row:={ o.row with xs:=xs.set i (x.set j (.own st.length 0 ys.length)) },more:=fun b=>o.more b∧¬ D i j b }
 have hget :∀(q:Nat) (oq:Own),(os.set id o' ++ [p])[q]?=some oq→(q≠id∧q < os.length∧os[q]?=some oq)∨(q=id∧oq=o')∨(q=os.length∧oq=p):=fun q oq hq=>by
  rcases Nat.lt_trichotomy q os.length with h | h | h
  ·rw[List.getElem?_append_left (by simpa using h)] at hq
   by_cases e2:q=id
   ·subst e2
    rw[List.getElem?_set_self hidl,Option.some.injEq] at hq
    exact .inr (.inl ⟨rfl,hq.symm⟩)
   ·rw[List.getElem?_set_ne (Ne.symm e2)] at hq
    exact .inl ⟨e2,h,hq⟩
  ·subst h
   rw[List.getElem?_append_right (by simp)] at hq
   simp at hq
   exact .inr (.inr ⟨rfl,hq.symm⟩)
  ·rw[List.getElem?_eq_none (by simp;omega)] at hq;cases hq
 have hpget:(os.set id o' ++ [p])[st.length]?=some p:=by
  rw[List.getElem?_append_right (by simp;omega)]
  simp[hol]
 have hos:D3 os (os.set id o' ++ [p]):=fun q oq hq=>by
  have hql:=(List.getElem?_eq_some_iff.1 hq).1
  rw[List.getElem?_append_left (by simpa using hql)]
  by_cases e2:q=id
  ·subst e2
   rw[ho] at hq;cases hq
   exact⟨o',List.getElem?_set_self hidl,Nat.le_refl _,rfl,fun _=>⟨rfl,rfl,by simp[o',hxs]⟩⟩
  ·rw[List.getElem?_set_ne (Ne.symm e2)]
   exact⟨oq,hq,Nat.le_refl _,rfl,fun _=>⟨rfl,rfl,rfl⟩⟩
 have hmono :∀y v,Ae F w os y v→Ae F w (os.set id o' ++ [p]) y v:=fun y v h=>B6 (fun _ h=>h) (fun _ _=>rfl) os _ hos y v h
 have ho'o :∀b,o'.owns b→o.owns b:=fun b hb=>by
  rcases hb with hb | hb
  ·exact .inl hb
  ·exact .inr hb.1
 have hpoo :∀b,p.owns b→o.owns b:=fun b hb=>.inr (d1 _ _ _ (hpo b hb))
 have hdis :∀b,o'.owns b→¬ p.owns b:=fun b h1 h2=>by
  have h3:=hpo b h2
  rcases h1 with h1 | h1
  ·exact (hok.mo b (d1 _ _ _ h3)).2.2 h1
  ·exact h1.2 h3
 have hnew:Ae F w (os.set id o' ++ [p]) (.own st.length 0 ys.length) uv:=by
  simp only[Ae]
  refine⟨p,hpget,Nat.zero_le _,?_,fun _=>⟨by rw[hpr];exact Nat.le_refl _,by rw[hpr];simpa only[Nat.sub_self,Nat.zero_mul,Nat.sub_zero] using hpv⟩⟩
  rcases hpv with ⟨_,a,rfl⟩ | ⟨b,_,rfl⟩ <;> exact⟨_,_,_,rfl⟩
 refine⟨F,os.set id o' ++ [p],⟨?_,fun t=>hmono _ _ (hr.env t),hr.size,fun q oq hq=>?_,fun q q' oq oq' b hq hq' hb hb'=>?_,hr.EO,hr.defers⟩,⟨rfl,rfl,rfl,Nat.le_refl _,fun _ h=>h,fun _ _=>rfl,fun b _ h1 h2=>⟨rfl,h1,fun oq hoq hb=>?_⟩,fun q oq _ hq=>hos q oq hq⟩⟩
 ·rw[List.map_append,List.map_set,hst]
  simp only[o',hor,List.map_cons,List.map_nil,hpr]
 ·rcases hget q oq hq with ⟨_,_,h⟩ | ⟨_,rfl⟩ | ⟨_,rfl⟩
  ·have h0:=hr.rows q oq h
   refine⟨h0.pos,h0.lens,h0.none,fun b hb=>?_,h0.mo,h0.deep⟩
   obtain⟨e1,cur,e2,e3,e4,e5,e6⟩:=h0.some b hb
   exact⟨e1,cur,e2,e3,e4,e5,fun i' y hy j' c hc=>by obtain⟨u,f1,f2⟩:=e6 i' y hy j' c hc;exact⟨u,f1,hmono _ _ f2⟩⟩
  ·refine⟨hok.pos,fun y hy=>?_,(fun hn=>by simp only[o'] at hn;rw[hbo] at hn;cases hn),fun b hb=>?_,fun b hb=>hok.mo b hb.1,?_⟩
   ·rcases List.mem_or_eq_of_mem_set hy with hy | rfl
    ·exact hok.lens y (by rw[hxs];exact hy)
    ·have h0:=hok.lens x (by rw[hxs];exact List.mem_of_getElem? hx)
     refine⟨by rw[List.length_set];exact h0.1,fun c hcm=>?_⟩
     rcases List.mem_or_eq_of_mem_set hcm with h | rfl
     ·exact h0.2 c h
     ·rfl
   ·simp only[o'] at hb
    rw[hbo] at hb;cases hb
    refine⟨hnF,cur,hcur,hsz,by simpa [o',hxs] using hle,hmax,fun i' y hy j' c hcy=>?_⟩
    simp only[o'] at hy ⊢
    by_cases hi:i'=i
    ·subst hi
     rw[List.getElem?_set_self hil,Option.some.injEq] at hy
     subst hy
     by_cases hj:j'=j
     ·subst hj
      rw[List.getElem?_set_self hjl,Option.some.injEq] at hcy
      subst hcy
      exact⟨uv,hu1,hnew⟩
     ·rw[List.getElem?_set_ne (Ne.symm hj)] at hcy
      obtain⟨u,f1,f2⟩:=hcells i' x (by rw[hxs];exact hx) j' c hcy
      exact⟨u,f1,hmono _ _ f2⟩
    ·rw[List.getElem?_set_ne (Ne.symm hi)] at hy
     obtain⟨u,f1,f2⟩:=hcells i' y (by rw[hxs];exact hy) j' c hcy
     exact⟨u,f1,hmono _ _ f2⟩
   ·refine⟨fun i' j' b=>if i'=i∧j'=j then False else D i' j' b,fun i' j' b hb=>?_,fun i1 j1 i2 j2 b h1 h2=>?_,fun b hb cur' el2 l hcur' i' y j' e2 s2 zs hy hcy=>?_⟩
    ·simp only at hb
     split at hb
     ·exact hb.elim
     ·rename_i hij
      exact⟨d1 i' j' b hb,fun h=>hij (d2 _ _ _ _ _ hb h)⟩
    ·simp only at h1 h2
     split at h1 <;> split at h2 <;> first | exact h1.elim | exact h2.elim | exact d2 _ _ _ _ _ h1 h2
    ·simp only[o'] at hb hy ⊢
     rw[hbo] at hb;cases hb
     rw[hcur] at hcur';cases hcur'
     have hold:(¬ (i'=i∧j'=j))∧∃y0,o.row.xs[i']?=some y0∧y0[j']?=some (.dv e2 s2 zs):=by
      rw[hxs]
      by_cases hi:i'=i
      ·subst hi
       rw[List.getElem?_set_self hil,Option.some.injEq] at hy
       subst hy
       by_cases hj:j'=j
       ·subst hj
        rw[List.getElem?_set_self hjl,Option.some.injEq] at hcy
        cases hcy
       ·rw[List.getElem?_set_ne (Ne.symm hj)] at hcy
        exact⟨fun h=>hj h.2,x,hx,hcy⟩
      ·rw[List.getElem?_set_ne (Ne.symm hi)] at hy
       exact⟨fun h=>hi h.1,y,hy,hcy⟩
     obtain⟨hij,y0,hy0,hc0⟩:=hold
     obtain⟨u,f1,f2⟩:=d3 bo hbo cur _ _ hcur i' y0 j' e2 s2 zs hy0 hc0
     exact⟨u,f1,by simpa only[hij,if_false] using f2⟩
  ·exact hpk _
 ·rcases hget q oq hq with ⟨q1,q2,h⟩ | ⟨rfl,rfl⟩ | ⟨rfl,rfl⟩ <;> rcases hget q' oq' hq' with ⟨q1',q2',h'⟩ | ⟨rfl,rfl⟩ | ⟨rfl,rfl⟩
  ·exact hr.inj q q' oq oq' b h h' hb hb'
  ·exact hr.inj q _ oq o b h ho hb (ho'o b hb')
  ·exact absurd (hr.inj q id oq o b h ho hb (hpoo b hb')) q1
  ·exact hr.inj _ q' o oq' b ho h' (ho'o b hb) hb'
  ·rfl
  ·exact absurd hb' (hdis b hb)
  ·exact absurd (hr.inj id q' o oq' b ho h' (hpoo b hb) hb').symm q1'
  ·exact absurd hb (hdis b hb')
  ·rfl
 ·obtain⟨q,hq⟩:=List.mem_iff_getElem?.1 hoq
  rcases hget q oq hq with ⟨_,_,h⟩ | ⟨_,rfl⟩ | ⟨_,rfl⟩
  ·exact h2 oq (List.mem_of_getElem? h) hb
  ·exact h2 o (List.mem_of_getElem? ho) (ho'o b hb)
  ·exact h2 o (List.mem_of_getElem? ho) (hpoo b hb)
variable {α β : Type} {l : List α} {enc : α → List AV}
def hole (l:List α) (enc:α→List AV) (i:Int) (x:List AV):List (List AV):=(l.map enc).set i.toNat x
theorem ZF {i:Int} {u:α} {x:List AV} (h:x=enc u):hole l enc i x=(Sh.put l i u).map enc:=by subst h;exact XN
theorem Be {i:Int} {u:α} {x:List AV} (h:Sh.get l i=some u):(hole l enc i x)[i.toNat]?=some x:=by
 have:=(Sh.get_some h).2.2
 have h0:=(Sh.get_some h).1
 exact List.getElem?_set_self (by simp;omega)
theorem Rk {i:Int} {x y:List AV}:(hole l enc i x).set i.toNat y=hole l enc i y:=by unfold hole;rw[List.set_set]
theorem Bj {id m g size sz nn j:Nat} {el el':TypeId} {i:Int} {c:α} {ys:List β} {encY:β→List AV} {x x':List AV} {e:Nat→AV} {st st':List Row} (hrow:st[id]?=some ⟨g,el,size,l.map enc⟩) (hi:Sh.get l i=some c) (hx:enc c=x) (hc:x[j]?=some (.dv el' sz (ys.map encY)))
  (hm:st.length=m) (hx':x.set j (.own m 0 ys.length)=x') (hst:st.set id ⟨g,el,size,hole l enc i x'⟩ ++ [⟨0,el',sz,ys.map encY⟩]=st'):Wk k ⟨nn,e,st⟩ ⟨nn,e,st'⟩:=by
 subst hst;subst hx';subst hx
 exact Ql hrow (GZ hi) hc hm (n:=ys.length) (by simp) rfl
theorem Wk.take {id m g gm size sz nn j n:Nat} {el el':TypeId} {i:Int} {c:α} {ys:List β} {encY:β→List AV} {x x':List AV} {e:Nat→AV} {st st':List Row} (hrow:st[id]?=some ⟨g,el,size,hole l enc i x⟩) (hi:Sh.get l i=some c) (hc:x[j]?=some (.own m gm n))
  (hm:st[m]?=some ⟨gm,el',sz,ys.map encY⟩) (hn:n=ys.length) (hne:id≠m) (hkm:k≤m) (hd :∀y,(encY y).all OP=true) (hx':x.set j (.dv el' sz (ys.map encY))=x') (hst:(st.set id ⟨g,el,size,hole l enc i x'⟩).set m ⟨gm+1,el',sz,[]⟩=st') :
  Wk k ⟨nn,e,st⟩ ⟨nn,e,st'⟩:=by
 subst hst;subst hx'
 refine JS hrow (Be hi) hc hm (by simpa using hn) hne hkm (fun y hy c hc=>?_) (by rw[Rk])
 obtain⟨z,_,rfl⟩:=List.mem_map.1 hy
 exact List.all_eq_true.1 (hd z) c hc
theorem Ew {id g size nn:Nat} {el:TypeId} {i:Int} {u:α} {x:List AV} {e:Nat→AV} {st st':List Row} (hrow:st[id]?=some ⟨g,el,size,hole l enc i x⟩) (hx:x=enc u) (hst:st.set id ⟨g,el,size,(Sh.put l i u).map enc⟩=st'):Wk k ⟨nn,e,st⟩ ⟨nn,e,st'⟩:=by
 rw[ZF hx] at hrow
 have:st.set id ⟨g,el,size,(Sh.put l i u).map enc⟩=st:=by
  obtain⟨h1,h2⟩:=List.getElem?_eq_some_iff.1 hrow
  rw[← h2];exact List.set_getElem_self h1
 rw[this] at hst
 exact C9 hst
section
variable {ops : Array Oper} {Q : Exit → St → Prop} {ds : List (Option Tmp)} {r : List Oper} {n : Nat} {e : Nat → AV} {st st' : List Row} {ty : TypeId} {ps : String} {ed : Array Edge} {t : Tmp} {v : AV} {gd : Option (Nat × Bool)} {T : TypeId} {x y : Operand} {ag : Bool} {sz id g size : Nat} {el : TypeId} {cs : List AV} {c : α} {i : Int}
theorem TM (hg:GO ds gd e) (ht:Ch P T=some (ag,sz)) (hx:St.ev ⟨n,e,st⟩ x=.ptr id g i.toNat 0) (hr:st[id]?=some ⟨g,el,size,l.map enc⟩) (hi:Sh.get l i=some c) (hv:St.ev ⟨n,e,st⟩ y=v) (hc:JF v=some cs) (hn:cs.length=sz) (hle:cs.length≤size)
  (hlen:(enc c).length=cs.length) (hst:st.set id ⟨g,el,size,hole l enc i cs⟩=st') (hk:AO P k ops Q (ds ++ [none]) r ⟨n,e,st'⟩):AO P k ops Q ds (⟨none,.store T x y,ty,ps,ed,gd⟩ :: r) ⟨n,e,st⟩:=by
 refine Ay hg ht hx hr (GZ hi) hv hc hn (by omega) ?_ hk
 rw[← hst]
 have:F7 (enc c) 0 cs=cs:=by
  unfold F7
  rw[List.take_zero,List.nil_append,Nat.zero_add,List.drop_eq_nil_of_le (by omega),List.append_nil]
 rw[this];rfl
end
end Go.Abs



namespace Go.Abs
open Go
variable {P : Program} {F : Nat → Prop} {os : List Own} {s : St} {a : Act} {w : World} {k : Nat}
theorem Rel.bV (hr:Rel F os s a w) {cur:Array Value} {e:TypeId} {size cap:Nat} {xs:List (List AV)} (hpos:0 < size) (hlens :∀x∈xs,x.length=size∧∀c∈x,c.kept=true)
  (hsz:cur.size=cap * size) (hle:xs.length≤cap) (hmax:cap≤maxLen)
  (hcells :∀(i:Nat) x,xs[i]?=some x→∀(j:Nat) c,x[j]?=some c→∃u,cur[i * size+j]?=some u∧Ae F w os c u∧∀e s ys,c=.dv e s ys→DG Dv w c u) :
  let o:Own:=⟨⟨0,e,size,xs⟩,some w.heap.size,cap,Dv⟩
  Rel F (os ++ [o]) { s with st:=s.st ++ [o.row] } a (w.alloc (.cells cur e))∧Ext F os w F (os ++ [o]) (w.alloc (.cells cur e)) k:=by
 intro o
 have ht:FF w (w.alloc (.cells cur e)) none:=FF.alloc _ _ _
 have hlt :∀(i:Nat) (oi:Own) g,os[i]?=some oi→oi.owns g→g < w.heap.size:=fun i oi g hi hg=>(hr.rows i oi hi).lt hg
 have hget :∀(i:Nat) (oi:Own),(os ++ [o])[i]?=some oi→os[i]?=some oi∨(i=os.length∧oi=o):=fun i oi hi=>by
  rcases Nat.lt_trichotomy i os.length with h | h | h
  ·rw[List.getElem?_append_left h] at hi;exact .inl hi
  ·subst h;simp at hi;exact .inr ⟨rfl,hi.symm⟩
  ·rw[List.getElem?_append_right (by omega),List.getElem?_eq_none (by simp;omega)] at hi;cases hi
 have hold :∀x v,Ae F w os x v→Ae F (w.alloc (.cells cur e)) (os ++ [o]) x v:=fun x v h=>
  B6 (fun _ h=>h) (fun g hg=>ht.EO g (hr.EO g hg) (by simp)) os _ (D3.append os [o]) x v h
 have hown :∀g,o.owns g→g=w.heap.size:=fun g hg=>by
  simp only[Own.owns,o,Dv,or_false,Option.some.injEq] at hg;exact hg.symm
 have:=hr.Tl (k:=k) ht (by simp) (os':=os ++ [o]) (D3.append os [o]) (fun i oi hi=>by
   rcases hget i oi hi with h | ⟨_,rfl⟩
   ·exact .inl ⟨h,by simp⟩
   ·refine .inr ⟨hpos,hlens,by simp[o],fun g hg=>?_,fun g hg=>hg.elim,⟨fun _ _ _=>False,fun _ _ _ h=>h.elim,fun _ _ _ _ _ h=>h.elim,fun b hb cur' el l hcur' i x j e' s' ys hx hc=>?_⟩⟩
    ·simp only[o,Option.some.injEq] at hg
     subst hg
     refine⟨fun hF=>absurd (hr.EO _ hF) (Nat.lt_irrefl _),cur,heap_alloc_new w _,hsz,hle,hmax,fun i' x hx j c hc=>?_⟩
     obtain⟨u,h1,h2,_⟩:=hcells i' x hx j c hc
     exact⟨u,h1,hold _ _ h2⟩
    ·simp only[o,Option.some.injEq] at hb
     subst hb
     rw[heap_alloc_new w _] at hcur'
     cases hcur'
     obtain⟨u,h1,_,h3⟩:=hcells i x hx j _ hc
     exact⟨u,h1,Jx (fun _ h=>h.elim) (fun _ h=>h.elim) _ u (h3 _ _ _ rfl)⟩)
  (fun i j oi oj g hi hj hgi hgj=>by
   rcases hget i oi hi with h | ⟨h,rfl⟩ <;> rcases hget j oj hj with h' | ⟨h',rfl⟩
   ·exact hr.inj i j oi oj g h h' hgi hgj
   ·have:=hlt i oi g h hgi;have:=hown g hgj;omega
   ·have:=hlt j oj g h' hgj;have:=hown g hgi;omega
   ·omega)
  (fun o' ho' g hg=>by
   rcases List.mem_append.1 ho' with h | h
   ·exact .inr ⟨o',h,hg⟩
   ·simp only[List.mem_singleton] at h;subst h;exact .inl (by have:=hown g hg;omega))
  (by simp)
 refine⟨?_,this.2.1⟩
 have h1:=this.1
 rw[List.map_append,hr.st] at h1
 simpa using h1
def ZD:List AV→List AV→Prop
 | [],[]=>True
 | x :: r,y :: r'=>((x=y∧x.leaf=true)∨(x=.sl []∧∃el s,y=.dv el s []∧0 < s))∧ZD r r'
 | _,_=>False
theorem ZD.len :∀{xs ys:List AV},ZD xs ys→xs.length=ys.length
 | [],[],_=>rfl
 | x :: r,y :: r',h=>by simp[ZD.len h.2]
theorem ZD.get :∀{xs ys:List AV},ZD xs ys→∀(j:Nat) y,ys[j]?=some y→∃x,xs[j]?=some x∧((x=y∧x.leaf=true)∨(x=.sl []∧∃el s,y=.dv el s []∧0 < s))
 | [],[],_,j,y,h=>by simp at h
 | x :: r,y :: r',h,j,z,hz=>by
  cases j with
  | zero=>simp only[List.getElem?_cons_zero,Option.some.injEq] at hz;subst hz;exact⟨x,rfl,h.1⟩
  | succ j=>exact ZD.get h.2 j z (by simpa using hz)
theorem X1 {v:Value} (h:JE v=.sl []):v=.slice none 0 0:=by
 unfold JE at h
 split at h
 ·rfl
 ·unfold Kd at h
  split at h <;> cases h
theorem YD {t:TypeId} {ei:WN} {l c:AV} {ul uc:Value} {zd:List AV} {kl kc:IntKind} {n:Int} (hr:Rel F os s a w) (he:By P t=some ei) (hzd:ZD ei.zero zd) (h0:0≤n) (hb:n * (ei.bytes:Int)≤281474976710656) (hm:n≤9223372036854775807) (el:l=.int kl n) (ec:c=.int kc n) (hl:Ae F w os l ul) (hc:Ae F w os c uc) :
  GR P k F os s a w (Instr.makeSlice t ul uc) (fun v st=>v=.own s.st.length 0 n.toNat∧st=s.st ++ [⟨0,ei.e,ei.size,List.replicate n.toNat zd⟩]):=by
 obtain⟨inf,z,hu,hi,hz,hzs,hpos,hsz,hby,hzero,hzl⟩:=FU he
 subst el;subst ec
 simp only[Ae] at hl hc
 subst hl;subst hc
 obtain⟨N,rfl⟩:=Int.eq_ofNat_of_zero_le h0
 simp only[Int.toNat_natCast]
 have hrun:=run_make (P:=P) w t ei.e inf z hu hi hz kl kc N N (by omega) (Int.le_refl _) (by rw[← hby,Int.mul_comm];omega) (by omega)
 simp only[Int.toNat_natCast] at hrun
 have hzl':zd.length=ei.size:=by rw[← hzd.len,hzero,hsz,← hzs];simp
 have:=hr.bV (k:=k) (cur:=madeCells z.cells (N * inf.size)) (e:=ei.e) (size:=ei.size) (cap:=N) (xs:=List.replicate N zd) (by omega)
  (fun x hx=>by
   rw[List.mem_replicate] at hx;rw[hx.2]
   refine⟨hzl',fun c hc=>?_⟩
   obtain⟨j,hj⟩:=List.mem_iff_getElem?.1 hc
   obtain⟨x,_,h⟩:=hzd.get j c hj
   rcases h with ⟨rfl,h⟩ | ⟨_,el,s,rfl,_⟩
   ·exact Cp h
   ·rfl) (by rw[size_madeCells,hsz]) (by simp) (by simp[maxLen];omega) (fun i x hx j c hc=>by
   rw[List.getElem?_replicate] at hx
   split at hx <;> simp only[Option.some.injEq,reduceCtorEq] at hx
   subst hx
   rename_i hiN
   have hjl:j < ei.size:=by rw[← hzl'];exact (List.getElem?_eq_some_iff.1 hc).1
   have hj2:j < z.cells.size:=by omega
   obtain⟨x0,hx0,hcase⟩:=hzd.get j c hc
   rw[hzero] at hx0
   simp only[List.getElem?_map,Array.getElem?_toList,Array.getElem?_eq_getElem hj2,Option.map_some,Option.some.injEq] at hx0
   refine⟨z.cells[j],?_,?_⟩
   ·have hlt:i * ei.size+j < N * inf.size:=by
     have:(i+1) * ei.size≤N * ei.size:=Nat.mul_le_mul_right _ hiN
     rw[Nat.add_mul] at this;rw[← hsz];omega
    have hmod:(i * ei.size+j) % z.cells.size=j:=by rw[hzs,← hsz,Nat.mul_comm,Nat.mul_add_mod];exact Nat.mod_eq_of_lt hjl
    simp[madeCells,hlt,hmod,hj2]
   ·rcases hcase with ⟨rfl,hlf⟩ | ⟨rfl,el,s,rfl,hs⟩
    ·rw[← hx0]
     refine⟨JZ F w os _,fun e s ys e'=>?_⟩
     rw[hx0] at e';rw[e'] at hlf;simp[AV.leaf] at hlf
    ·have:=X1 hx0
     rw[this]
     refine⟨by simp only[Ae];exact⟨_,_,_,rfl⟩,fun e s' ys e'=>?_⟩
     simp only[DG]
     exact⟨hs,.inl ⟨trivial,none,rfl⟩⟩)
 refine⟨_,_,_,_,_,⟨rfl,rfl⟩,hrun,this.1,?_,this.2⟩
 simp only[Ae]
 refine⟨⟨⟨0,ei.e,ei.size,List.replicate N zd⟩,some w.heap.size,N,Dv⟩,by rw[hr.len];simp,by simp,⟨_,_,_,rfl⟩,fun _=>⟨by simp,.inr ⟨_,rfl,by simp⟩⟩⟩
theorem AO.Lv {ops:Array Oper} {Q:Exit→St→Prop} {ds:List (Option Tmp)} {r:List Oper} {o:Oper} {s s':St} (hgd:o.guard=none)
  (h :∀F os a w,Rel F os s a w→Cu s.n o.dst=true→∀(next:Act→World→Prop) (Q':Exit→Act→World→Prop),(∀a' w',Step k s.n F os w (·=s') a' w'→next a' w')→o.wp P a w next Q')
  (hk:AO P k ops Q (ds ++ [o.dst]) r s'):AO P k ops Q ds (o :: r) s:=by
 intro hl hds hdst F os a w hr Q' hQ
 have ho:ops[ds.length]?=some o:=by have:=hl 0;simpa using this.symm
 have hod:Cu s.n o.dst=true:=hdst o (by have:=List.mem_of_getElem? (l:=ops.toList) (i:=ds.length) (by simpa using ho);exact this)
 have hl' :∀(j:Nat),r[j]?=ops[(ds ++ [o.dst]).length+j]?:=fun j=>by
  have:=hl (j+1)
  simp only[List.getElem?_cons_succ] at this
  rw[this];congr 1;simp;omega
 have hds' :∀(j:Nat) d,(ds ++ [o.dst])[j]?=some d→(ops[j]?).map (·.dst)=some d:=fun j d hj=>by
  rcases Nat.lt_trichotomy j ds.length with h1 | h1 | h1
  ·rw[List.getElem?_append_left h1] at hj;exact hds j d hj
  ·subst h1;rw[Hg,Option.some.injEq] at hj;rw[ho];simp[hj]
  ·rw[List.getElem?_eq_none (by simp;omega)] at hj;cases hj
 unfold wpList
 have hw:Region.wanted o (yielded ops a.tmps)=true:=by unfold Region.wanted;rw[hgd]
 rw[if_pos hw]
 refine .inl (h F os a w hr hod _ _ ?_)
 rintro a' w' ⟨s2,F2,os2,hn2,rfl,hR2,hE2⟩
 exact hk hl' hds' (by rw[hn2];exact hdst) F2 os2 a' w' hR2 Q' fun _ _ _ hp=>hQ _ _ _ (hp.trans hE2)
section
variable {α : Type} {l : List α} {enc : α → List AV}
variable {ops : Array Oper} {Q : Exit → St → Prop} {ds : List (Option Tmp)} {r : List Oper} {n : Nat} {e : Nat → AV} {st st' : List Row} {ty : TypeId} {ps : String} {ed : Array Edge} {t : Tmp} {T : TypeId} {x y : Operand} {m bytes size : Nat} {el : TypeId} {zz : List AV} {u : α} {j : Int} {kk kk' : IntKind}
theorem OU (he:By P T=some ⟨el,size,bytes,zz⟩) (hx:St.ev ⟨n,e,st⟩ x=.int kk j) (hy:St.ev ⟨n,e,st⟩ y=.int kk' j) (hz:ZD zz (enc u)) (hl:Sh.mk u j bytes=some l) (hm:st.length=m) (hst:st ++ [⟨0,el,size,l.map enc⟩]=st')
  (hk:AO P k ops Q (ds ++ [some t]) r ⟨n,Dh e t (.own m 0 l.length),st'⟩):AO P k ops Q ds (⟨some t,.makeSlice T x y,ty,ps,ed,none⟩ :: r) ⟨n,e,st⟩:=by
 subst hm;subst hst
 unfold Sh.mk at hl
 split at hl
 case isFalse=>cases hl
 rename_i h
 simp only[Option.some.injEq] at hl
 subst hl
 refine AO.Lv rfl (fun F os a w hr hd next Q' hn=>?_) hk
 obtain⟨v,st',u',w',os',⟨rfl,rfl⟩,h2,h3,h4,h5⟩:=YD (k:=k) (ei:=⟨el,size,bytes,zz⟩) hr he hz h.1 h.2.1 h.2.2 hx hy (hr.ev x) (hr.ev y)
 unfold Oper.wp
 simp only[execOp,Sem.run_bind,h2,Result.andThen_ok,Sem.run_pure,Oper.upon]
 refine hn _ _ (MK hd ?_ h3 h4 h5)
 simp[St.put,List.map_replicate]
end
end Go.Abs



namespace Go.Abs
open Go
variable {P : Program} {F : Nat → Prop} {os : List Own} {s : St} {a : Act} {w : World} {k : Nat}
variable {α β : Type} {l : List α} {enc : α → List AV}
theorem Kq {id g size nn:Nat} {el:TypeId} {i:Int} {c:α} {x:List AV} {e:Nat→AV} {st st':List Row} (hrow:st[id]?=some ⟨g,el,size,hole l enc i x⟩) (hi:Sh.get l i=some c) (hx:x=enc c) (hst:st.set id ⟨g,el,size,l.map enc⟩=st'):Wk k ⟨nn,e,st⟩ ⟨nn,e,st'⟩:=by
 have h2:hole l enc i x=l.map enc:=by
  subst hx
  unfold hole
  have:=GZ (enc:=enc) hi
  obtain⟨h1,h2⟩:=List.getElem?_eq_some_iff.1 this
  rw[← h2];exact List.set_getElem_self h1
 rw[h2] at hrow
 have:st.set id ⟨g,el,size,l.map enc⟩=st:=by
  obtain⟨h1,h2⟩:=List.getElem?_eq_some_iff.1 hrow
  rw[← h2];exact List.set_getElem_self h1
 rw[this] at hst
 exact C9 hst
end Go.Abs
namespace Go.Abs
open Go
theorem XP {α:Type} {l l':List α} {c:α} {b:Nat} (h:Sh.app l [c] b=some l'):Sh.get l' (Sh.len l)=some c:=by
 unfold Sh.app at h
 split at h
 ·simp only[Option.some.injEq] at h
  subst h
  unfold Sh.get Sh.len
  rw[if_pos (Int.natCast_nonneg _)]
  simp
 ·cases h
section
variable {P : Program} {k : Nat} {α : Type} {l l' : List α} {enc : α → List AV} {c : α}
variable {ops : Array Oper} {Q : Exit → St → Prop} {ds : List (Option Tmp)} {r : List Oper} {n : Nat} {e : Nat → AV} {st st' : List Row} {ty : TypeId} {ps : String} {ed : Array Edge} {t : Tmp} {gd : Option (Nat × Bool)} {T : TypeId} {x y : Operand} {bytes size id g m q gq size' : Nat} {el el' : TypeId} {zz cs : List AV}
theorem ZJ (hg:GO ds gd e) (he:By P T=some ⟨el,size,bytes,zz⟩) (hx:St.ev ⟨n,e,st⟩ x=.own id g m) (hr:st[id]?=some ⟨g,el,size,l.map enc⟩) (hm:m=l.length) (hy:St.ev ⟨n,e,st⟩ y=.own q gq 1) (hq:st[q]?=some ⟨gq,el',size',[cs]⟩)
  (hlf:cs.all AV.leaf=true) (hcs:cs.length=size) (ha:Sh.app l [c] bytes=some l') (hst:st.set id ⟨g+1,el,size,hole l' enc (Sh.len l) cs⟩=st') (hk:AO P k ops Q (ds ++ [some t]) r ⟨n,Dh e t (.own id (g+1) l'.length),st'⟩) :
  AO P k ops Q ds (⟨some t,.call ⟨.builtin .append,#[x,y],#[T,T]⟩,ty,ps,ed,gd⟩ :: r) ⟨n,e,st⟩:=by
 subst hst;subst hm
 refine Ks hg ?_
 rw[Ui]
 refine⟨rfl,?_⟩
 rw[hx,hy]
 unfold Sh.app at ha
 split at ha
 ·rename_i h
  simp only[Option.some.injEq] at ha
  subst ha
  refine Aj _ he (Aj _ hq ⟨rfl,fun z hz c hc=>?_,rfl,fun z hz=>?_,Aj _ hr ⟨rfl,(List.length_map _).symm,rfl,rfl,by simpa using h.1,by simpa using h.2,?_⟩⟩)
  ·simp only[List.mem_singleton] at hz
   subst hz
   exact List.all_eq_true.1 hlf c hc
  ·simp only[List.take_one,List.head?_cons,Option.toList_some,List.mem_singleton] at hz
   subst hz;exact hcs
  ·have e1:(l.map enc).take l.length=l.map enc:=by rw[← List.length_map (f:=enc) (as:=l),List.take_length]
   have e3:List.map enc l ++ [cs]=hole (l ++ [c]) enc (Sh.len l) cs:=by simp[hole,Sh.len]
   simp only[e1,List.take_one,List.head?_cons,Option.toList_some,e3,List.length_singleton]
   rw[show l.length+1=(l ++ [c]).length by simp]
   exact hk
 ·cases ha
end
end Go.Abs



namespace Go.Abs
open Go
variable {P : Program} {F : Nat → Prop} {os : List Own} {s : St} {a : Act} {w : World} {k : Nat}
def Jj (id g:Nat) (xs:List (List AV)):AV→AV
 | .own id' g' n=>if id'=id∧g'=g then (if n=xs.length then .sl (JN xs) else .Eu) else .own id' g' n
 | v=>v
def YZ (id g:Nat) (xs:List (List AV)):AV→AV
 | .agg cs=>.agg (cs.map (Jj id g xs))
 | .DE cs=>.DE (cs.map (Jj id g xs))
 | v=>Jj id g xs v
theorem Wk.bc {id:Nat} {row:Row} (hid:k≤id) (hrow:s.st[id]?=some row) (hp:Ru row.xs) :
  Wk k s ⟨s.n,fun t=>YZ id row.gen row.xs (s.env t),s.st.set id { row with gen:=row.gen+1,xs:=[] }⟩:=fun F os a w hr=>by
 obtain⟨o,ho,rfl⟩:=hr.row hrow
 have hok:=hr.rows id o ho
 refine⟨fun b=>F b∨o.owns b,os.set id ⟨{ o.row with gen:=o.row.gen+1,xs:=[] },none,0,Dv⟩,?_,?_⟩
 case refine_2=>
  refine⟨rfl,rfl,rfl,Nat.le_refl _,fun _ h=>.inl h,fun _ _=>rfl,fun b _ h1 h2=>⟨rfl,fun h=>h.elim h1 (fun e=>h2 o (List.mem_of_getElem? ho) e),fun o' ho'=>?_⟩,fun i oi hi hoi=>⟨oi,?_,Nat.le_refl _,rfl,fun _=>⟨rfl,rfl,rfl⟩⟩⟩
  ·rcases List.mem_or_eq_of_mem_set ho' with h | rfl
   ·exact h2 o' h
   ·intro hh
    rcases hh with hh | hh
    ·simp at hh
    ·exact hh
  ·rw[List.getElem?_set_ne (by omega)];exact hoi
 have hF :∀b,F b→(fun b=>F b∨o.owns b) b:=fun _ h=>.inl h
 have hos:D3 os (os.set id ⟨{ o.row with gen:=o.row.gen+1,xs:=[] },none,0,Dv⟩):=D3.set ho (by simp) rfl (fun e=>by simp at e)
 have hmono :∀x v,Ae F w os x v→Ae (fun b=>F b∨o.owns b) w (os.set id ⟨{ o.row with gen:=o.row.gen+1,xs:=[] },none,0,Dv⟩) x v:=fun x v h=>
  B6 hF (fun _ _=>rfl) os _ hos x v h
 have h1 :∀x v,Ae F w os x v→Ae (fun b=>F b∨o.owns b) w (os.set id ⟨{ o.row with gen:=o.row.gen+1,xs:=[] },none,0,Dv⟩) (Jj id o.row.gen o.row.xs x) v:=fun x v h=>by
  cases x with
  | own id' g' n=>
   simp only[Jj]
   split
   ·rename_i hif
    obtain⟨rfl,rfl⟩:=hif
    split
    ·rename_i hn0
     subst hn0
     simp only[Ae] at h
     obtain⟨o',ho',_,_,h⟩:=h
     rw[ho] at ho';cases ho'
     obtain⟨_,hv⟩:=h rfl
     have hD:=SY hok hp (v:=v) (by simpa only[Nat.sub_self,Nat.zero_mul,Nat.sub_zero] using hv)
     have:=(RM (F:=fun b=>F b∨o.owns b) (fun b hb=>.inr hb) _ _ hD).1
     simp only[NU,Ae] at this ⊢
     exact this
    ·simp[Ae]
   ·exact hmono _ _ h
  | _=>exact hmono _ _ h
 have hL :∀xs us,BG F w os xs us→BG (fun b=>F b∨o.owns b) w (os.set id ⟨{ o.row with gen:=o.row.gen+1,xs:=[] },none,0,Dv⟩) (xs.map (Jj id o.row.gen o.row.xs)) us:=fun xs us h=>
  Cv (by simp[A6 h]) fun i x u hx hu=>by
   simp only[List.getElem?_map,Option.map_eq_some_iff] at hx
   obtain⟨y,hy,rfl⟩:=hx
   obtain⟨u',e1,e2⟩:=BX h i y hy
   rw[hu] at e1;cases e1
   exact h1 _ _ e2
 have hget :∀(i:Nat) (oi:Own),(os.set id ⟨{ o.row with gen:=o.row.gen+1,xs:=[] },none,0,Dv⟩)[i]?=some oi→(i≠id∧os[i]?=some oi)∨(i=id∧oi=⟨{ o.row with gen:=o.row.gen+1,xs:=[] },none,0,Dv⟩):=fun i oi hi=>by
  by_cases e:i=id
  ·subst e;rw[List.getElem?_set_self (List.getElem?_eq_some_iff.1 ho).1,Option.some.injEq] at hi;exact .inr ⟨rfl,hi.symm⟩
  ·rw[List.getElem?_set_ne (Ne.symm e)] at hi;exact .inl ⟨e,hi⟩
 refine⟨by rw[List.map_set,hr.st],fun t=>?_,hr.size,fun i oi hi=>?_,fun i j oi oj b hi hj hbi hbj=>?_,fun b hb=>?_,hr.defers⟩
 ·have:=hr.env t
  simp only
  generalize s.env t=x at this ⊢
  cases x with
  | agg cs=>simp only[YZ,Ae] at this ⊢;obtain⟨us,e,h⟩:=this;exact⟨us,e,hL _ _ h⟩
  | DE cs=>simp only[YZ,Ae] at this ⊢;obtain⟨us,e,h⟩:=this;exact⟨us,e,hL _ _ h⟩
  | _=>exact h1 _ _ this
 ·rcases hget i oi hi with ⟨hne,h⟩ | ⟨_,rfl⟩
  ·have hoki:=hr.rows i oi h
   refine⟨hoki.pos,hoki.lens,hoki.none,fun b hb=>?_,fun b hb=>⟨fun hF=>hF.elim (hoki.mo b hb).1 (fun hob=>hne (hr.inj i id oi o b h ho (.inr hb) hob)),(hoki.mo b hb).2⟩,hoki.deep⟩
   obtain⟨e1,cur,e2,e3,e4,e5,e6⟩:=hoki.some b hb
   refine⟨fun hF=>hF.elim e1 (fun hob=>hne (hr.inj i id oi o b h ho (.inl hb) hob)),cur,e2,e3,e4,e5,fun i' x hx j c hc=>?_⟩
   obtain⟨u,f1,f2⟩:=e6 i' x hx j c hc
   exact⟨u,f1,hmono _ _ f2⟩
  ·exact⟨hok.pos,by simp,by simp,by simp,fun b hb=>hb.elim,Cs (by simp)⟩
 ·rcases hget i oi hi with ⟨hne,h⟩ | ⟨h,rfl⟩ <;> rcases hget j oj hj with ⟨hne',h'⟩ | ⟨h',rfl⟩
  ·exact hr.inj i j oi oj b h h' hbi hbj
  ·exact hbj.elim (fun e=>by simp at e) fun e=>e.elim
  ·exact hbi.elim (fun e=>by simp at e) fun e=>e.elim
  ·omega
 ·rcases hb with hb | hb | hb
  ·exact hr.EO b hb
  ·obtain⟨_,cur,hcur,_⟩:=hok.some b hb
   exact (Array.getElem?_eq_some_iff.1 hcur).1
  ·exact (hok.mo b hb).2.1
variable {α : Type} {l : List α} {enc enc' : α → List AV} {n id g m size : Nat} {e : Nat → AV} {st st' : List Row} {L : List (Nat × AV)} {el : TypeId} {xs : List (List AV)}
theorem Un (h:m=l.length) (hu :∀x,GX (enc x)=enc' x):Jj id g (l.map enc) (.own id g m)=.sl (l.map enc'):=by
 subst h
 simp only[Jj,and_self,if_true,List.length_map]
 rw[Ga,List.map_map]
 congr 1
 exact List.map_congr_left fun x _=>hu x
theorem le.Jj (h:m=l.length) (hu :∀x,GX (enc x)=enc' x):le (Abs.Jj id g (l.map enc) (.own id g m)) (.sl (l.map enc')):=le.of (Un h hu)
theorem le.YZ (h:m=l.length) (hu :∀x,GX (enc x)=enc' x):le (Abs.YZ id g (l.map enc) (.own id g m)) (.sl (l.map enc')):=le.of (Un h hu)
theorem Ev (h :∀x,(enc x).all OP=true):Ru (l.map enc):=fun x hx c hc=>by
 obtain⟨y,_,rfl⟩:=List.mem_map.1 hx
 exact List.all_eq_true.1 (h y) c hc
theorem Gy (hrow:st[id]?=some ⟨g,el,size,xs⟩) (hid:k≤id) (hp:Ru xs) (h:ME (fun t=>Abs.YZ id g xs (e t)) L) (hst:st.set id ⟨g+1,el,size,[]⟩=st'):Wk k ⟨n,e,st⟩ ⟨n,AL L,st'⟩:=by
 subst hst
 exact (Wk.bc (s:=⟨n,e,st⟩) hid hrow hp).trans (AS h)
end Go.Abs



namespace Go.Abs
open Go
variable {P : Program} {F : Nat → Prop} {os : List Own} {s : St} {a : Act} {w : World} {k : Nat}
def eD (x:AV):AV:=bif flat x then x else .Eu
theorem bu {F':Nat→Prop} {w':World} (hF :∀b,F b→F' b) (hw :∀b,F b→w'.heap[b]?=w.heap[b]?) (os':List Own) {x:AV} {v:Value} (h:Ae F w os x v):Ae F' w' os' (eD x) v:=by
  unfold eD
  cases hf:flat x with
  | false=>simp[Ae]
  | true=>exact Hq hf os' (B6 hF hw [] [] (by simp) x v (Hq hf [] h))
def cy (x:AV):AV:=bif flat x then x else match x with
  | .ptr (id+1) g i off=>.ptr (id+1) g i off
  | _=>.Eu
theorem bk {F':Nat→Prop} {w':World} (hF :∀b,F b→F' b) (hw :∀b,F b→w'.heap[b]?=w.heap[b]?) {o o':Own} {ros:List Own} {x:AV} {v:Value} (h:Ae F w (o :: ros) x v):Ae F' w' (o' :: ros) (cy x) v:=by
  unfold cy
  cases hf:flat x with
  | true=>exact Hq hf _ (B6 hF hw [] [] (by simp) x v (Hq hf [] h))
  | false=>
    cases x <;> simp only[cond_false] <;> try simp[Ae]
    rename_i id g i off
    cases id with
    | zero=>simp[Ae]
    | succ id=>
      simp only[Ae,List.getElem?_cons_succ] at h ⊢
      exact h
theorem QJ {P:Program} {ops:Array Oper} {md:Region.Mode} {Q Q':Exit→Act→World→Prop} (hp :∀c a w,Q (.panic c) a w→Q' (.panic c) a w) (hlo:LetsOut Q→LetsOut Q') (hn :∀a w,Q .normal a w→Q' .normal a w) :
    ∀(fuel:Nat) {listed:Array Bool} {a:Act} {w:World},wpAny P md ops Q fuel listed a w→wpAny P md ops Q' fuel listed a w
  | 0,_,_,_,h=>⟨h.1,hn _ _ h.2⟩
  | fuel+1,listed,a,w,h=>by
    refine⟨fun h0=>hn _ _ (h.1 h0),fun i hi=>?_⟩
    have:=h.2 i hi
    unfold wpOp at this ⊢
    split
    · rename_i ho;simp only[ho] at this;exact QJ hp hlo hn fuel this
    · rename_i o ho
      simp only[ho] at this
      split
      · rename_i hw
        rw[if_pos hw] at this
        exact this.imp (fun h=>Ms hp hlo (Oper.wp_mono (fun a w h=>QJ hp hlo hn fuel h) h)) fun h=>⟨h.1,hlo h.2⟩
      · rename_i hw
        rw[if_neg hw] at this
        exact QJ hp hlo hn fuel this
def Zc (row row':Row) (Q:Exit→St→Prop):Exit→St→Prop:=fun ex s'=>(∃r,s'.st=row' :: r)∧Q ex ⟨s'.n,fun t=>eD (s'.env t),[row]⟩
theorem Pp {xs:List (List AV)} (hp:Dj xs) {o:Own} (hok:KO F w os o) (hx:o.row.xs=xs) :∀x∈xs,∀c∈x,c.leaf=true:=fun x hm c hc=>by
  have h1:=hp x hm c hc
  have h2:=(hok.lens x (by rw[hx];exact hm)).2 c hc
  cases c <;> simp_all [simple,AV.leaf,AV.kept]
theorem aO {Q:Exit→St→Prop} {o:Own} {ros:List Own} {g:Nat} {el:TypeId} {size b0:Nat} {xs ys:List (List AV)} (hp:Dj (xs ++ ys)) (hrow:o.row=⟨g,el,size,xs⟩) (hb0:o.Eb=some b0) (hnF:¬ F b0) {w1:World} (ht:FF w w1 (some b0))
    {e:Exit} {a':Act} {w':World} (h:KV 1 (Zc ⟨g,el,size,xs⟩ ⟨g,el,size,xs ++ ys⟩ Q) F (⟨⟨g,el,size,xs ++ ys⟩,some b0,o.cap,o.more⟩ :: ros) w1 e a' w') (hold :∀b,F b→b < w.heap.size):KV 1 Q F (o :: ros) w e a' w':=by
  obtain⟨s',F',os',⟨⟨rst',hst⟩,hQ⟩,hR,hE⟩:=h
  have hos :∃o' ros',os'=o' :: ros'∧o'.row=⟨g,el,size,xs ++ ys⟩:=by
    have:=hR.st
    rw[hst] at this
    cases os' with
    | nil=>cases this
    | cons o' ros'=>
      simp only[List.map_cons,List.cons.injEq] at this
      exact⟨o',ros',rfl,this.1⟩
  obtain⟨o',ros',rfl,hrow'⟩:=hos
  obtain⟨o2,e2,_,_,e3⟩:=hE.Sa 0 _ (by omega) rfl
  simp only[List.getElem?_cons_zero,Option.some.injEq] at e2
  subst e2
  obtain⟨e4,e5,_⟩:=e3 (by rw[hrow'])
  dsimp only at e4 e5
  have hok':=hR.rows 0 o' rfl
  have hlf:=Pp hp hok' (by rw[hrow'])
  have hF :∀b,F b→w1.heap[b]?=w.heap[b]?:=fun b hb=>ht.EO b (hold b hb) (fun e=>hnF (by cases e;exact hb))
  refine⟨_,F',[{ o' with row:=⟨g,el,size,xs⟩ }],hQ,⟨rfl,fun t=>bu (fun _ h=>h) (fun _ _=>rfl) _ (hR.env t),hR.size,fun i oi hi=>?_,fun i j oi oj b hi hj hbi hbj=>?_,hR.EO,hR.defers⟩,?_⟩
  · match i,hi with
    | 0,hi=>
      simp only[List.getElem?_cons_zero,Option.some.injEq] at hi
      subst hi
      refine⟨by have:=hok'.pos;rw[hrow'] at this;exact this,fun x hx=>?_,fun hn=>(by rw[e4] at hn;cases hn),fun b hb=>?_,fun b hb=>hok'.mo b hb,Cs fun x hx c hc=>hlf x (List.mem_append_left _ hx) c hc⟩
      · have:=hok'.lens x (by rw[hrow'];exact List.mem_append_left _ hx);rw[hrow'] at this;exact this
      · obtain⟨h1,cur,h2,h3,h4,h5,h6⟩:=hok'.some b hb
        rw[hrow'] at h2 h3 h4 h6
        refine⟨h1,cur,h2,h3,by simp only[List.length_append] at h4 ⊢;omega,h5,fun i x hx j c hc=>?_⟩
        obtain⟨u,f1,f2⟩:=h6 i x (by simp only at hx ⊢;rw[List.getElem?_append_left (List.getElem?_eq_some_iff.1 hx).1];exact hx) j c hc
        exact⟨u,f1,En (hp x (List.mem_append_left _ (List.mem_of_getElem? hx)) c (List.mem_of_getElem? hc)) _ f2⟩
  · match i,j,hi,hj with
    | 0,0,_,_=>rfl
  · refine⟨hE.sys.trans ht.sys,hE.tape.trans ht.tape,hE.output.trans ht.output,Nat.le_trans ht.size hE.size,hE.LY,fun b hb=>(hE.HP b hb).trans (hF b hb),fun b hb h1 h2=>?_,fun i oi hi hoi=>?_⟩
    · have hne:b≠b0:=fun e=>h2 o (by simp) (.inl (by rw[e];exact hb0))
      have hnm:¬ o.more b:=fun hm=>h2 o (by simp) (.inr hm)
      obtain⟨f1,f2,f3⟩:=hE.other b (Nat.lt_of_lt_of_le hb ht.size) h1 (fun q hq hob=>by
        rcases List.mem_cons.1 hq with rfl | hq
        · rcases hob with hob | hob
          · simp only[Option.some.injEq] at hob;exact hne hob.symm
          · exact hnm hob
        · exact h2 q (by simp[hq]) hob)
      refine⟨f1.trans (ht.EO b hb (fun e=>hne (by cases e;rfl))),f2,fun q hq hob=>?_⟩
      simp only[List.mem_singleton] at hq
      subst hq
      exact f3 o' (by simp) hob
    · match i,hoi with
      | 0,hoi=>
        simp only[List.getElem?_cons_zero,Option.some.injEq] at hoi
        subst hoi
        exact⟨_,rfl,by rw[hrow];exact Nat.le_refl _,by rw[hrow],fun _=>⟨by rw[hb0];exact e4,e5,by rw[hrow]⟩⟩
      | _+1,_=>omega
theorem V8 {t ty:TypeId} {ei:WN} {g:Nat} {xs:List (List AV)} {ys:List (List AV)} {y:AV} {ux ud:Value} (hr:Rel F os s a w) {rst:List Row} (hst:s.st=⟨g,ei.e,ei.size,xs⟩ :: rst) (hrst :∀row∈rst,Dj row.xs) (he:By P t=some ei)
    (hd:Ae F w os (.own 0 g xs.length) ud) (hx:Ae F w os y ux) (hel:EL s.st y ys) (hys :∀z∈ys,z.length=ei.size) (hp:Dj (xs ++ ys)) (hne:ys≠[]) (hb:(xs.length+ys.length) * ei.bytes≤140737488355328) (hm:xs.length+ys.length≤9223372036854775807) :
    ∃o ros u w',os=o :: ros∧o.row=⟨g,ei.e,ei.size,xs⟩∧(Builtin.append_ #[t,t] ty #[ud,ux]).run P w=.ok u w'∧
      ((∃b0,o.Eb=some b0∧¬ F b0∧FF w w' (some b0)∧Rel F (⟨⟨g,ei.e,ei.size,xs ++ ys⟩,some b0,o.cap,o.more⟩ :: ros) ⟨s.n,fun t=>cy (s.env t),⟨g,ei.e,ei.size,xs ++ ys⟩ :: rst⟩ a w'∧
          u=.slice (some ⟨b0,0,none⟩) (xs.length+ys.length) o.cap)∨
       (∃cap,Rel F (os ++ [⟨⟨0,ei.e,ei.size,xs ++ ys⟩,some w.heap.size,cap,Dv⟩]) { s with st:=s.st ++ [⟨0,ei.e,ei.size,xs ++ ys⟩] } a w'∧Ext F os w F (os ++ [⟨⟨0,ei.e,ei.size,xs ++ ys⟩,some w.heap.size,cap,Dv⟩]) w' k∧
          u=.slice (some ⟨w.heap.size,0,none⟩) (xs.length+ys.length) cap)):=by
  obtain⟨inf,z,hu,hi,hz,hzs,hpos,hsz,hby,_,_⟩:=FU he
  obtain⟨ys',h,hys',hylf,⟨ad,c,rfl,hsrc⟩⟩:=T5 (size:=ei.size) (K:=fun z=>z=ys) hr (hel _ ⟨hys,rfl⟩) hx
  subst h
  have hos :∃o ros,os=o :: ros∧o.row=⟨g,ei.e,ei.size,xs⟩∧ros.map Own.row=rst:=by
    have:=hr.st
    rw[hst] at this
    cases os with
    | nil=>cases this
    | cons o ros=>
      simp only[List.map_cons,List.cons.injEq] at this
      exact⟨o,ros,rfl,this.1,this.2⟩
  obtain⟨o,ros,rfl,hrow,hros⟩:=hos
  have hylf :∀y∈ys',∀c∈y,c.leaf=true:=by
    rcases hylf with e | h
    · exact absurd e hne
    · exact h
  have hylen:0 < ys'.length:=List.length_pos_iff.2 hne
  have hnews :∃b off,ad=some ⟨b,off,none⟩∧∃us:List Value,us.length=ys'.length * inf.size∧(∀(j:Nat) u,us[j]?=some u→w.cell? ((⟨b,off,none⟩:Addr).add j)=some u)∧(∀u∈us,u.oneCell'=true)∧Fj F w (o :: ros) ei.size us ys':=by
    rcases hsrc with e | ⟨b,off,rfl,hc⟩
    · exact absurd e hne
    · obtain⟨us,h1,h2,h3,h4⟩:=OR hys' hc
      exact⟨b,off,rfl,us,by rw[h1,hsz],h2,h3,h1,fun i y hy j c hc=>by obtain⟨u,e1,_,e2⟩:=h4 i y hy j c hc;exact⟨u,e1,e2⟩⟩
  obtain⟨b,off,rfl,us,hul,hcell,hone,hrep⟩:=hnews
  have hok:=hr.rows 0 o rfl
  have hxlf:=Pp (xs:=xs) (fun x hx=>hp x (List.mem_append_left _ hx)) hok (by rw[hrow])
  have hlens :∀x∈xs ++ ys',x.length=ei.size∧∀c∈x,c.leaf=true:=fun x hx=>by
    rcases List.mem_append.1 hx with h | h
    · have:=(hok.lens x (by rw[hrow];exact h)).1;rw[hrow] at this;exact⟨this,hxlf x h⟩
    · exact⟨hys' x h,hylf x h⟩
  have hgrow :∀(cap:Nat) (olds:List Value),Fj F w (o :: ros) ei.size olds xs→xs.length+ys'.length≤cap→cap≤maxLen→
      Rel F ((o :: ros) ++ [⟨⟨0,ei.e,ei.size,xs ++ ys'⟩,some w.heap.size,cap,Dv⟩]) { s with st:=s.st ++ [⟨0,ei.e,ei.size,xs ++ ys'⟩] } a (w.drew.alloc (.cells (olds.toArray ++ us.toArray ++ Builtin.zeroCells z.cells (cap - (xs.length+ys'.length))) ei.e))∧
      Ext F (o :: ros) w F ((o :: ros) ++ [⟨⟨0,ei.e,ei.size,xs ++ ys'⟩,some w.heap.size,cap,Dv⟩]) (w.drew.alloc (.cells (olds.toArray ++ us.toArray ++ Builtin.zeroCells z.cells (cap - (xs.length+ys'.length))) ei.e)) k:=fun cap olds hold hcap hmax=>by
    obtain⟨e1,e2⟩:=Ma (F:=F) (w:=w) (os:=o :: ros) (z:=z) (size:=ei.size) (n:=xs.length) (m:=ys'.length) (cap:=cap) (by rw[hzs,hsz]) rfl rfl hold hrep hcap
    have:=hr.Mv (k:=k) (.inr rfl) (cur:=_) (e:=ei.e) (size:=ei.size) (cap:=cap) (xs:=xs ++ ys') (by omega) hlens e1 (by simpa using hcap) hmax (fun i x hx j c hc=>e2 i x hx j c hc)
    exact⟨this.1,this.2.1⟩
  have hge:=grownCap_ge w (xs.length+ys'.length)
  have hlem:=grownCap_le_maxLen w (xs.length+ys'.length)
  simp only[Ae] at hd
  obtain⟨o',ho',_,_,hd⟩:=hd
  simp only[List.getElem?_cons_zero,Option.some.injEq] at ho'
  subst ho'
  obtain⟨_,hd⟩:=hd (by rw[hrow])
  rw[hrow] at hd
  simp only[Nat.sub_self,Nat.zero_mul,Nat.sub_zero] at hd
  rcases hd with ⟨hbn,a0,rfl⟩ | ⟨b0,Gp,rfl⟩
  · have hn0:=(hok.none hbn).1
    rw[hrow] at hn0
    dsimp only at hn0
    subst hn0
    have hrun:(Builtin.append_ #[t,t] ty #[.slice a0 0 0,.slice (some ⟨b,off,none⟩) ys'.length c]).run P w=.ok (.slice (some ⟨w.heap.size,0,none⟩) (0+ys'.length) (grownCap w (0+ys'.length) 0 ei.e))
        (w.drew.alloc (.cells (([]:List Value).toArray ++ us.toArray ++ Builtin.zeroCells z.cells (grownCap w (0+ys'.length) 0 ei.e - (0+ys'.length))) ei.e)):=by
      cases a0 with
      | none=>
        have:=run_append_nil (P:=P) w t ty ei.e inf z hu hi hz ⟨b,off,none⟩ ys'.length c us hul hcell (by omega) (by simp at hm;omega) (by rw[← hby];simp at hb;omega)
        simpa using this
      | some a0=>
        have:=run_append_grow (P:=P) w t ty ei.e inf z hu hi hz a0 0 0 [] (by simp) (by simp) ⟨b,off,none⟩ ys'.length c us hul hcell (by omega) (by omega) (growslice_fits (by simp at hm;omega) (by rw[← hby];simpa using hb))
        simpa using this
    have hgg:=hgrow (grownCap w (0+ys'.length) 0 ei.e) [] (by simp[Fj]) (by simpa using hge 0 ei.e) (by simpa using hlem 0 ei.e (by simp[maxLen] at hm ⊢;omega))
    exact⟨o,ros,_,_,rfl,hrow,hrun,.inr ⟨_,hgg.1,hgg.2,rfl⟩⟩
  · obtain⟨hnF,cur,hcur,hcs,hlc,hmaxc,hcells⟩:=hok.some b0 Gp
    rw[hrow] at hcur hcs hlc hcells
    dsimp only at hcur hcs hlc hcells
    by_cases hroom:xs.length+ys'.length≤o.cap
    · have hfit:xs.length * inf.size+us.length≤cur.size:=by rw[hul,hcs,hsz,← Nat.add_mul];exact Nat.mul_le_mul_right _ hroom
      have hrun:=run_append_room (P:=P) w t ty ei.e inf hu hi b0 xs.length o.cap cur hcur ⟨b,off,none⟩ ys'.length c us hul hcell hone hroom hfit
      have hT:=FF.setRow w b0 (cur.toList.take (xs.length * inf.size) ++ us ++ cur.toList.drop (xs.length * inf.size+us.length)).toArray
      have hF :∀g,F g→(w.setRow b0 (cur.toList.take (xs.length * inf.size) ++ us ++ cur.toList.drop (xs.length * inf.size+us.length)).toArray).heap[g]?=w.heap[g]?:=fun g hg=>hT.EO g (hr.EO g hg) (fun e=>hnF (by cases e;exact hg))
      refine⟨o,ros,_,_,rfl,hrow,hrun,.inl ⟨b0,Gp,hnF,hT,⟨by simp only[List.map_cons,hros],fun t=>bk (fun _ h=>h) hF (hr.env t),hr.size,fun i oi hi=>?_,fun i j oi oj b hi hj hbi hbj=>?_,fun g hg=>Nat.lt_of_lt_of_le (hr.EO g hg) hT.size,hr.defers⟩,rfl⟩⟩
      · match i,hi with
        | 0,hi=>
          simp only[List.getElem?_cons_zero,Option.some.injEq] at hi
          subst hi
          have hcm :∀c u,simple c=true→Ae F w (o :: ros) c u→∀os',Ae F (w.setRow b0 (cur.toList.take (xs.length * inf.size) ++ us ++ cur.toList.drop (xs.length * inf.size+us.length)).toArray) os' c u:=fun c u hc h os'=>
            En hc os' (B6 (fun _ h=>h) hF [] [] (by simp) c u (En hc [] h))
          refine⟨by have:=hok.pos;rw[hrow] at this;exact this,fun x hx=>⟨(hlens x hx).1,fun c hc=>Cp ((hlens x hx).2 c hc)⟩,fun hn=>(by cases hn),fun b' hb'=>?_,fun g hg=>⟨(hok.mo g hg).1,by simpa using (hok.mo g hg).2.1,by rw[← Gp];exact (hok.mo g hg).2.2⟩,Cs fun x hx c hc=>(hlens x hx).2 c hc⟩
          simp only[Option.some.injEq] at hb'
          subst hb'
          refine⟨hnF,_,setRow_heap w b0 cur _ _ _ hcur,?_,by simpa using hroom,hmaxc,fun i y hy j c hc=>?_⟩
          · simp only[List.size_toArray,List.length_append,List.length_take,List.length_drop,Array.length_toList] at hfit ⊢
            rw[← hcs];omega
          · simp only at hy ⊢
            rw[Ir hfit]
            by_cases hin:i < xs.length
            · rw[List.getElem?_append_left hin] at hy
              obtain⟨u,f1,f2⟩:=hcells i y hy j c hc
              have hjl:j < ei.size:=by rw[← (hlens y (List.mem_append_left _ (List.mem_of_getElem? hy))).1];exact (List.getElem?_eq_some_iff.1 hc).1
              have:(i+1) * ei.size≤xs.length * ei.size:=Nat.mul_le_mul_right _ hin
              rw[Nat.add_mul] at this
              refine⟨u,?_,hcm c u (hp y (List.mem_append_left _ (List.mem_of_getElem? hy)) c (List.mem_of_getElem? hc)) f2 _⟩
              rw[if_pos (by rw[← hsz];omega)];exact f1
            · rw[List.getElem?_append_right (by omega)] at hy
              obtain⟨u,f1,f2⟩:=hrep.2 _ y hy j c hc
              refine⟨u,?_,hcm c u (hp y (List.mem_append_right _ (List.mem_of_getElem? hy)) c (List.mem_of_getElem? hc)) f2 _⟩
              have hlt:=(List.getElem?_eq_some_iff.1 f1).1
              have h3:xs.length * ei.size≤i * ei.size:=Nat.mul_le_mul_right _ (by omega)
              rw[Nat.sub_mul] at f1 hlt
              rw[if_neg (by rw[← hsz];omega),if_pos (by rw[← hsz];omega),← f1]
              congr 1
              rw[← hsz];omega
        | i+1,hi=>
          simp only[List.getElem?_cons_succ] at hi
          have hoi:=hr.rows (i+1) oi (by simpa using hi)
          have hpi:Dj oi.row.xs:=hrst oi.row (by rw[← hros];exact List.mem_map_of_mem (List.mem_of_getElem? hi))
          have hlfi:=Pp hpi hoi rfl
          have hni :∀b,oi.owns b→b≠b0:=fun b hb e=>by
            have:=hr.inj (i+1) 0 oi o b (by simpa using hi) rfl hb (.inl (by rw[e];exact Gp))
            omega
          refine⟨hoi.pos,hoi.lens,hoi.none,fun b hb=>?_,fun b hb=>⟨(hoi.mo b hb).1,Nat.lt_of_lt_of_le (hoi.mo b hb).2.1 hT.size,(hoi.mo b hb).2.2⟩,Cs hlfi⟩
          obtain⟨f1,cur',f2,f3,f4,f5,f6⟩:=hoi.some b hb
          refine⟨f1,cur',?_,f3,f4,f5,fun i' x hx j c hc=>?_⟩
          · rw[hT.EO b (hoi.lt (.inl hb)) (fun e=>hni b (.inl hb) (by cases e;rfl))];exact f2
          · obtain⟨u,g1,g2⟩:=f6 i' x hx j c hc
            have hc':=hpi x (List.mem_of_getElem? hx) c (List.mem_of_getElem? hc)
            exact⟨u,g1,En hc' _ (B6 (fun _ h=>h) hF [] [] (by simp) c u (En hc' [] g2))⟩
      · have key :∀(i:Nat) oi b,((⟨⟨g,ei.e,ei.size,xs ++ ys'⟩,some b0,o.cap,o.more⟩:Own) :: ros)[i]?=some oi→oi.owns b→∃oi',(o :: ros)[i]?=some oi'∧oi'.owns b:=fun i oi b hi hb=>by
          cases i with
          | zero=>
            simp only[List.getElem?_cons_zero,Option.some.injEq] at hi
            subst hi
            exact⟨o,rfl,hb.imp (fun hb=>by rw[Gp];exact hb) id⟩
          | succ i=>exact⟨oi,hi,hb⟩
        obtain⟨oi',q1,q2⟩:=key i oi b hi hbi
        obtain⟨oj',q3,q4⟩:=key j oj b hj hbj
        exact hr.inj i j oi' oj' b q1 q3 q2 q4
    · have hold :∀(i:Nat) y,xs[i]?=some y→LL F w (o :: ros) b0 (0+i * ei.size) y:=fun i y hy=>by
        have:=hr.MP (id:=0) (o:=o) rfl Gp (i:=i) (x:=y) (by rw[hrow];exact hy)
        rw[hrow] at this;simpa using this
      obtain⟨olds,h1,h2,_,h4⟩:=OR (fun x hx=>(hlens x (List.mem_append_left _ hx)).1) hold
      have hrun:=run_append_grow (P:=P) w t ty ei.e inf z hu hi hz ⟨b0,0,none⟩ xs.length o.cap olds (by rw[h1,hsz]) h2 ⟨b,off,none⟩ ys'.length c us hul hcell (by omega) (by omega) (growslice_fits (by omega) (by rw[← hby];exact hb))
      have hgg:=hgrow (grownCap w (xs.length+ys'.length) o.cap ei.e) olds ⟨h1,fun i y hy j c hc=>by obtain⟨u,f1,_,f2⟩:=h4 i y hy j c hc;exact⟨u,f1,f2⟩⟩ (hge o.cap ei.e) (hlem o.cap ei.e (by simp[maxLen];omega))
      exact⟨o,ros,_,_,rfl,hrow,hrun,.inr ⟨_,hgg.1,hgg.2,rfl⟩⟩
section
variable {P : Program} {ops : Array Oper} {Q : Exit → St → Prop} {n N f i : Nat} {listed listed' : Array Bool} {e : Nat → AV} {ty : TypeId} {p : String} {ed : Array Edge} {t : Tmp} {α : Type} {l l2 l' : List α} {enc : α → List AV} {x y : Operand} {g m size bytes : Nat} {el : TypeId} {zz : List AV} {T : TypeId} {rst : List Row} {k : Nat}
theorem Ax (h:listed=listed') {s:St} (ha:AX P k ops Q N f listed s):AX P k ops Q N f listed' s:=h ▸ ha
theorem AX.two (row row':Row) {s:St} (h :∀A A':Nat→Array Bool→St→Prop,(∀f l s,A f l s↔AX P k ops Q N f l s)→(∀f l s,A' f l s↔AX P k ops (Zc row row' Q) N f l s)→A f listed s):AX P k ops Q N f listed s:=
  h (AX P k ops Q N) (AX P k ops (Zc row row' Q) N) (fun _ _ _=>Iff.rfl) (fun _ _ _=>Iff.rfl)
theorem Jo {s:St} (h :∀A:Nat→Array Bool→St→Prop,(∀f l s,A f l s↔AX P k ops Q N f l s)→A f listed s):AX P k ops Q N f listed s:=
  h (AX P k ops Q N) (fun _ _ _=>Iff.rfl)
theorem Fo {ys:AV} (ho:ops[i]?=some ⟨some t,.call ⟨.builtin .append,#[x,y],#[T,T]⟩,ty,p,ed,none⟩) (hod:Cu n (some t)=true) (he:By P T=some ⟨el,size,bytes,zz⟩) (hrst :∀row∈rst,Dj row.xs) (hx:St.ev ⟨n,e,⟨g,el,size,l.map enc⟩ :: rst⟩ x=.own 0 g m) (hm:m=l.length) (hy:St.ev ⟨n,e,⟨g,el,size,l.map enc⟩ :: rst⟩ y=ys) (hel:EL (⟨g,el,size,l.map enc⟩ :: rst) ys (l2.map enc))
    (hl2:l2.isEmpty=false) (hs :∀a,(enc a).length=size) (hp :∀l:List α,Dj (l.map enc)) (ha:Sh.app l l2 bytes=some l')
    (h1:AX P 1 ops (Zc ⟨g,el,size,l.map enc⟩ ⟨g,el,size,l'.map enc⟩ Q) N f (listed.setIfInBounds i true) ⟨n,Dh (fun t=>cy (e t)) t (.own 0 g l'.length),⟨g,el,size,l'.map enc⟩ :: rst⟩)
    (h2:AX P 1 ops Q N f (listed.setIfInBounds i true) ⟨n,Dh e t (.own (rst.length+1) 0 l'.length),⟨g,el,size,l.map enc⟩ :: (rst ++ [⟨0,el,size,l'.map enc⟩])⟩) :
    Da P 1 ops Q N f listed ⟨n,e,⟨g,el,size,l.map enc⟩ :: rst⟩ i:=by
  subst hm
  unfold Sh.app at ha
  split at ha
  case isFalse=>cases ha
  rename_i hbd
  simp only[Option.some.injEq] at ha
  subst ha
  intro F0 os0 w0 F os a w hr he0
  have hxr:=hr.ev x
  rw[hx] at hxr
  have hyr:=hr.ev y
  rw[hy] at hyr
  have hpp:=hp (l ++ l2)
  rw[List.map_append] at hpp h1 h2
  obtain⟨o,ros,u,w',rfl,hrow,hrun,hA⟩:=V8 (k:=1) (ty:=ty) (ei:=⟨el,size,bytes,zz⟩) (g:=g) (xs:=l.map enc) (ys:=l2.map enc) hr rfl hrst he (by simpa using hxr) hyr hel
    (fun z hz=>by obtain⟨q,_,rfl⟩:=List.mem_map.1 hz;exact hs q) hpp (by intro e;rw[List.map_eq_nil_iff] at e;rw[e] at hl2;cases hl2) (by simpa using hbd.1) (by simpa using hbd.2)
  unfold wpOp
  simp only[ho]
  rw[if_pos (by rfl)]
  refine .inl ?_
  unfold Oper.wp
  simp only[execOp,resolve,invoke,builtin,Sem.run_bind,Sem.run_pure,Result.andThen_ok,List.map_toArray,List.map_cons,List.map_nil,hrun,Oper.upon]
  rcases hA with ⟨b0,Gp,hnF,hT,hR,rfl⟩ | ⟨cap,hR,hE,rfl⟩
  · have h3:=h1.2 F _ w' F _ _ w' (hR.put (d:=some t) hod (v:=.own 0 g (l ++ l2).length) (u:=.slice (some ⟨b0,0,none⟩) ((l.map enc).length+(l2.map enc).length) o.cap) (by
      simp only[Ae]
      exact⟨_,rfl,Nat.le_refl _,⟨_,_,_,rfl⟩,fun _=>⟨by simp,.inr ⟨b0,rfl,by simp⟩⟩⟩)) (Ext.refl _ _ _ _)
    refine QJ (fun c a'' w'' hp=>?_) (fun hl=>?_) (fun a'' w'' hp=>?_) _ h3
    · obtain⟨_,_,_,h4,_⟩:=hp;exact nomatch h4.1
    · obtain⟨_,_,h4,_⟩:=hl;exact nomatch h4
    obtain⟨s',F',os',⟨h4,h5⟩,h6,h7⟩:=hp
    obtain⟨s2,F2,os2,h8,h9,h10⟩:=aO (Q:=fun e s=>e=.normal∧Q e s) hpp hrow Gp hnF hT ⟨s',F',os',⟨h5.1,h4,h5.2⟩,h6,h7⟩ hr.EO
    exact⟨s2,F2,os2,h8,h9,he0.trans h10⟩
  · refine h2.2 F0 os0 w0 F _ _ w' ?_ (he0.trans hE)
    have hlen:ros.length=rst.length:=by
      have:=hr.st
      simp only[List.map_cons,List.cons.injEq] at this
      rw[← this.2,List.length_map]
    refine hR.put (d:=some t) hod (v:=.own (rst.length+1) 0 (l ++ l2).length) ?_
    simp only[Ae]
    exact⟨⟨⟨0,el,size,l.map enc ++ l2.map enc⟩,some w.heap.size,cap,Dv⟩,by rw[← hlen];simp,Nat.le_refl _,⟨_,_,_,rfl⟩,fun _=>⟨by simp,.inr ⟨_,rfl,by simp⟩⟩⟩
end
section
variable {P : Program} {ds : List (Option Tmp)} {r : List Oper} {KS : St → Prop} {n : Nat} {e : Nat → AV} {st : List Row} {ty : TypeId} {ps : String} {ed : Array Edge} {t : Tmp} {gd : Option (Nat × Bool)} {α : Type} {l l' : List α} {enc : α → List AV} {x : Operand} {size bytes : Nat} {el T : TypeId} {zz : List AV}
theorem Yg {lo hi:Option Operand} {i j:Int} (hg:GO ds gd e) (he:By P T=some ⟨el,size,bytes,zz⟩) (hx:St.ev ⟨n,e,st⟩ x=.sl (l.map enc)) (h1:RO (lo.map (St.ev ⟨n,e,st⟩)) 0=some i) (h2:RO (hi.map (St.ev ⟨n,e,st⟩)) l.length=some j) (hs :∀a,(enc a).length=size) (hl:Sh.sl l i j=some l')
    (hk:DF P (ds ++ [some t]) r KS ⟨n,Dh e t (.sl (l'.map enc)),st⟩):DF P ds (⟨some t,.slice T x lo hi none,ty,ps,ed,gd⟩ :: r) KS ⟨n,e,st⟩:=by
  refine Zs hg rfl (fun s0 e1 e2 hd k F os a w hr next Q hn=>?_) hk
  refine Lz (k:=k) (K:=(·=s0.put (some t) (.sl (l'.map enc)))) hr hd ?_ hn
  show TH P s0.st T (s0.ev x) (lo.map s0.ev) (hi.map s0.ev) (Option.map s0.ev none) (fun v st=>({ s0 with st:=st }:St).put (some t) v=s0.put (some t) (.sl (l'.map enc)))
  have ex:s0.ev x=St.ev ⟨n,e,st⟩ x:=e2 x (by simp[Op.operands])
  have elo:lo.map s0.ev=lo.map (St.ev ⟨n,e,st⟩):=by
    cases lo with
    | none=>rfl
    | some y=>simp only[Option.map_some];rw[e2 y (by simp[Op.operands])]
  have ehi:hi.map s0.ev=hi.map (St.ev ⟨n,e,st⟩):=by
    cases hi with
    | none=>rfl
    | some y=>simp only[Option.map_some];rw[e2 y (by simp[Op.operands])]
  rw[ex,elo,ehi,hx]
  unfold Sh.sl at hl
  split at hl
  · rename_i h
    simp only[Option.some.injEq] at hl
    subst hl
    refine Aj _ he (Aj _ h1 (Aj _ (by rw[List.length_map];exact h2) ⟨h.1,h.2.1,by simpa using h.2.2,fun z hz=>?_,?_⟩))
    · obtain⟨q,_,rfl⟩:=List.mem_map.1 hz;exact hs q
    · rw[List.map_drop,List.map_take]
  · cases hl
theorem UC {f:FuncId} {ars:Array Operand} {ts:Array TypeId} {args args':List AV} {rowsP rows0 rows1 rows1':List Row} {v v':AV} (sel:List Nat) (hg:GO ds gd e) (hb:DI P f=true) (hc:Aa P f args' rows0 fun r st=>r=v∧st=rows1) (ha:ars.toList.map (St.ev ⟨n,e,st⟩) ++ []=args) (hnd:sel.Nodup) (hlt:sel.all (· < st.length)=true)
    (hp:CG st sel=rowsP) (hs:SR sel rowsP rows0) (hf:args.map (Jm sel)=args') (hlen:rows1.length=sel.length) (h1:UN sel st.length rows1 rows1') (hv:UQ sel st.length v=v') (hst':G6 sel rows1' 0 st=st)
    (hk:DF P (ds ++ [some t]) r KS ⟨n,Dh e t v',st⟩):DF P ds (⟨some t,.call ⟨.value (.func f),ars,ts⟩,ty,ps,ed,gd⟩ :: r) KS ⟨n,e,st⟩:=by
  subst ha;subst hv;subst hp
  refine Zs hg rfl (fun s0 e1 e2 hd k F os a w hr next Q hn=>?_) hk
  refine Lz (k:=k) (K:=(·=s0.put (some t) (UQ sel st.length v))) hr hd ?_ hn
  show DI P f=true∧callThen P k s0 f (ars.toList.map s0.ev ++ []) (some t) _
  rw[Uf e2]
  refine⟨hb,K0 fun hle=>?_⟩
  subst e1
  obtain⟨e1,e3⟩:=hs.spec (st0:=s0.st) hle (fun row hrow=>by
    obtain⟨i,_,hi⟩:=List.mem_filterMap.1 hrow
    exact List.mem_of_getElem? hi)
  refine Lm (rows2:=[]) sel (by simpa using hc) hnd (fun i hi=>by simpa using List.all_eq_true.1 hlt i hi) e1 e3 hf hlen (fun row hrow=>by
    rw[List.append_nil] at hrow
    exact h1.leaf row hrow) fun _=>?_
  simp only[h1.spec,List.map_nil,List.append_nil,hst']
end
end Go.Abs



namespace Go.Abs
open Go
section
variable {P : Program} {k : Nat} {ops : Array Oper} {Q : Exit → St → Prop} {ds : List (Option Tmp)} {r : List Oper} {n : Nat} {e : Nat → AV} {st st' : List Row} {ty : TypeId} {p : String} {ed : Array Edge} {t : Tmp} {x y : Operand} {size bytes m : Nat} {el T Tn : TypeId} {zz : List AV} {α : Type} {enc : α → List AV} {u : α} {l' : List α} {kk : IntKind} {j : Int} {v : AV} {o : Oper}
theorem YB (hn:o.guard=none) (h :∀F os a w,Rel F os ⟨n,e,st⟩ a w→∃z w' F' os',(execOp a.eval o).run P w=.ok (.value z) w'∧Rel F' os' ⟨n,e,st'⟩ a w'∧Ae F' w' os' v z∧Ext F os w F' os' w' k)
  (hk:AO P k ops Q (ds ++ [o.dst]) r (St.put ⟨n,e,st'⟩ o.dst v)):AO P k ops Q ds (o :: r) ⟨n,e,st⟩:=by
 intro hl hds hdst F os a w hr Q' hQ
 have ho:ops[ds.length]?=some o:=by have:=hl 0;simpa using this.symm
 have hod:Cu n o.dst=true:=hdst o (by have:=List.mem_of_getElem? (l:=ops.toList) (i:=ds.length) (by simpa using ho);exact this)
 have hl' :∀(j:Nat),r[j]?=ops[(ds ++ [o.dst]).length+j]?:=fun j=>by
  have:=hl (j+1)
  simp only[List.getElem?_cons_succ] at this
  rw[this];congr 1;simp;omega
 have hds' :∀(j:Nat) d,(ds ++ [o.dst])[j]?=some d→(ops[j]?).map (·.dst)=some d:=fun j d hj=>by
  rcases Nat.lt_trichotomy j ds.length with h1 | h1 | h1
  ·rw[List.getElem?_append_left h1] at hj;exact hds j d hj
  ·subst h1;rw[Hg,Option.some.injEq] at hj;rw[ho];simp[hj]
  ·rw[List.getElem?_eq_none (by simp;omega)] at hj;cases hj
 obtain⟨z,w',F',os',h1,h2,h3,h4⟩:=h F os a w hr
 unfold wpList
 rw[if_pos (by unfold Region.wanted;rw[hn])]
 refine .inl ?_
 unfold Oper.wp
 rw[h1]
 simp only[Oper.upon]
 refine hk hl' hds' (by cases o.dst <;> exact hdst) F' os' _ w' (h2.put hod h3) Q' fun _ _ _ hp=>hQ _ _ _ (hp.trans h4)
theorem Xx (hs:Cx P T=true) (hx:St.ev ⟨n,e,st⟩ x=.zc) (hk:AO P k ops Q (ds ++ [some t]) r ⟨n,Dh e t (i64 0),st⟩) :
  AO P k ops Q ds (⟨some t,.call ⟨.builtin .cap,#[x],#[T]⟩,ty,p,ed,none⟩ :: r) ⟨n,e,st⟩:=by
 refine YB rfl (st':=st) (v:=i64 0) (fun F os a w hr=>?_) hk
 have h1:=hr.ev x
 rw[hx] at h1
 simp only[Ae] at h1
 obtain⟨ad,h1⟩:=h1
 unfold Cx at hs
 split at hs
 case h_2=>cases hs
 rename_i el hu
 refine⟨.int .i64 0,w,F,os,?_,hr,by simp[Ae],Ext.refl _ _ _ _⟩
 simp only[execOp,resolve,invoke,builtin,Sem.run_bind,Sem.run_pure,Result.andThen_ok,List.map_toArray,List.map_cons,List.map_nil,h1,Builtin.cap_]
 simp[run_underlying hu,goInt]
theorem dU {hi:Option Operand} (he:By P T=some ⟨el,size,bytes,zz⟩) (hx:St.ev ⟨n,e,st⟩ x=.zc) (h2:RO (hi.map (St.ev ⟨n,e,st⟩)) 0=some 0)
  (hk:AO P k ops Q (ds ++ [some t]) r ⟨n,Dh e t .zc,st⟩):AO P k ops Q ds (⟨some t,.slice T x none hi none,ty,p,ed,none⟩ :: r) ⟨n,e,st⟩:=by
 refine Ks Ac ?_
 rw[Rl]
 simp only[Option.map_none]
 rw[hx]
 exact Aj _ he (Aj _ rfl (Aj _ h2 ⟨rfl,rfl,hk⟩))
theorem bF {kn:IntKind} (he:By P T=some ⟨el,size,bytes,zz⟩) (hn:P.underlying Tn=some (.int kn)) (hx:St.ev ⟨n,e,st⟩ x=.zc) (hy:St.ev ⟨n,e,st⟩ y=.int kk j) (h0:decide (0 < j)=true) (hz:enc u=zz) (hj:Sh.mk u j bytes=some l') (hm:st.length=m) (hst:st ++ [⟨0,el,size,l'.map enc⟩]=st')
  (hk:AO P k ops Q (ds ++ [some t]) r ⟨n,Dh e t (.own m 0 l'.length),st'⟩):AO P k ops Q ds (⟨some t,.call ⟨.builtin .append,#[x,y],#[T,Tn]⟩,ty,p,ed,none⟩ :: r) ⟨n,e,st⟩:=by
 subst hm;subst hst;subst hz
 unfold Sh.mk at hj
 split at hj
 case isFalse=>cases hj
 rename_i hbd
 simp only[Option.some.injEq] at hj
 subst hj
 refine YB rfl (st':=st ++ [(⟨0,el,size,(List.replicate j.toNat u).map enc⟩:Row)]) (v:=.own st.length 0 (List.replicate j.toNat u).length) (fun F os a w hr=>?_) hk
 have h1:=hr.ev x
 rw[hx] at h1
 simp only[Ae] at h1
 obtain⟨ad,h1⟩:=h1
 have h2:=hr.ev y
 rw[hy] at h2
 simp only[Ae] at h2
 obtain⟨inf,z,hu,hi,hz,hzs,hpos,hsz,hby,hzz,hlf⟩:=FU he
 dsimp only at hu hi hzs hpos hsz hby hzz hlf
 have hj0:0 < j:=of_decide_eq_true h0
 obtain⟨q,rfl⟩:=Int.eq_ofNat_of_zero_le (Int.le_of_lt hj0)
 rw[Int.toNat_natCast]
 have hq0:0 < q:=by omega
 have hq48:q * inf.bytes≤281474976710656:=by
  have h9:((q * bytes:Nat):Int)≤281474976710656:=by rw[Int.natCast_mul];exact hbd.2.1
  rw[← hby];omega
 have hold:(Builtin.firstCells inf.size 0 (.slice ad 0 0)).run P w.drew=.ok ([]:List Value).toArray w.drew:=by
  cases ad with
  | none=>exact run_firstCells_none w.drew inf.size 0 0 0
  | some ad=>exact run_firstCells_some w.drew inf.size 0 ad 0 0 [] (by simp) (by simp)
 have hfit:Builtin.nextslicecap (0+q) 0 * inf.bytes≤281474976710656:=by rw[Nat.zero_add,nextslicecap_zero hq0];exact hq48
 have hrun:=Lib.run_append_grow_zeros (P:=P) w T Tn ty el inf z kk kn hu hn hi hz ad 0 0 [] hold q hq0 (by omega) (by omega) (by omega) hq48 hfit
 rw[Nat.zero_add] at hrun
 have hge:=grownCap_ge w q 0 el
 have hle:=grownCap_le_maxLen w q 0 el (by unfold maxLen;omega)
 have hzc :∀i,i < z.cells.size→∃c',z.cells[i]?=some c':=fun i hi=>⟨_,Array.getElem?_eq_getElem hi⟩
 have hadd:=hr.Mv (k:=k) (.inr rfl) (cur:=([]:List Value).toArray ++ Builtin.zeroCells z.cells q ++ Builtin.zeroCells z.cells (grownCap w q 0 el - q)) (e:=el) (size:=size) (cap:=grownCap w q 0 el) (xs:=(List.replicate q u).map enc)
  (by omega) (fun x hx=>by
   rw[List.map_replicate] at hx
   rw[List.eq_of_mem_replicate hx,hzz]
   refine⟨by simp[hzs,hsz],fun c hc=>hlf c (by rw[hzz];exact hc)⟩)
  (by
   simp only[Array.size_append,List.size_toArray,List.length_nil,size_zeroCells,hzs,hsz,Nat.zero_add,← Nat.add_mul]
   congr 1;omega)
  (by rw[List.length_map,List.length_replicate];omega) hle (fun i x hx jj c hc=>by
   rw[List.map_replicate] at hx
   have hi:i < q:=by
    have:=(List.getElem?_eq_some_iff.1 hx).1
    simpa using this
   have hx':x=enc u:=List.eq_of_mem_replicate (List.mem_of_getElem? hx)
   subst hx'
   rw[hzz] at hc
   simp only[List.getElem?_map,Option.map_eq_some_iff,Array.getElem?_toList] at hc
   obtain⟨c',hc1,rfl⟩:=hc
   have hjl:jj < z.cells.size:=(Array.getElem?_eq_some_iff.1 hc1).1
   refine⟨c',?_,JZ F w os c'⟩
   have hlt:i * size+jj < q * size:=by
    have:(i+1) * size≤q * size:=Nat.mul_le_mul_right _ hi
    rw[Nat.add_mul] at this
    omega
   rw[Array.append_assoc,show (([]:List Value).toArray ++ (Builtin.zeroCells z.cells q ++ Builtin.zeroCells z.cells (grownCap w q 0 el - q)))=(Builtin.zeroCells z.cells q ++ Builtin.zeroCells z.cells (grownCap w q 0 el - q)) by simp]
   rw[Array.getElem?_append_left (by rw[size_zeroCells,hzs,← hsz];exact hlt)]
   unfold Builtin.zeroCells
   rw[Array.getElem?_map,Array.getElem?_range]
   rw[if_pos (by rw[hzs,← hsz];exact hlt)]
   simp only[Option.map_some,Option.some.injEq]
   have hmod:(i * size+jj) % z.cells.size=jj:=by
    rw[hzs,← hsz,Nat.mul_comm,Nat.mul_add_mod]
    exact Nat.mod_eq_of_lt (by omega)
   rw[hmod]
   simp[Array.getElem!_eq_getD,Array.getD,hjl,(Array.getElem?_eq_some_iff.1 hc1).2])
 refine⟨.slice (some ⟨w.heap.size,0,none⟩) q (grownCap w q 0 el),_,F,_,?_,hadd.1,?_,hadd.2.1⟩
 ·simp only[execOp,resolve,invoke,builtin,Sem.run_bind,Sem.run_pure,Result.andThen_ok,List.map_toArray,List.map_cons,List.map_nil,h1,h2]
  rw[hrun]
  simp
 ·simp only[Ae]
  have hlen:st.length=os.length:=hr.len
  exact⟨_,by rw[hlen];exact Hg _ _,Nat.le_refl _,⟨_,_,_,rfl⟩,fun _=>⟨by simp,.inr ⟨_,rfl,by simp⟩⟩⟩
end
section
variable {P : Program} {ds : List (Option Tmp)} {r : List Oper} {KS : St → Prop} {n : Nat} {e : Nat → AV} {st : List Row} {ty : TypeId} {ps : String} {ed : Array Edge} {t : Tmp} {gd : Option (Nat × Bool)} {α : Type} {l : List α} {enc : α → List AV} {u : α} {x y : Operand} {size bytes : Nat} {el T : TypeId} {zz : List AV} {kk kk' : IntKind} {j : Int}
theorem fS (hg:GO ds gd e) (he:By P T=some ⟨el,size,bytes,zz⟩) (hx:St.ev ⟨n,e,st⟩ x=.int kk j) (hy:St.ev ⟨n,e,st⟩ y=.int kk' j) (hz:enc u=zz) (hl:Sh.mk u j bytes=some l) (hpu:Dj (l.map enc))
  (hk:DF P (ds ++ [some t]) r KS ⟨n,Dh e t (.sl (l.map enc)),st⟩):DF P ds (⟨some t,.makeSlice T x y,ty,ps,ed,gd⟩ :: r) KS ⟨n,e,st⟩:=by
 subst hz
 refine Zs hg rfl (fun s0 e1 e2 hd k F os a w hr next Q hn=>?_) hk
 have ex:s0.ev x=.int kk j:=(e2 x (by simp[Op.operands])).trans hx
 have ey:s0.ev y=.int kk' j:=(e2 y (by simp[Op.operands])).trans hy
 have hxr:=hr.ev x
 have hyr:=hr.ev y
 rw[ex] at hxr
 rw[ey] at hyr
 unfold Sh.mk at hl
 split at hl
 case isFalse=>cases hl
 rename_i h
 simp only[Option.some.injEq] at hl
 subst hl
 have h9:GR P 0 F [] ⟨s0.n,fun _=>.Eu,[]⟩ a w (Instr.makeSlice T (a.eval x) (a.eval y)) (fun z st=>z=.own 0 0 (List.replicate j.toNat u).length∧st=[⟨0,el,size,(List.replicate j.toNat u).map enc⟩]):=by
  refine Vd (l:=.int kk j) (c:=.int kk' j) hr.bare (Aj _ he ⟨rfl,h.1,h.2.1,h.2.2,?_⟩) (En (x:=.int kk j) rfl [] hxr) (En (x:=.int kk' j) rfl [] hyr)
  simp
 obtain⟨u',w',F',g1,g2,g3,g4⟩:=MR (k:=k) hr h9 (Tq hpu) rfl
 unfold Oper.wp
 simp only[execOp,Sem.run_bind,g1,Result.andThen_ok,Sem.run_pure,Oper.upon]
 exact hn _ _ (MK (st':=s0.st) hd rfl g2 g3 g4)
end
theorem D2 {row:Row} {rst:List Row} (h:Dj row.xs) (g :∀q∈rst,Dj q.xs) :∀q∈row :: rst,Dj q.xs:=fun q hq=>by
 rcases List.mem_cons.1 hq with rfl | hq
 ·exact h
 ·exact g q hq
section
variable {P : Program} {k : Nat} {ops : Array Oper} {Q : Exit → St → Prop} {ds : List (Option Tmp)} {r : List Oper} {n : Nat} {e : Nat → AV} {st st' : List Row} {ty : TypeId} {p : String} {ed : Array Edge} {t : Tmp} {x y : Operand} {size bytes m : Nat} {el T : TypeId} {zz : List AV} {kk kk' : IntKind} {c : Nat}
theorem Zj (he:By P T=some ⟨el,size,bytes,zz⟩) (hx:St.ev ⟨n,e,st⟩ x=.int kk 0) (hy:St.ev ⟨n,e,st⟩ y=.int kk' (c:Int)) (hc:decide (c * bytes≤281474976710656∧c≤9223372036854775807)=true) (hm:st.length=m) (hst:st ++ [⟨0,el,size,[]⟩]=st')
  (hk:AO P k ops Q (ds ++ [some t]) r ⟨n,Dh e t (.own m 0 0),st'⟩):AO P k ops Q ds (⟨some t,.makeSlice T x y,ty,p,ed,none⟩ :: r) ⟨n,e,st⟩:=by
 subst hm;subst hst
 have hbd:=of_decide_eq_true hc
 refine YB rfl (st':=st ++ [(⟨0,el,size,[]⟩:Row)]) (v:=.own st.length 0 0) (fun F os a w hr=>?_) hk
 have h1:=hr.ev x
 rw[hx] at h1
 simp only[Ae] at h1
 have h2:=hr.ev y
 rw[hy] at h2
 simp only[Ae] at h2
 obtain⟨inf,z,hu,hi,hz,hzs,hpos,hsz,hby,hzz,hlf⟩:=FU he
 dsimp only at hu hi hzs hpos hsz hby hzz hlf
 have hrun:=run_make (P:=P) w T el inf z hu hi hz kk kk' 0 (c:Int) (by omega) (by omega) (by rw[← hby,← Int.natCast_mul,Nat.mul_comm];omega) (by omega)
 have hadd:=hr.Mv (k:=k) (.inl rfl) (cur:=madeCells z.cells (c * inf.size)) (e:=el) (size:=size) (cap:=c) (xs:=[]) (by omega) (by simp) (by rw[size_madeCells,hsz]) (by simp) (by simp[maxLen];omega) (by simp)
 refine⟨.slice (some ⟨w.heap.size,0,none⟩) 0 c,_,F,_,?_,hadd.1,?_,hadd.2.1⟩
 ·simp only[execOp,Sem.run_bind,Sem.run_pure,Result.andThen_ok,h1,h2]
  rw[hrun]
  simp
 ·simp only[Ae]
  have hlen:st.length=os.length:=hr.len
  exact⟨_,by rw[hlen];exact Hg _ _,Nat.le_refl _,⟨_,_,_,rfl⟩,fun _=>⟨by simp,.inr ⟨_,rfl,by simp⟩⟩⟩
end
end Go.Abs



namespace Go.Abs
open Go
variable {P : Program} {n : Nat} {e : Nat → AV} {st : List Row} {t : Tmp} {ty : TypeId} {ps : String} {ed : Array Edge} {x : Operand}
theorem Ic {id g i off off' el size j f:Nat} {tt:TypeId} {xs:List (List AV)} (hf:HR P tt f=some j) (h:St.ev ⟨n,e,st⟩ x=.ptr id g i off) (hrow:st[id]?=some ⟨g,el,size,xs⟩) (hl:off+j≤size) (ho:off+j=off'):Ph P ⟨n,e,st⟩ ⟨some t,.fieldAddr tt x f,ty,ps,ed,none⟩ (.ptr id g i off'):=
 ⟨rfl,fun F os a w hr=>by
  subst ho
  have h1:=hr.ev x
  rw[h] at h1
  unfold HR at hf
  split at hf <;> try (cases hf;done)
  rename_i fs hu
  split at hf <;> try (cases hf;done)
  rename_i g1 hg
  split at hf <;> try (cases hf;done)
  rename_i i1 hi
  split at hf
  ·cases hf
  rename_i hz
  simp only[Option.some.injEq] at hf
  have hrun :∀b off w',(Instr.fieldAt tt (.pointer (some ⟨b,off,none⟩)) f).run P w'=.ok (.pointer (some ⟨b,off+j,none⟩)) w':=fun b off w'=>by
   simp[Instr.fieldAt,run_underlying hu,hg,Instr.sureAddr,fieldPlace,sizeOf,typeInfo,hi,hz,B1,hf]
  obtain⟨ow,how,hrw⟩:=hr.row hrow
  simp only[Ae] at h1
  obtain⟨o',ho',hge,_,hv⟩:=h1
  rw[how] at ho';cases ho'
  have hgg:ow.row.gen=g:=by rw[hrw]
  obtain⟨h2,h3,b,hb,e2⟩:=hv hgg
  refine⟨.pointer (some ⟨b,i * ow.row.size+off+j,none⟩),fun w'=>?_,?_⟩
  ·simp[execOp,e2,hrun]
  ·simp only[Ae]
   exact⟨ow,how,hge,⟨_,rfl⟩,fun _=>⟨h2,by rw[hrw];exact hl,b,hb,by rw[Nat.add_assoc]⟩⟩⟩
end Go.Abs



namespace Go.Abs
open Go
def SF (F:Nat→Prop) (w:World):World→Prop:=fun w'=>∀b,F b→w'.heap[b]?=w.heap[b]?
section
variable {P : Program} {k : Nat} {ops : Array Oper} {Q : Exit → St → Prop} {N f i : Nat} {listed listed' : Array Bool} {s s' : St} {o : Oper}
def AY (P:Program) (k:Nat) (ops:Array Oper) (Q:Exit→St→Prop) (N f:Nat) (listed:Array Bool) (s:St):Prop:=
 s.n=N∧∀F0 os0 w0 F os a w,Rel F os s a w→Ext F0 os0 w0 F os w k→wpAnyH P .any ops (Lu k Q F0 os0 w0) (SF F0 w0) f listed a w
def Xg (P:Program) (k:Nat) (ops:Array Oper) (Q:Exit→St→Prop) (N f:Nat) (listed:Array Bool) (s:St) (i:Nat):Prop:=
 ∀F0 os0 w0 F os a w,Rel F os s a w→Ext F0 os0 w0 F os w k→wpOp P ops (Lu k Q F0 os0 w0) i (fun a' w'=>SF F0 w0 w'∧wpAnyH P .any ops (Lu k Q F0 os0 w0) (SF F0 w0) f (listed.setIfInBounds i true) a' w') a w
def Z5 (P:Program) (k:Nat) (ops:Array Oper) (Q:Exit→St→Prop) (N f:Nat) (listed:Array Bool) (s:St):List Nat→Prop
 | []=>True
 | i :: r=>Xg P k ops Q N f listed s i∧Z5 P k ops Q N f listed s r
theorem Z5.get :∀{l:List Nat},Z5 P k ops Q N f listed s l→∀i∈l,Xg P k ops Q N f listed s i
 | j :: r,h,i,hi=>by
  rcases List.mem_cons.1 hi with rfl | hi
  ·exact h.1
  ·exact Z5.get h.2 i hi
theorem AY.all (rs:List Nat) (hn:s.n=N) (hr:Region.ready .any ops listed=rs) (hne:rs≠[]) (h:Z5 P k ops Q N f listed s rs):AY P k ops Q N (f+1) listed s:=
 ⟨hn,fun F0 os0 w0 F os a w hrel he=>wpAnyH_all hr hne fun i hi=>h.get i hi F0 os0 w0 F os a w hrel he⟩
theorem PV (hn:s.n=N) (hr:Region.ready .any ops listed=[]) (h:Q .normal s):AY P k ops Q N f listed s:=
 ⟨hn,fun _ _ _ F os a w hrel he=>wpAnyH_done hr ⟨s,F,os,⟨rfl,h⟩,hrel,he⟩ f⟩
theorem QX (hw:Wk k s s') (h:AY P k ops Q N f listed s') (hn:s.n=N):AY P k ops Q N f listed s:=
 ⟨hn,fun F0 os0 w0 F os a w hrel he=>by
  obtain⟨F1,os1,h1,e1⟩:=hw F os a w hrel
  exact h.2 F0 os0 w0 F1 os1 a w h1 (he.trans e1)⟩
theorem Vc (h:listed=listed') (ha:AY P k ops Q N f listed s):AY P k ops Q N f listed' s:=h ▸ ha
theorem R3 (h :∀A:Nat→Array Bool→St→Prop,(∀f l s,A f l s↔AY P k ops Q N f l s)→A f listed s):AY P k ops Q N f listed s:=
 h (AY P k ops Q N) (fun _ _ _=>Iff.rfl)
theorem Xg.of (ho:ops[i]?=some o) (hg:L3 o i=true) (hd:(ops.toList.all fun o=>Cu s.n o.dst)=true)
  (h:AO P k (ops.extract 0 (i+1)) (fun e s'=>e=.normal∧AY P k ops Q N f (listed.setIfInBounds i true) s') ((ops.toList.take i).map (·.dst)) [o] s):Xg P k ops Q N f listed s i:=by
 intro F0 os0 w0 F os a w hrel he
 have hi:i < ops.size:=(Array.getElem?_eq_some_iff.1 ho).1
 have hex :∀j,(ops.extract 0 (i+1))[j]?=if j < i+1 then ops[j]? else none:=fun j=>by
  rw[Array.getElem?_extract]
  split <;> split <;> simp_all <;> omega
 have h1:=h (fun j=>by
   have hlen:((ops.toList.take i).map (·.dst)).length=i:=by simp;omega
   rw[hlen,hex]
   cases j with
   | zero=>simp[ho]
   | succ j=>rw[if_neg (by omega)];simp) (fun j d hj=>by
   simp only[List.getElem?_map,List.getElem?_take] at hj
   split at hj
   ·rw[hex,if_pos (by omega)];simpa using hj
   ·cases hj) (fun o' ho'=>by
   obtain⟨j,hj⟩:=List.mem_iff_getElem?.1 ho'
   rw[Array.getElem?_toList,hex] at hj
   split at hj
   ·exact List.all_eq_true.1 hd o' (List.mem_of_getElem? (i:=j) (by simpa using hj))
   ·cases hj) F os a w hrel (fun e a' w'=>e=.normal∧SF F0 w0 w'∧wpAnyH P .any ops (Lu k Q F0 os0 w0) (SF F0 w0) f (listed.setIfInBounds i true) a' w') (by
   rintro e a' w' ⟨s',F',os',⟨rfl,hax⟩,hr',he'⟩
   exact⟨rfl,(he.trans he').HP,hax.2 F0 os0 w0 F' os' a' w' hr' (he.trans he')⟩)
 have hy:Region.wanted o (yielded (ops.extract 0 (i+1)) a.tmps)=Region.wanted o (yielded ops a.tmps):=by
  unfold Region.wanted
  unfold L3 at hg
  cases hgd:o.guard with
  | none=>rfl
  | some p=>
   obtain⟨j,want⟩:=p
   rw[hgd] at hg
   simp only[decide_eq_true_eq] at hg
   simp only[yielded,hex,if_pos hg]
 unfold wpList at h1
 unfold wpOp
 simp only[ho]
 rw[hy] at h1
 split at h1
 ·rename_i hw
  rw[if_pos hw]
  rcases h1 with h1 | ⟨_,a1,w1,h1,_⟩
  ·refine .inl (Oper.wp_mono (fun a' w' h'=>?_) (Ms (fun c a' w' h'=>?_) (fun h'=>?_) h1))
   ·exact h'.2
   ·exact nomatch h'.1
   ·obtain⟨_,_,h2,_⟩:=h';exact nomatch h2
  ·exact nomatch h1
 ·rename_i hw
  rw[if_neg hw]
  exact h1.2
theorem AY.hoist (i:Nat) {v:AV} (hn:s.n=N) (ho:ops[i]?=some o) (hs:Region.noSelect ops=true) (hf:Region.free .any ops listed i=true) (hr:(Region.ready .any ops listed).contains i=true) (hd:Cu s.n o.dst=true) (hh:Ph P s o v)
  (h:AY P k ops Q N f (listed.setIfInBounds i true) (s.put o.dst v)):AY P k ops Q N (f+1) listed s:=
 ⟨hn,fun F0 os0 w0 F os a w hrel he=>by
  obtain⟨hg,hh⟩:=hh
  obtain⟨u,hu,hv⟩:=hh F os a w hrel
  refine wpAnyH_take ho hs hf hr (fun c a w ⟨_,_,_,hp,_⟩=>nomatch hp.1) (.inl ⟨by unfold Region.wanted;rw[hg],fun w' _=>hu w'⟩) he.HP ?_
  exact h.2 F0 os0 w0 F os _ w (hrel.put hd hv) he⟩
def AZ (P:Program) (k:Nat) (ops:Array Oper) (Q:Exit→St→Prop) (N f:Nat) (listed:Array Bool) (s:St):Prop:=
 s.n=N∧∀F os a w,Rel F os s a w→wpAnyH P .any ops (Lu k Q F os w) (SF F w) f listed a w
theorem UP {f':Nat} (hf:f=f') (hl:listed=listed') (h:AZ P k ops Q N f' listed' s):AZ P k ops Q N f listed s:=hf ▸ hl ▸ h
theorem UM (h:AY P k ops Q N f listed s):AZ P k ops Q N f listed s:=
 ⟨h.1,fun F os a w hr=>h.2 F os w F os a w hr (Ext.refl F os w k)⟩
theorem Nt {id:Nat} (hm:P.follows .mixedOrders=true) (h:AZ P k ops Q s.n ops.size (Array.replicate ops.size false) s):AW P k (.region id ops true) Q s:=by
 intro F os a w hr
 obtain⟨hr1,he1⟩:=hr.drew (k:=k)
 refine wp_mono (wp_region_held hm (h.2 F os a w.drew hr1)) ?_
 rintro e a' w' ⟨s',F',os',⟨rfl,hq⟩,h1,h2⟩
 exact⟨s',F',os',hq,h1,he1.trans h2⟩
def TG (P:Program) (s:St) (o:Oper) (v:AV):Prop:=
 o.guard=none∧∀F os a w,Rel F os s a w→∃u,(∀w',SF F w w'→(execOp a.eval o).run P w'=.ok (.value u) w')∧Ae F w os v u
theorem D8 {v:AV} (h:Ph P s o v):TG P s o v:=⟨h.1,fun F os a w hr=>let ⟨u,h1,h2⟩:=h.2 F os a w hr;⟨u,fun w' _=>h1 w',h2⟩⟩
theorem CF (i:Nat) {v:AV} (hn:s.n=N) (ho:ops[i]?=some o) (hs:Region.noSelect ops=true) (hf:Region.free .any ops listed i=true) (hr:(Region.ready .any ops listed).contains i=true) (hd:Cu s.n o.dst=true) (hh:TG P s o v)
  (h:AZ P k ops Q N f (listed.setIfInBounds i true) (s.put o.dst v)):AZ P k ops Q N (f+1) listed s:=
 ⟨hn,fun F os a w hrel=>by
  obtain⟨hg,hh⟩:=hh
  obtain⟨u,hu,hv⟩:=hh F os a w hrel
  refine wpAnyH_take ho hs hf hr (fun c a w ⟨_,_,_,hp,_⟩=>nomatch hp.1) (.inl ⟨by unfold Region.wanted;rw[hg],hu⟩) (fun _ _=>rfl) ?_
  exact h.2 F os _ w (hrel.put hd hv)⟩
end
section
variable {P : Program} {n : Nat} {e : Nat → AV} {st : List Row} {t : Tmp} {ty : TypeId} {ps : String} {ed : Array Edge} {x : Operand}
theorem Md {off off' j f:Nat} {tt:TypeId} {cs:List AV} (hf:HR P tt f=some j) (h:St.ev ⟨n,e,st⟩ x=.Bd cs off) (ho:off+j=off'):Ph P ⟨n,e,st⟩ ⟨some t,.fieldAddr tt x f,ty,ps,ed,none⟩ (.Bd cs off'):=
 ⟨rfl,fun F os a w hr=>by
  subst ho
  have h1:=hr.ev x
  rw[h] at h1
  unfold HR at hf
  split at hf <;> try (cases hf;done)
  rename_i fs hu
  split at hf <;> try (cases hf;done)
  rename_i g1 hg
  split at hf <;> try (cases hf;done)
  rename_i i1 hi
  split at hf
  ·cases hf
  rename_i hz
  simp only[Option.some.injEq] at hf
  have hrun :∀b off w',(Instr.fieldAt tt (.pointer (some ⟨b,off,none⟩)) f).run P w'=.ok (.pointer (some ⟨b,off+j,none⟩)) w':=fun b off w'=>by
   simp[Instr.fieldAt,run_underlying hu,hg,Instr.sureAddr,fieldPlace,sizeOf,typeInfo,hi,hz,B1,hf]
  simp only[Ae] at h1
  obtain⟨b,o',e2,hb,hc⟩:=h1
  refine⟨.pointer (some ⟨b,o' + off+j,none⟩),fun w'=>?_,?_⟩
  ·simp[execOp,e2,hrun]
  ·simp only[Ae]
   exact⟨b,o',by rw[Nat.add_assoc],hb,hc⟩⟩
theorem Pg {off sz:Nat} {tt:TypeId} {cs:List AV} {c:AV} (hti:Ch P tt=some (false,sz)) (h:St.ev ⟨n,e,st⟩ x=.Bd cs off) (hc:cs[off]?=some c):TG P ⟨n,e,st⟩ ⟨some t,.load tt x,ty,ps,ed,none⟩ c:=
 ⟨rfl,fun F os a w hr=>by
  have h1:=hr.ev x
  rw[h] at h1
  simp only[Ae] at h1
  obtain⟨b,o',e2,hb,hcs⟩:=h1
  obtain⟨d,i,hud,hi,e1,e3⟩:=J5 hti
  obtain⟨u,hu1,hu2,hu3⟩:=J2 (os:=os) hcs off c hc
  refine⟨u,fun w' hw'=>?_,hu3⟩
  have hag:=MU (w:=w') hud
  rw[← e1] at hag
  have hcell:w'.cell? ⟨b,o' + off,none⟩=some u:=by rw[← hu1];exact World.cell?_of_block (hw' b hb)
  simp[execOp,e2,Instr.loadAt,Instr.sureAddr,loadVar,hag,hcell]⟩
theorem W0 {off sz:Nat} {tt:TypeId} {cs:List AV} {c:AV} (hti:Ch P tt=some (true,sz)) (h:St.ev ⟨n,e,st⟩ x=.Bd cs off) (hl:off+sz≤cs.length) (hc:.agg ((cs.drop off).take sz)=c):TG P ⟨n,e,st⟩ ⟨some t,.load tt x,ty,ps,ed,none⟩ c:=
 ⟨rfl,fun F os a w hr=>by
  subst hc
  have h1:=hr.ev x
  rw[h] at h1
  simp only[Ae] at h1
  obtain⟨b,o',e2,hb,hcs⟩:=h1
  obtain⟨d,i,hud,hi,e1,e3⟩:=J5 hti
  have hx:=J2 (os:=os) hcs
  have hch :∃f:Nat→Value,∀j,j < sz→w.cell? ((⟨b,o' + off,none⟩:Addr).add j)=some (f j)∧∀c,cs[off+j]?=some c→Ae F w os c (f j):=
   ⟨fun j=>(w.cell? ((⟨b,o' + off,none⟩:Addr).add j)).getD undef,fun j hj=>by
    have hlt:off+j < cs.length:=by omega
    obtain⟨u,hu1,_,hu2⟩:=hx (off+j) cs[off+j] (List.getElem?_eq_getElem hlt)
    have hu1':w.cell? ((⟨b,o' + off,none⟩:Addr).add j)=some u:=by rw[B1,← hu1,Nat.add_assoc]
    simp only[hu1',Option.getD_some]
    refine⟨trivial,fun c hc=>?_⟩
    rw[List.getElem?_eq_getElem hlt,Option.some.injEq] at hc
    exact hc ▸ hu2⟩
  obtain⟨f,hf⟩:=hch
  refine⟨.agg ((List.range sz).map f).toArray,fun w' hw'=>?_,?_⟩
  ·have hag:=MU (w:=w') hud
   rw[← e1] at hag
   have hsz:(sizeOf tt).run P w'=.ok i.size w':=by simp[sizeOf,typeInfo,hi]
   have hlc:=run_loadCells (P:=P) w' ⟨b,o' + off,none⟩ sz f (fun j hj=>by
    rw[← (hf j hj).1,B1]
    exact World.cell?_of_block (hw' b hb))
   simp only at e3
   simp[execOp,e2,Instr.loadAt,Instr.sureAddr,loadVar,hag,hsz,← e3,hlc]
  ·simp only[Ae]
   refine⟨_,rfl,Cv (by simp;omega) fun j c u hc hu=>?_⟩
   simp only[List.getElem?_take,List.getElem?_drop] at hc
   split at hc
   ·rename_i hj
    simp only[List.getElem?_map,List.getElem?_range hj,Option.map_some,Option.some.injEq] at hu
    subst hu
    exact (hf j hj).2 c hc
   ·cases hc⟩
end
section
variable {P : Program} {k : Nat} {α : Type} {l : List α} {enc : α → List AV}
variable {ops : Array Oper} {Q : Exit → St → Prop} {ds : List (Option Tmp)} {r : List Oper} {n : Nat} {e : Nat → AV} {st st' : List Row} {ty : TypeId} {ps : String} {ed : Array Edge} {v : AV} {gd : Option (Nat × Bool)} {T : TypeId} {x y : Operand} {ag : Bool} {sz id g size off : Nat} {el : TypeId} {cs cs' : List AV} {c : α} {i : Int}
end
end Go.Abs



namespace Go.Abs
open Go
end Go.Abs



namespace Go.Abs
open Go
theorem AU {k n:Nat} {e:Nat→AV} {st st':List Row} {L:List (Nat×AV)} (sel:List Nat) (hk:sel.take k=List.range k) (hnd:sel.Nodup) (hlt:sel.all (· < st.length)=true) (hp:CG st sel=st') (hs:SR sel st' st') (h:ME (fun t=>Jm sel (e t)) L) :
  Wk k ⟨n,e,st⟩ ⟨n,AL L,st'⟩:=Im sel hk hnd hlt hp hs h
section
variable {P : Program} {k : Nat} {α : Type} {l : List α} {enc : α → List AV} {ops : Array Oper} {Q : Exit → St → Prop} {ds : List (Option Tmp)} {r : List Oper} {n : Nat} {e : Nat → AV} {st st' : List Row} {ty : TypeId} {ps : String} {ed : Array Edge} {t : Tmp} {gd : Option (Nat × Bool)} {T : TypeId} {bytes size m : Nat} {el : TypeId} {zz : List AV}
end
end Go.Abs



namespace Go.Abs
open Go
section
variable {P : Program} {k : Nat} {ops : Array Oper} {Q : Exit → St → Prop} {ds : List (Option Tmp)} {r : List Oper} {n : Nat} {e : Nat → AV} {st st' : List Row} {ty : TypeId} {ps : String} {ed : Array Edge} {gd : Option (Nat × Bool)} {T : TypeId} {x y : Operand} {size id g sz : Nat} {el : TypeId} {α : Type} {l : List α} {enc : α → List AV} {c : α} {i : Int} {v : AV} {cs x0 : List AV} {ag : Bool}
end
end Go.Abs



namespace Go.Abs
open Go
structure MS where
 n:Nat
 e:Nat→AV
 x:Row
 z:List Row
def MS.st (R:List Row) (m:MS):St:=⟨m.n,m.e,m.x :: (R ++ m.z)⟩
def MS.put (m:MS) (d:Option Tmp) (v:AV):MS:=match d with
 | some d=>{ m with e:=Dh m.e d v }
 | none=>m
def MS.ev (m:MS) (x:Operand):AV:=St.ev ⟨m.n,m.e,[]⟩ x
inductive Kind where
 | q
 | l (x y:Row)
 | a (row:Row)
def Kind.D:Kind→Row→List Row→Prop
 | .q,_,_=>True
 | .l x0 _,x,_=>x=x0
 | .a _,_,z=>z=[]
def Kind.fz:Kind→List Row→List Row
 | .a row,_=>[row]
 | _,z=>z
section
variable {P : Program} {k : Nat} {ops : Array Oper} {md : Region.Mode} {R : List Row}
end
section
variable {P : Program} {k : Nat} {R : List Row} {ds : List (Option Tmp)} {r : List Oper} {K : MS → Prop} {n : Nat} {e : Nat → AV} {x0 : Row} {z0 : List Row} {t : Tmp} {op : Op} {ty : TypeId} {ps : String} {ed : Array Edge} {gd : Option (Nat × Bool)} {v : AV}
end
end Go.Abs



namespace Go.Abs
open Go
def eX (e:Nat→AV):List (Nat×AV)→List AV
 | []=>[]
 | (t,_) :: r=>e t :: eX e r
def eN:List (Nat×AV)→List AV
 | []=>[]
 | (_,v) :: r=>v :: eN r
theorem ME.same {e:Nat→AV} :∀{L:List (Nat×AV)},eX e L=eN L→ME e L
 | [],_=>trivial
 | (t,v) :: r,h=>by
  simp only[eX,eN,List.cons.injEq] at h
  obtain⟨h1,h2⟩:=h
  subst h1
  exact⟨.rfl,ME.same h2⟩
section
variable {P : Program} {k : Nat} {R : List Row} {ds : List (Option Tmp)} {r : List Oper} {K : MS → Prop} {n : Nat} {e : Nat → AV} {x0 : Row} {z0 : List Row} {t : Tmp} {op : Op} {ty : TypeId} {ps : String} {ed : Array Edge} {gd : Option (Nat × Bool)}
end
section
variable {P : Program} {k : Nat} {s : St} {ops : Array Oper} {Q : Exit → St → Prop} {ds : List (Option Tmp)} {r : List Oper} {n : Nat} {e : Nat → AV} {st st' : List Row} {ty : TypeId} {ps : String} {ed : Array Edge} {d : Option Tmp} {v v' : AV} {gd : Option (Nat × Bool)}
variable {f : FuncId} {ars : Array Operand} {ts : Array TypeId} {args args' : List AV} {rows0 rows1 : List Row}
theorem Pd (sel:List Nat) (hg:GO ds gd e) (hb:DI P f=true) (hc:Aa P f args' rows0 fun r st=>r=v∧st=rows1) (ha:ars.toList.map (St.ev ⟨n,e,st⟩) ++ []=args) (hnd:sel.Nodup) (hlt:sel.all (· < st.length)=true)
  (hp:CG st sel=rows0) (hs:SR sel rows0 rows0) (hf:args.map (Jm sel)=args') (hlen:rows1.length=sel.length) (h1:UN sel st.length rows1 rows1) (h2:UN sel st.length [] []) (hv:UQ sel st.length v=v') (hst':G6 sel rows1 0 st=st')
  (hk:AO P k ops Q (ds ++ [d]) r (St.put ⟨n,e,st'⟩ d v')):AO P k ops Q ds (⟨d,.call ⟨.value (.func f),ars,ts⟩,ty,ps,ed,gd⟩ :: r) ⟨n,e,st⟩:=
 H0 (rows2:=[]) (rows2':=[]) sel hg hb (by simpa using hc) ha hnd hlt hp hs hf hlen h1 h2 hv (by simpa using hst') hk
end
def fP:Nat→Nat→List Bool
 | 0,_=>[]
 | n+1,m=>(m % 2 == 1) :: fP n (m / 2)
def bm (n m:Nat):Array Bool:=⟨fP n m⟩
end Go.Abs

