import Derived.Test.YtihdgoiebmfapaaGreatAbsP
set_option linter.all false
namespace Go.Abs
open Go
variable {P : Program} {F : Nat -> Prop} {os : List Own} {s : St} {a : Act} {w : World} {k : Nat}
def gB (m:Nat):AV->Bool
 |.own id _ _|.ptr id _ _ _=>decide (id<m)
 |.fn ..|.agg _|.C8 _=>false
 |_=>true
def under (m:Nat):AV->Bool
 |.fn _ cs|.agg cs|.C8 cs=>cs.all (gB m)
 |v=>gB m v
section
variable {ops : Array Oper} {Q : Exit -> St -> Prop} {ds : List (Option Tmp)} {r : List Oper} {n : Nat} {e : Nat -> AV} {st st' : List Row} {ty : TypeId} {ps : String} {ed : Array Edge} {d : Option Tmp} {v v' : AV} {gd : Option (Nat × Bool)}
variable {f : FuncId} {vI : Array Operand} {ts : Array TypeId} {args : List AV} {rows0 rows1 rows2 rest : List Row}
end
def Cm (sel:List Nat)(row:Row):Row:={ row with xs:=row.xs.map (·.map (Jg sel)) }
theorem Wk.jU {n:Nat}{e:Nat->AV}{st:List Row}(sel:List Nat)(hk:sel.take k=List.range k)(vu:sel.Nodup)(uU :∀i∈sel,i<st.length)(hl:JR ((CE st sel).map (Cm sel))):
  Wk k ⟨n,e,st⟩ ⟨n,λt=>Jn sel (e t),(CE st sel).map (Cm sel)⟩:=λF os a w hr=>by
 have hlen:st.length=os.length:=hr.len;have wY :∀i,i<k->sel[i]?=some i:=λi hi=>by
  have h1:(sel.take k)[i]?=some i:=by rw[hk];simp[hi]
  rw[pn]at h1;simpa [hi] using h1
 have xe:∀(j id:Nat),sel[j]?=some id->(sel.filterMap (os[·]?))[j]?=os[id]?:=by
  have :∀(l:List Nat),(∀i∈l,i<os.length)->∀(j id:Nat),l[j]?=some id->(l.filterMap (os[·]?))[j]?=os[id]?:=λl=>by
   induction l with
   |nil=>intro _ j id h;simp at h
   |cons i l ih=>
    intro hl j id h;have hi:=hl i (by simp);rw[rB,pF hi];cases j with
    |zero=>simp only[ph,pC]at h;subst h;simp[pF hi]
    |succ j=>simp only[py]at h⊢;exact ih (λx hx=>hl x (by simp[hx])) j id h
  exact this sel (λi hi=>by rw[<- hlen];exact uU i hi)
 let so:Own->Own:=λo=>{ o with row:=Cm sel o.row }
 let os2:=(sel.filterMap (os[·]?)).map so
 have hl2:(sel.filterMap (os[·]?)).length=sel.length:=by
  have :∀(l:List Nat),(∀i∈l,i<os.length)->(l.filterMap (os[·]?)).length=l.length:=λl=>by
   induction l with
   |nil=>simp
   |cons i l ih=>intro hl;rw[rB,pF (hl i (by simp))];simp[ih (λx hx=>hl x (by simp[hx]))]
  exact this sel (λi hi=>by rw[<- hlen];exact uU i hi)
 have uD:∀(j:Nat) (o:Own),os2[j]?=some o->∃id o0,sel[j]?=some id/\os[id]?=some o0/\o=so o0:=λj o h=>by
  simp only[os2,pB,pH]at h;obtain⟨o0,h0,rfl⟩:=h;have hj:j<sel.length:=by rw[<- hl2];exact (pA.1 h0).1
  refine⟨sel[j],o0,pF hj,?_,rfl⟩;rw[<- xe j _ (pF hj)];exact h0
 have hren0:∀x v,Ab F w os x v->Ab F w os2 (I9 sel x) v:=λx v h=>by
  have hidx:∀id j,idx sel id=some j->os2[j]?=(os[id]?).map so:=λid j hj=>by
   unfold idx at hj;rw[rL]at hj;obtain⟨h1,h2,_⟩:=hj;simp only[os2,pB];rw[xe j id (by rw[pF h1];simpa using h2)]
  cases x with
  |own id g n=>
   simp only[I9];split
   .rename_i j hj;simp only[Ab]at h⊢;obtain⟨o,h1,h2,h3,h4⟩:=h;exact⟨so o,by rw[hidx id j hj,h1];rfl,h2,h3,λhg=>by
     obtain⟨a1,a2⟩:=h4 hg;exact⟨by simpa [so,Cm] using a1,by simpa [so,Cm] using a2⟩⟩
   .simp[Ab]
  |ptr id g i off=>
   simp only[I9];split
   .rename_i j hj;simp only[Ab]at h⊢;obtain⟨o,h1,h2,h3,h4⟩:=h;exact⟨so o,by rw[hidx id j hj,h1];rfl,h2,h3,λhg=>by
     obtain⟨a1,a2,a3⟩:=h4 hg;exact⟨by simpa [so,Cm] using a1,a2,a3⟩⟩
   .simp[Ab]
  |fn f cs=>simp[I9,Ab]
  |agg cs=>simp[I9,Ab]
  |C8 cs=>simp[I9,Ab]
  |_=>simp only[I9,Ab]at h⊢<;>exact h
 have xf:∀x v,Ab F w os x v->Ab F w os2 (Jg sel x) v:=MN hren0;have xg:∀cs us,Br F w os cs us->Br F w os2 (cs.map (Jg sel)) us:=λcs us h=>
  Db (by simp[BX h]) λi x u hx hu=>by
   simp only[pB,pH]at hx;obtain⟨y,hy,rfl⟩:=hx;obtain⟨u',vo,vg⟩:=CH h i y hy;rw[vo]at hu;cases hu;exact xf _ _ vg
 have hren:∀x v,Ab F w os x v->Ab F w os2 (Jn sel x) v:=λx v h=>by
  cases x with
  |fn f cs=>simp only[Jn,Ab]at h⊢;obtain⟨us,e,hl⟩:=h;exact⟨us,e,xg _ _ hl⟩
  |agg cs=>simp only[Jn,Ab]at h⊢;obtain⟨us,e,hl⟩:=h;exact⟨us,e,xg _ _ hl⟩
  |C8 cs=>simp only[Jn,Ab]at h⊢;obtain⟨us,e,hl⟩:=h;exact⟨us,e,xg _ _ hl⟩
  |_=>exact xf _ _ h
 have zV:os2.map Own.row=(CE st sel).map (Cm sel):=by
  have h0:os.map Own.row=st:=hr.st;simp only[os2,CE,<- h0,rF,si];congr 1;funext i;simp only[pB];cases os[i]?<;>rfl
 refine⟨F,os2,⟨zV,λt=>hren _ _ (hr.env t),hr.size,λj o ho=>?_,λi j oi oj b hi hj wJ wK=>?_,hr.Fu,hr.defers⟩,⟨rfl,rfl,rfl,pL _,λ_ h=>h,λ_ _=>rfl,λb _ h1 h2=>⟨rfl,h1,λo ho=>?_⟩,λi o hi ho=>⟨so o,?_,pL _,rfl,λ_=>⟨rfl,rfl,by simp[so,Cm]⟩⟩⟩⟩
 .have tv:o.row∈(CE st sel).map (Cm sel):=by rw[<- zV];exact pQ.2 ⟨o,ov ho,rfl⟩
  obtain⟨id,o0,xA,ho0,rfl⟩:=uD j o ho;have tz:=hr.rows id o0 ho0;refine⟨tz.pos,λx hx=>⟨?_,hl _ tv x hx⟩,λhb=>?_,λb hb=>?_,tz.mo,tz.deep.mapped (Jg sel) (λ_ _ _ _ h=>bx h) rfl rfl rfl rfl⟩
  .simp only[so,Cm,pQ]at hx;obtain⟨y,hy,rfl⟩:=hx;simpa [so,Cm] using (tz.lens y hy).1
  .obtain⟨h1,h2⟩:=tz.none hb;exact⟨by simp[so,Cm,h1],h2⟩
  .obtain⟨h1,cur,h2,h3,h4,h5,h6⟩:=tz.some b hb;refine⟨h1,cur,h2,h3,by simpa [so,Cm] using h4,h5,λi x hx j' c hc=>?_⟩;simp only[so,Cm,pB,pH]at hx;obtain⟨y,hy,rfl⟩:=hx;simp only[pB,pH]at hc;obtain⟨c0,wS,rfl⟩:=hc;obtain⟨u,e1,e2⟩:=h6 i y hy j' c0 wS;exact⟨u,e1,xf _ _ e2⟩
 .obtain⟨id,o0,xA,ho0,rfl⟩:=uD i oi hi;obtain⟨vH,o0',hid',ho0',rfl⟩:=uD j oj hj;have he:=hr.inj id vH o0 o0' b ho0 ho0' wJ wK;subst he;obtain⟨hi1,hi2⟩:=pA.1 xA;obtain⟨zQ,hj2⟩:=pA.1 hid';have hp:=sE.1 vu;rcases qk i j with h|h|h
  .exact absurd (hi2.trans hj2.symm) (hp i j hi1 zQ h)
  .exact h
  .exact absurd (hj2.trans hi2.symm) (hp j i zQ hi1 h)
 .simp only[os2,pQ,qg]at ho;obtain⟨o0,⟨i,_,hi⟩,rfl⟩:=ho;exact h2 o0 (ov hi)
 .simp only[os2,pB];rw[xe i i (wY i hi),ho];rfl
theorem X5 {n:Nat}{e:Nat->AV}{st st':List Row}{L:List (Nat×AV)}(sel:List Nat)(hk:sel.take k=List.range k)(vu:sel.Nodup)(uU:sel.all (·<st.length)=true)
  (uV:(CE st sel).map (Cm sel)=st') (hl:JR st') (h:ME (λt=>Jn sel (e t)) L):Wk k ⟨n,e,st⟩ ⟨n,AP L,st'⟩:=by
 subst uV;exact (Wk.jU sel hk vu (λi hi=>by simpa using pG.1 uU i hi) hl).trans (Ag h)
inductive SR (sel:List Nat):List Row->List Row->Prop
 |nil:SR sel [] []
 |deep {g size:Nat} {el:TypeId} {xs:List (List AV)} {r r':List Row} (hp:DF xs) (hl:SR sel r r'):SR sel (⟨g,el,size,xs⟩::r) (⟨g,el,size,xs⟩::r')
 |raw {g size:Nat} {el:TypeId} {cs cs':List AV} {r r':List Row} (hc:cs.map (Jg sel)=cs') (hp:cs'.all AV.leaf=true) (hl:SR sel r r'):SR sel (⟨g,el,size,[cs]⟩::r) (⟨g,el,size,[cs']⟩::r')
 |hol {g size i:Nat} {el:TypeId} {zs:List (List AV)} {x x':List AV} {r r':List Row} (hp:DF zs) (hz :∀z∈zs,z.all AV.kept=true) (hc:x.map (Jg sel)=x') (hk:x'.all AV.kept=true) (hl:SR sel r r'):SR sel (⟨g,el,size,zs.set i x⟩::r) (⟨g,el,size,zs.set i x'⟩::r')
theorem SR.pure {sel:List Nat}{g size:Nat}{el:TypeId}{xs:List (List AV)}{r r':List Row}(hp:ET xs)(hl:SR sel r r'):SR sel (⟨g,el,size,xs⟩::r) (⟨g,el,size,xs⟩::r'):=.deep hp.any hl
theorem OK {sel:List Nat}{c:AV}(h:E6 c=true):Jg sel c=c:=by cases c<;>simp[E6,simple,Jg,two,I9]at h⊢
theorem SR.spec {sel:List Nat}{st0:List Row}(hle :∀row∈st0,∀x∈row.xs,∀c∈x,c.kept=true):∀{l l':List Row},SR sel l l'->(∀row∈l,row∈st0)->l.map (Cm sel)=l'/\JR l'
 |_,_,.nil,_=>⟨rfl,λ_ h=>by cases h⟩
 |_,_,.deep hp hl,hm=>by
  obtain⟨h1,h2⟩:=SR.spec hle hl (λrow h=>hm row (qT _ h));have vS:=hle _ (hm _ (rI ..));refine⟨?_,?_⟩
  .simp only[pc,h1];congr 1;simp only[Cm];congr 1;refine (pf (g:=id) λx hx=>?_).trans (qn _);refine (pf (g:=id) λc hc=>?_).trans (qn _);exact OK (hp x hx c hc)
  .intro row tv;rcases pK.1 tv with rfl|h
   .exact vS
   .exact h2 row h
 |_,_,.raw hc hp hl,hm=>by
  obtain⟨h1,h2⟩:=SR.spec hle hl (λrow h=>hm row (qT _ h));refine⟨?_,?_⟩
  .simp only[pc,h1,Cm,qt,hc]
  .intro row tv;rcases pK.1 tv with rfl|h
   .intro x hx c hcx;simp only[pS]at hx;subst hx;exact Dg (pG.1 hp c hcx)
   .exact h2 row h
 |_,_,.hol (zs:=zs) (i:=i) hp hz hc hk hl,hm=>by
  obtain⟨h1,h2⟩:=SR.spec hle hl (λrow h=>hm row (qT _ h));refine⟨?_,?_⟩
  .simp only[pc,h1,Cm,rN,hc];congr 3;refine (pf (g:=id) λx hx=>?_).trans (qn _);refine (pf (g:=id) λc hc=>?_).trans (qn _);exact OK (hp x hx c hc)
  .intro row tv;rcases pK.1 tv with rfl|h
   .intro x hx c hcx;rcases qU hx with hx|rfl
    .exact pG.1 (hz x hx) c hcx
    .exact pG.1 hk c hcx
   .exact h2 row h
theorem Og {n:Nat}{e:Nat->AV}{st:List Row}(hr:Rel F os ⟨n,e,st⟩ a w):∀row∈st,∀x∈row.xs,∀c∈x,c.kept=true:=λrow tv x hx c hc=>by
 have uV:=hr.st;simp only at uV;rw[<- uV]at tv;obtain⟨o,ho,rfl⟩:=pQ.1 tv;obtain⟨i,hi⟩:=pY.1 ho;exact ((hr.rows i o hi).lens x hx).2 c hc
def XC (id g:Nat):AV->AV
 |.own vH g' n=>if vH=id/\g'=g then .own id (g+1) n else .own vH g' n
 |.ptr vH g' i off=>if vH=id/\g'=g then .ptr id (g+1) i off else .ptr vH g' i off
 |.fn ..|.agg _|.C8 _=>.FZ
 |v=>v
def U1 (id g:Nat)(x:AV):AV:=two (XC id g) x
theorem lR {id g:Nat}{c:AV}{el s:Nat}{ys:List (List AV)}(h:U1 id g c=.dv el s ys):c=.dv el s ys:=by
 refine Tl (X:=XC id g) (λc h=>?_) h;cases c<;>simp only[XC]at h<;>first|exact h|cases h|(repeat' split at h)<;>first|cases h|exact h
def bp (id g:Nat):AV->AV
 |.fn f cs=>.fn f (cs.map (U1 id g))
 |.agg cs=>.agg (cs.map (U1 id g))
 |.C8 cs=>.C8 (cs.map (U1 id g))
 |v=>U1 id g v
def OM (id g:Nat)(row:Row):Row:={ row with xs:=row.xs.map (·.map (U1 id g)) }
def fL (row:Row):Row:={ row with gen:=row.gen+1 }
theorem Wk.mX {n:Nat}{e:Nat->AV}{st:List Row}{id:Nat}{row:Row}(tv:st[id]?=some row)(hl:JR (st.map (OM id row.gen))):
  Wk k ⟨n,e,st⟩ ⟨n,λt=>bp id row.gen (e t),(st.map (OM id row.gen)).modify id fL⟩:=λF os a w hr=>by
 let so:Nat->Own->Own:=λi o=>{ o with row:=if i=id then fL (OM id row.gen o.row) else OM id row.gen o.row }
 let os2:=os.mapIdx so
 have hst0:os.map Own.row=st:=hr.st;obtain⟨oi,xL,hoir⟩ :∃o,os[id]?=some o/\o.row=row:=by
  rw[<- hst0,pB,pH]at tv;exact tv
 have uD:∀i,os2[i]?=(os[i]?).map (so i):=λi=>by simp[os2]
 have hsx:∀i o,(so i o).row.xs=o.row.xs.map (·.map (U1 id row.gen)):=λi o=>by
  simp only[so];split<;>rfl
 have ue:∀i o,(so i o).row.size=o.row.size:=λi o=>by simp only[so];split<;>rfl
 have hse:∀i o,(so i o).row.elem=o.row.elem:=λi o=>by simp only[so];split<;>rfl
 have yj:∀i o,(so i o).row.gen=if i=id then o.row.gen+1 else o.row.gen:=λi o=>by simp only[so];split<;>rfl
 have hb0:∀x v,Ab F w os x v->Ab F w os2 (XC id row.gen x) v:=λx v h=>by
  cases x with
  |own vH g' n'=>
   simp only[Ab]at h;obtain⟨o,h1,h2,h3,h4⟩:=h;simp only[XC];by_cases hc:vH=id/\g'=row.gen
   .rw[pI hc];obtain⟨rfl,rfl⟩:=hc;have:o=oi:=by rw[xL]at h1;cases h1;rfl
    subst this;simp only[Ab];refine⟨so vH o,by rw[uD,xL];rfl,by rw[yj];simp[hoir],h3,λ_=>?_⟩;obtain⟨a1,a2⟩:=h4 (by rw[hoir]);exact⟨by rw[hsx];simpa using a1,by rw[hsx,ue,pR];exact a2⟩
   .rw[pJ hc];simp only[Ab];refine⟨so vH o,by rw[uD,h1];rfl,by rw[yj];split<;>omega,h3,λhg=>?_⟩;rw[yj]at hg;by_cases hi:vH=id
    .subst hi;rw[xL]at h1;cases h1;rw[pI rfl]at hg;omega
    .rw[pJ hi]at hg;obtain⟨a1,a2⟩:=h4 hg;exact⟨by rw[hsx];simpa using a1,by rw[hsx,ue,pR];exact a2⟩
  |ptr vH g' i' off=>
   simp only[Ab]at h;obtain⟨o,h1,h2,h3,h4⟩:=h;simp only[XC];by_cases hc:vH=id/\g'=row.gen
   .rw[pI hc];obtain⟨rfl,rfl⟩:=hc;have:o=oi:=by rw[xL]at h1;cases h1;rfl
    subst this;simp only[Ab];refine⟨so vH o,by rw[uD,xL];rfl,by rw[yj];simp[hoir],h3,λ_=>?_⟩;obtain⟨a1,a2,a3⟩:=h4 (by rw[hoir]);exact⟨by rw[hsx];simpa using a1,by rw[ue];exact a2,by rw[ue];exact a3⟩
   .rw[pJ hc];simp only[Ab];refine⟨so vH o,by rw[uD,h1];rfl,by rw[yj];split<;>omega,h3,λhg=>?_⟩;rw[yj]at hg;by_cases hi:vH=id
    .subst hi;rw[xL]at h1;cases h1;rw[pI rfl]at hg;omega
    .rw[pJ hi]at hg;obtain⟨a1,a2,a3⟩:=h4 hg;exact⟨by rw[hsx];simpa using a1,by rw[ue];exact a2,by rw[ue];exact a3⟩
  |fn f vO=>simp[XC,Ab]
  |agg cs=>simp[XC,Ab]
  |C8 cs=>simp[XC,Ab]
  |_=>simp only[XC,Ab]at h⊢<;>exact h
 have hb1:∀x v,Ab F w os x v->Ab F w os2 (U1 id row.gen x) v:=MN hb0;have hbL:∀cs us,Br F w os cs us->Br F w os2 (cs.map (U1 id row.gen)) us:=λcs us h=>
  Db (by simp[BX h]) λi x u hx hu=>by
   simp only[pB,pH]at hx;obtain⟨y,hy,rfl⟩:=hx;obtain⟨u',vo,vg⟩:=CH h i y hy;rw[vo]at hu;cases hu;exact hb1 _ _ vg
 have hb:∀x v,Ab F w os x v->Ab F w os2 (bp id row.gen x) v:=λx v h=>by
  cases x with
  |fn f cs=>simp only[bp,Ab]at h⊢;obtain⟨us,e,hl⟩:=h;exact⟨us,e,hbL _ _ hl⟩
  |agg cs=>simp only[bp,Ab]at h⊢;obtain⟨us,e,hl⟩:=h;exact⟨us,e,hbL _ _ hl⟩
  |C8 cs=>simp only[bp,Ab]at h⊢;obtain⟨us,e,hl⟩:=h;exact⟨us,e,hbL _ _ hl⟩
  |_=>exact hb1 _ _ h
 have hst2:os2.map Own.row=(st.map (OM id row.gen)).modify id fL:=by
  apply qj;intro i;rw[pB,uD,List.getElem?_modify,pB,<- hst0,pB];cases os[i]? with
  |none=>rfl
  |some o=>
   simp only[qF,so];by_cases hi:i=id
   .simp[hi]
   .have:¬ id=i:=λh=>hi h.symm;simp[hi,this]
 refine⟨F,os2,⟨hst2,λt=>hb _ _ (hr.env t),hr.size,λi o ho=>?_,λi j oi' oj' b hi hj wJ wK=>?_,hr.Fu,hr.defers⟩,⟨rfl,rfl,rfl,pL _,λ_ h=>h,λ_ _=>rfl,λb _ h1 h2=>⟨rfl,h1,λo ho=>?_⟩,λi o hi ho=>⟨so i o,by rw[uD,ho];rfl,by rw[yj];split<;>omega,ue i o,λ_=>⟨rfl,rfl,by rw[hsx];simp⟩⟩⟩⟩
 .rw[uD,pH]at ho;obtain⟨o0,ho0,rfl⟩:=ho;have tz:=hr.rows i o0 ho0;have hm:OM id row.gen o0.row∈st.map (OM id row.gen):=pQ.2 ⟨o0.row,by rw[<- hst0];exact pQ.2 ⟨o0,ov ho0,rfl⟩,rfl⟩;refine⟨by rw[ue];exact tz.pos,λx hx=>?_,λzI=>?_,λb hbb=>?_,tz.mo,tz.deep.mapped (U1 id row.gen) (λ_ _ _ _ h=>lR h) rfl rfl (ue _ _) (hsx _ _)⟩
  .rw[hsx]at hx;refine⟨?_,hl _ hm x hx⟩;obtain⟨y,hy,rfl⟩:=pQ.1 hx;rw[ue,pR];exact (tz.lens y hy).1
  .obtain⟨h1,h2⟩:=tz.none zI;exact⟨by rw[hsx,h1];rfl,h2⟩
  .obtain⟨h1,cur,h2,h3,h4,h5,h6⟩:=tz.some b hbb;refine⟨h1,cur,by rw[hse];exact h2,by rw[ue];exact h3,by rw[hsx,pR];exact h4,h5,λi' x hx j c hc=>?_⟩;rw[hsx,pB,pH]at hx;obtain⟨y,hy,rfl⟩:=hx;rw[pB,pH]at hc;obtain⟨c0,wS,rfl⟩:=hc;obtain⟨u,e1,e2⟩:=h6 i' y hy j c0 wS;exact⟨u,by rw[ue];exact e1,hb1 _ _ e2⟩
 .rw[uD,pH]at hi hj;obtain⟨o1,ho1,rfl⟩:=hi;obtain⟨o2,zJ,rfl⟩:=hj;exact hr.inj i j o1 o2 b ho1 zJ wJ wK
 .obtain⟨i,hi⟩:=pY.1 ho;rw[uD,pH]at hi;obtain⟨o0,h0,rfl⟩:=hi;exact h2 o0 (ov h0)
inductive BR (id g:Nat):List Row->List Row->Prop
 |nil:BR id g [] []
 |deep {g' size:Nat} {el:TypeId} {xs:List (List AV)} {r r':List Row} (hp:DF xs) (hl:BR id g r r'):BR id g (⟨g',el,size,xs⟩::r) (⟨g',el,size,xs⟩::r')
 |raw {g' size:Nat} {el:TypeId} {cs cs':List AV} {r r':List Row} (hc:cs.map (U1 id g)=cs') (hp:cs'.all AV.leaf=true) (hl:BR id g r r'):BR id g (⟨g',el,size,[cs]⟩::r) (⟨g',el,size,[cs']⟩::r')
theorem BR.pure {id g g' size:Nat}{el:TypeId}{xs:List (List AV)}{r r':List Row}(hp:ET xs)(hl:BR id g r r'):BR id g (⟨g',el,size,xs⟩::r) (⟨g',el,size,xs⟩::r'):=.deep hp.any hl
theorem ae {id g:Nat}{c:AV}(h:E6 c=true):U1 id g c=c:=by cases c<;>simp[E6,simple,U1,two,XC]at h⊢
theorem BR.spec {id g:Nat}{st0:List Row}(hle :∀row∈st0,∀x∈row.xs,∀c∈x,c.kept=true):∀{l l':List Row},BR id g l l'->(∀row∈l,row∈st0)->l.map (OM id g)=l'/\JR l'
 |_,_,.nil,_=>⟨rfl,λ_ h=>by cases h⟩
 |_,_,.deep hp hl,hm=>by
  obtain⟨h1,h2⟩:=BR.spec hle hl (λrow h=>hm row (qT _ h));have vS:=hle _ (hm _ (rI ..));refine⟨?_,?_⟩
  .simp only[pc,h1];congr 1;simp only[OM];congr 1;refine (pf (g:=λx=>x) λx hx=>?_).trans (qn _);refine (pf (g:=λx=>x) λc hc=>?_).trans (qn _);exact ae (hp x hx c hc)
  .intro row tv;rcases pK.1 tv with rfl|h
   .exact vS
   .exact h2 row h
 |_,_,.raw hc hp hl,hm=>by
  obtain⟨h1,h2⟩:=BR.spec hle hl (λrow h=>hm row (qT _ h));refine⟨?_,?_⟩
  .simp only[pc,h1,OM,qt,hc]
  .intro row tv;rcases pK.1 tv with rfl|h
   .intro x hx c hcx;simp only[pS]at hx;subst hx;exact Dg (pG.1 hp c hcx)
   .exact h2 row h
theorem Nb {n:Nat}{e:Nat->AV}{st st1 st':List Row}{L:List (Nat×AV)}(id:Nat){row:Row}(tv:st[id]?=some row)(hb:BR id row.gen st st1)(uV:st1.modify id fL=st')(h:ME (λt=>bp id row.gen (e t)) L):Wk k ⟨n,e,st⟩ ⟨n,AP L,st'⟩:=λF os a w hr=>by
 obtain⟨h1,h2⟩:=hb.spec (st0:=st) (Og hr) (λ_ h=>h);have h3:=Wk.mX (k:=k) (n:=n) (e:=e) tv (by rw[h1];exact h2);rw[h1,uV]at h3;exact (h3.trans (Ag h)) F os a w hr
def Xk (m:Nat)(st:List Row):AV->AV
 |.own id g n=>if id<m then .own id g n else match st[id]? with
  |some row=>if row.gen=g then .own id 0 n else .FZ
  |none=>.FZ
 |.ptr id g i off=>if id<m then .ptr id g i off else match st[id]? with
  |some row=>if row.gen=g then .ptr id 0 i off else .FZ
  |none=>.FZ
 |.fn ..|.agg _|.C8 _=>.FZ
 |v=>v
def WM (m:Nat)(st:List Row)(x:AV):AV:=two (Xk m st) x
theorem mA {m:Nat}{st:List Row}{c:AV}{el s:Nat}{ys:List (List AV)}(h:WM m st c=.dv el s ys):c=.dv el s ys:=by
 refine Tl (X:=Xk m st) (λc h=>?_) h;cases c<;>simp only[Xk]at h<;>first|exact h|cases h|(repeat' split at h)<;>first|cases h|exact h
def rk (m:Nat)(st:List Row):AV->AV
 |.fn f cs=>.fn f (cs.map (WM m st))
 |.agg cs=>.agg (cs.map (WM m st))
 |.C8 cs=>.C8 (cs.map (WM m st))
 |v=>WM m st v
def GP (m:Nat)(st:List Row)(i:Nat)(row:Row):Row:={ row with gen:=if i<m then row.gen else 0,xs:=row.xs.map (·.map (WM m st)) }
theorem Wk.lQ {n:Nat}{e:Nat->AV}{st:List Row}(hl:JR (st.mapIdx (GP k st))):Wk k ⟨n,e,st⟩ ⟨n,λt=>rk k st (e t),st.mapIdx (GP k st)⟩:=λF os a w hr=>by
 let so:Nat->Own->Own:=λi o=>{ o with row:=GP k st i o.row }
 let os2:=os.mapIdx so
 have hst0:os.map Own.row=st:=hr.st;have uD:∀i,os2[i]?=(os[i]?).map (so i):=λi=>by simp[os2]
 have hs:∀{id:Nat} {o:Own},os[id]?=some o->st[id]?=some o.row:=λ{id o} ho=>by rw[<- hst0,pB,ho];rfl
 have yk :∀x v,Ab F w os x v->Ab F w os2 (Xk k st x) v:=λx v h=>by
  cases x with
  |own id g n'=>
   simp only[Ab]at h;obtain⟨o,ho,hle,yZ,hv⟩:=h;simp only[Xk,hs ho];by_cases hk:id<k
   .rw[pI hk];simp only[Ab];refine⟨so id o,by rw[uD,ho];rfl,by simp only[so,GP,hk,pq];exact hle,yZ,λhg=>?_⟩;simp only[so,GP,hk,pq]at hg;obtain⟨a1,a2⟩:=hv hg;exact⟨by simpa [so,GP] using a1,by simpa [so,GP] using a2⟩
   .rw[pJ hk];split
    .rename_i e;obtain⟨a1,a2⟩:=hv e;simp only[Ab];exact⟨so id o,by rw[uD,ho];rfl,pT _,yZ,λ_=>⟨by simpa [so,GP] using a1,by simpa [so,GP] using a2⟩⟩
    .simp[Ab]
  |ptr id g i off=>
   simp only[Ab]at h;obtain⟨o,ho,hle,yZ,hv⟩:=h;simp only[Xk,hs ho];by_cases hk:id<k
   .rw[pI hk];simp only[Ab];refine⟨so id o,by rw[uD,ho];rfl,by simp only[so,GP,hk,pq];exact hle,yZ,λhg=>?_⟩;simp only[so,GP,hk,pq]at hg;obtain⟨a1,a2,a3⟩:=hv hg;exact⟨by simpa [so,GP] using a1,a2,a3⟩
   .rw[pJ hk];split
    .rename_i e;obtain⟨a1,a2,a3⟩:=hv e;simp only[Ab];exact⟨so id o,by rw[uD,ho];rfl,pT _,yZ,λ_=>⟨by simpa [so,GP] using a1,a2,a3⟩⟩
    .simp[Ab]
  |fn f vO=>simp[Xk,Ab]
  |agg cs=>simp[Xk,Ab]
  |C8 cs=>simp[Xk,Ab]
  |_=>simp only[Xk,Ab]at h⊢<;>exact h
 have h1:∀x v,Ab F w os x v->Ab F w os2 (WM k st x) v:=MN yk;have hL:∀cs us,Br F w os cs us->Br F w os2 (cs.map (WM k st)) us:=λcs us h=>
  Db (by simp[BX h]) λi x u hx hu=>by
   simp only[pB,pH]at hx;obtain⟨y,hy,rfl⟩:=hx;obtain⟨u',vo,vg⟩:=CH h i y hy;rw[vo]at hu;cases hu;exact h1 _ _ vg
 have hb:∀x v,Ab F w os x v->Ab F w os2 (rk k st x) v:=λx v h=>by
  cases x with
  |fn f cs=>simp only[rk,Ab]at h⊢;obtain⟨us,e,hl⟩:=h;exact⟨us,e,hL _ _ hl⟩
  |agg cs=>simp only[rk,Ab]at h⊢;obtain⟨us,e,hl⟩:=h;exact⟨us,e,hL _ _ hl⟩
  |C8 cs=>simp only[rk,Ab]at h⊢;obtain⟨us,e,hl⟩:=h;exact⟨us,e,hL _ _ hl⟩
  |_=>exact h1 _ _ h
 have hst2:os2.map Own.row=st.mapIdx (GP k st):=by
  apply qj;intro i;have e1:st[i]?=(os[i]?).map Own.row:=by rw[<- hst0,pB]
  rw[pB,uD,sY,e1];cases os[i]?<;>rfl
 refine⟨F,os2,⟨hst2,λt=>hb _ _ (hr.env t),hr.size,λi o ho=>?_,λi j oi' oj' b hi hj wJ wK=>?_,hr.Fu,hr.defers⟩,⟨rfl,rfl,rfl,pL _,λ_ h=>h,λ_ _=>rfl,λb _ h1 h2=>⟨rfl,h1,λo ho=>?_⟩,λi o hi ho=>⟨so i o,by rw[uD,ho];rfl,by simp[so,GP,hi],rfl,λ_=>⟨rfl,rfl,by simp[so,GP]⟩⟩⟩⟩
 .rw[uD,pH]at ho;obtain⟨o0,ho0,rfl⟩:=ho;have tz:=hr.rows i o0 ho0;have hm:(so i o0).row∈st.mapIdx (GP k st):=by
   rw[<- hst2];exact pQ.2 ⟨so i o0,ov (by rw[uD,ho0];rfl),rfl⟩
  refine⟨tz.pos,λx hx=>⟨?_,hl _ hm x hx⟩,λzI=>?_,λb hbb=>?_,tz.mo,tz.deep.mapped (WM k st) (λ_ _ _ _ h=>mA h) rfl rfl rfl rfl⟩
  .simp only[so,GP,pQ]at hx;obtain⟨y,hy,rfl⟩:=hx;simpa [so,GP] using (tz.lens y hy).1
  .obtain⟨h1,h2⟩:=tz.none zI;exact⟨by simp[so,GP,h1],h2⟩
  .obtain⟨g1,cur,h2,h3,h4,h5,h6⟩:=tz.some b hbb;refine⟨g1,cur,h2,h3,by simpa [so,GP] using h4,h5,λi' x hx j c hc=>?_⟩;simp only[so,GP,pB,pH]at hx;obtain⟨y,hy,rfl⟩:=hx;simp only[pB,pH]at hc;obtain⟨c0,wS,rfl⟩:=hc;obtain⟨u,e1,e2⟩:=h6 i' y hy j c0 wS;exact⟨u,e1,h1 _ _ e2⟩
 .rw[uD,pH]at hi hj;obtain⟨o1,ho1,rfl⟩:=hi;obtain⟨o2,zJ,rfl⟩:=hj;exact hr.inj i j o1 o2 b ho1 zJ wJ wK
 .obtain⟨i,hi⟩:=pY.1 ho;rw[uD,pH]at hi;obtain⟨o0,h0,rfl⟩:=hi;exact h2 o0 (ov h0)
inductive KR (m:Nat) (st:List Row):Nat->List Row->List Row->Prop
 |nil {i:Nat}:KR m st i [] []
 |deep {i g g' size:Nat} {el:TypeId} {xs:List (List AV)} {r r':List Row} (hg:g'=if i<m then g else 0) (hp:DF xs) (hl:KR m st (i+1) r r'):KR m st i (⟨g,el,size,xs⟩::r) (⟨g',el,size,xs⟩::r')
 |raw {i g g' size:Nat} {el:TypeId} {cs cs':List AV} {r r':List Row} (hg:g'=if i<m then g else 0) (hc:cs.map (WM m st)=cs') (hp:cs'.all AV.leaf=true) (hl:KR m st (i+1) r r'):KR m st i (⟨g,el,size,[cs]⟩::r) (⟨g',el,size,[cs']⟩::r')
theorem KR.pure {m:Nat}{st:List Row}{i g g' size:Nat}{el:TypeId}{xs:List (List AV)}{r r':List Row}(hg:g'=if i<m then g else 0)(hp:ET xs)(hl:KR m st (i+1) r r'):KR m st i (⟨g,el,size,xs⟩::r) (⟨g',el,size,xs⟩::r'):=.deep hg hp.any hl
theorem aK {m:Nat}{st:List Row}{c:AV}(h:E6 c=true):WM m st c=c:=by cases c<;>simp[E6,simple,WM,two,Xk]at h⊢
theorem KR.spec {m:Nat}{st st0:List Row}(hle :∀row∈st0,∀x∈row.xs,∀c∈x,c.kept=true):∀{i:Nat} {l l':List Row},KR m st i l l'->(∀row∈l,row∈st0)->l.mapIdx (λj=>GP m st (i+j))=l'/\JR l'
 |_,_,_,.nil,_=>⟨rfl,λ_ h=>by cases h⟩
 |i,_,_,.deep (r:=r) hg hp hl,hm=>by
  obtain⟨h1,h2⟩:=KR.spec hle hl (λrow h=>hm row (qT _ h));have vS:=hle _ (hm _ (rI ..));refine⟨?_,?_⟩
  .rw[List.mapIdx_cons];have e:(λj=>GP m st (i+(j+1)))=λj=>GP m st (i+1+j):=by funext j;congr 1;omega
   rw[e,h1];congr 1;subst hg;simp only[GP,qo];congr 1;refine (pf (g:=λx=>x) λx hx=>?_).trans (qn _);refine (pf (g:=λx=>x) λc hc=>?_).trans (qn _);exact aK (hp x hx c hc)
  .intro row tv;rcases pK.1 tv with rfl|h
   .exact vS
   .exact h2 row h
 |i,_,_,.raw hg hc hp hl,hm=>by
  obtain⟨h1,h2⟩:=KR.spec hle hl (λrow h=>hm row (qT _ h));refine⟨?_,?_⟩
  .rw[List.mapIdx_cons];have e:(λj=>GP m st (i+(j+1)))=λj=>GP m st (i+1+j):=by funext j;congr 1;omega
   rw[e,h1];subst hg;simp only[GP,qo,pc,qt,hc]
  .intro row tv;rcases pK.1 tv with rfl|h
   .intro x hx c hcx;simp only[pS]at hx;subst hx;exact Dg (pG.1 hp c hcx)
   .exact h2 row h
theorem D4 {n:Nat}{e:Nat->AV}{st st':List Row}{L:List (Nat×AV)}(hg:KR k st 0 st st')(h:ME (λt=>Abs.rk k st (e t)) L):Wk k ⟨n,e,st⟩ ⟨n,AP L,st'⟩:=λF os a w hr=>by
 obtain⟨h1,h2⟩:=hg.spec (st0:=st) (Og hr) (λ_ h=>h);simp only[qO]at h1;have h3:=Wk.lQ (k:=k) (n:=n) (e:=e) (st:=st) (by rw[h1];exact h2);rw[h1]at h3;exact (h3.trans (Ag h)) F os a w hr
end Go.Abs
