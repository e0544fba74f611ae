import Derived.Test.YtihdgoiebmfapaaGreatAbsP
set_option linter.all false
namespace Go.Abs
open Go
variable {P : Program} {F : Nat -> Prop} {os : List Own} {s : St} {a : Act} {w : World} {k : Nat}
def fh (m:Nat):AV->Bool
 |.own id _ _|.ptr id _ _ _=>decide (id<m)
 |.fn ..|.agg _|.DF _=>false
 |_=>true
def under (m:Nat):AV->Bool
 |.fn _ cs|.agg cs|.DF cs=>cs.all (fh m)
 |v=>fh m v
section
variable {ops : Array Oper} {Q : Exit -> St -> Prop} {ds : List (Option Tmp)} {r : List Oper} {n : Nat} {e : Nat -> AV} {st st' : List Row} {ty : TypeId} {ps : String} {ed : Array Edge} {d : Option Tmp} {v v' : AV} {gd : Option (Nat × Bool)}
variable {f : FuncId} {vJ : Array Operand} {ts : Array TypeId} {args : List AV} {rows0 rows1 rows2 rest : List Row}
end
def Cm (sel:List Nat)(row:Row):Row:={ row with xs:=row.xs.map (·.map (Ja sel)) }
theorem Wk.ie {n:Nat}{e:Nat->AV}{st:List Row}(sel:List Nat)(hk:sel.take k=List.range k)(vt:sel.Nodup)(uV :∀i∈sel,i<st.length)(hl:JN ((CE st sel).map (Cm sel))):
  Wk k ⟨n,e,st⟩ ⟨n,λt=>Jk sel (e t),(CE st sel).map (Cm sel)⟩:=λF os a w hr=>by
 have hlen:st.length=os.length:=hr.len;have wY :∀i,i<k->sel[i]?=some i:=λi hi=>by
  have h1:(sel.take k)[i]?=some i:=by rw[hk];simp[hi]
  rw[po]at h1;simpa [hi] using h1
 have xf:∀(j id:Nat),sel[j]?=some id->(sel.filterMap (os[·]?))[j]?=os[id]?:=by
  have :∀(l:List Nat),(∀i∈l,i<os.length)->∀(j id:Nat),l[j]?=some id->(l.filterMap (os[·]?))[j]?=os[id]?:=λl=>by
   induction l with
   |nil=>intro _ j id h;simp at h
   |cons i l ih=>
    intro hl j id h;have hi:=hl i (by simp);rw[rC,pG hi];cases j with
    |zero=>simp only[pj,pD]at h;subst h;simp[pG hi]
    |succ j=>simp only[pz]at h⊢;exact ih (λx hx=>hl x (by simp[hx])) j id h
  exact this sel (λi hi=>by rw[<- hlen];exact uV i hi)
 let so:Own->Own:=λo=>{ o with row:=Cm sel o.row }
 let os2:=(sel.filterMap (os[·]?)).map so
 have hl2:(sel.filterMap (os[·]?)).length=sel.length:=by
  have :∀(l:List Nat),(∀i∈l,i<os.length)->(l.filterMap (os[·]?)).length=l.length:=λl=>by
   induction l with
   |nil=>simp
   |cons i l ih=>intro hl;rw[rC,pG (hl i (by simp))];simp[ih (λx hx=>hl x (by simp[hx]))]
  exact this sel (λi hi=>by rw[<- hlen];exact uV i hi)
 have uF:∀(j:Nat) (o:Own),os2[j]?=some o->∃id o0,sel[j]?=some id/\os[id]?=some o0/\o=so o0:=λj o h=>by
  simp only[os2,pC,pI]at h;obtain⟨o0,h0,rfl⟩:=h;have hj:j<sel.length:=by rw[<- hl2];exact (pB.1 h0).1
  refine⟨sel[j],o0,pG hj,?_,rfl⟩;rw[<- xf j _ (pG hj)];exact h0
 have hren0:∀x v,Ab F w os x v->Ab F w os2 (JK sel x) v:=λx v h=>by
  have hidx:∀id j,idx sel id=some j->os2[j]?=(os[id]?).map so:=λid j hj=>by
   unfold idx at hj;rw[rM]at hj;obtain⟨h1,h2,_⟩:=hj;simp only[os2,pC];rw[xf j id (by rw[pG h1];simpa using h2)]
  cases x with
  |own id g n=>
   simp only[JK];split
   .rename_i j hj;simp only[Ab]at h⊢;obtain⟨o,h1,h2,h3,h4⟩:=h;exact⟨so o,by rw[hidx id j hj,h1];rfl,h2,h3,λhg=>by
     obtain⟨a1,a2⟩:=h4 hg;exact⟨by simpa [so,Cm] using a1,by simpa [so,Cm] using a2⟩⟩
   .simp[Ab]
  |ptr id g i off=>
   simp only[JK];split
   .rename_i j hj;simp only[Ab]at h⊢;obtain⟨o,h1,h2,h3,h4⟩:=h;exact⟨so o,by rw[hidx id j hj,h1];rfl,h2,h3,λhg=>by
     obtain⟨a1,a2,a3⟩:=h4 hg;exact⟨by simpa [so,Cm] using a1,a2,a3⟩⟩
   .simp[Ab]
  |fn f cs=>simp[JK,Ab]
  |agg cs=>simp[JK,Ab]
  |DF cs=>simp[JK,Ab]
  |_=>simp only[JK,Ab]at h⊢<;>exact h
 have xg:∀x v,Ab F w os x v->Ab F w os2 (Ja sel x) v:=ML hren0;have xh:∀cs us,Br F w os cs us->Br F w os2 (cs.map (Ja sel)) us:=λcs us h=>
  DZ (by simp[BV h]) λi x u hx hu=>by
   simp only[pC,pI]at hx;obtain⟨y,hy,rfl⟩:=hx;obtain⟨u',vn,vf⟩:=CH h i y hy;rw[vn]at hu;cases hu;exact xg _ _ vf
 have hren:∀x v,Ab F w os x v->Ab F w os2 (Jk sel x) v:=λx v h=>by
  cases x with
  |fn f cs=>simp only[Jk,Ab]at h⊢;obtain⟨us,e,hl⟩:=h;exact⟨us,e,xh _ _ hl⟩
  |agg cs=>simp only[Jk,Ab]at h⊢;obtain⟨us,e,hl⟩:=h;exact⟨us,e,xh _ _ hl⟩
  |DF cs=>simp only[Jk,Ab]at h⊢;obtain⟨us,e,hl⟩:=h;exact⟨us,e,xh _ _ hl⟩
  |_=>exact xg _ _ h
 have zW:os2.map Own.row=(CE st sel).map (Cm sel):=by
  have h0:os.map Own.row=st:=hr.st;simp only[os2,CE,<- h0,rG,sj];congr 1;funext i;simp only[pC];cases os[i]?<;>rfl
 refine⟨F,os2,⟨zW,λt=>hren _ _ (hr.env t),hr.size,λj o ho=>?_,λi j oi oj b hi hj wK wL=>?_,hr.Fp,hr.defers⟩,⟨rfl,rfl,rfl,pM _,λ_ h=>h,λ_ _=>rfl,λb _ h1 h2=>⟨rfl,h1,λo ho=>?_⟩,λi o hi ho=>⟨so o,?_,pM _,rfl,λ_=>⟨rfl,rfl,by simp[so,Cm]⟩⟩⟩⟩
 .have tw:o.row∈(CE st sel).map (Cm sel):=by rw[<- zW];exact pS.2 ⟨o,oz ho,rfl⟩
  obtain⟨id,o0,xB,ho0,rfl⟩:=uF j o ho;have uA:=hr.rows id o0 ho0;refine⟨uA.pos,λx hx=>⟨?_,hl _ tw x hx⟩,λhb=>?_,λb hb=>?_,uA.mo,uA.deep.mapped (Ja sel) (λ_ _ _ _ h=>bX h) rfl rfl rfl rfl⟩
  .simp only[so,Cm,pS]at hx;obtain⟨y,hy,rfl⟩:=hx;simpa [so,Cm] using (uA.lens y hy).1
  .obtain⟨h1,h2⟩:=uA.none hb;exact⟨by simp[so,Cm,h1],h2⟩
  .obtain⟨h1,cur,h2,h3,h4,h5,h6⟩:=uA.some b hb;refine⟨h1,cur,h2,h3,by simpa [so,Cm] using h4,h5,λi x hx j' c hc=>?_⟩;simp only[so,Cm,pC,pI]at hx;obtain⟨y,hy,rfl⟩:=hx;simp only[pC,pI]at hc;obtain⟨c0,wT,rfl⟩:=hc;obtain⟨u,e1,e2⟩:=h6 i y hy j' c0 wT;exact⟨u,e1,xg _ _ e2⟩
 .obtain⟨id,o0,xB,ho0,rfl⟩:=uF i oi hi;obtain⟨vI,o0',hid',ho0',rfl⟩:=uF j oj hj;have he:=hr.inj id vI o0 o0' b ho0 ho0' wK wL;subst he;obtain⟨hi1,hi2⟩:=pB.1 xB;obtain⟨zR,hj2⟩:=pB.1 hid';have hp:=sF.1 vt;rcases ql i j with h|h|h
  .exact absurd (hi2.trans hj2.symm) (hp i j hi1 zR h)
  .exact h
  .exact absurd (hj2.trans hi2.symm) (hp j i zR hi1 h)
 .simp only[os2,pS,qh]at ho;obtain⟨o0,⟨i,_,hi⟩,rfl⟩:=ho;exact h2 o0 (oz hi)
 .simp only[os2,pC];rw[xf i i (wY i hi),ho];rfl
theorem X8 {n:Nat}{e:Nat->AV}{st st':List Row}{L:List (Nat×AV)}(sel:List Nat)(hk:sel.take k=List.range k)(vt:sel.Nodup)(uV:sel.all (·<st.length)=true)
  (uW:(CE st sel).map (Cm sel)=st') (hl:JN st') (h:ME (λt=>Jk sel (e t)) L):Wk k ⟨n,e,st⟩ ⟨n,AP L,st'⟩:=by
 subst uW;exact (Wk.ie sel hk vt (λi hi=>by simpa using pH.1 uV i hi) hl).trans (Ag h)
inductive SR (sel:List Nat):List Row->List Row->Prop
 |nil:SR sel [] []
 |deep {g size:Nat} {el:TypeId} {xs:List (List AV)} {r r':List Row} (hp:DG xs) (hl:SR sel r r'):SR sel (⟨g,el,size,xs⟩::r) (⟨g,el,size,xs⟩::r')
 |raw {g size:Nat} {el:TypeId} {cs cs':List AV} {r r':List Row} (hc:cs.map (Ja sel)=cs') (hp:cs'.all AV.leaf=true) (hl:SR sel r r'):SR sel (⟨g,el,size,[cs]⟩::r) (⟨g,el,size,[cs']⟩::r')
 |hol {g size i:Nat} {el:TypeId} {zs:List (List AV)} {x x':List AV} {r r':List Row} (hp:DG zs) (hz :∀z∈zs,z.all AV.kept=true) (hc:x.map (Ja sel)=x') (hk:x'.all AV.kept=true) (hl:SR sel r r'):SR sel (⟨g,el,size,zs.set i x⟩::r) (⟨g,el,size,zs.set i x'⟩::r')
theorem SR.pure {sel:List Nat}{g size:Nat}{el:TypeId}{xs:List (List AV)}{r r':List Row}(hp:ES xs)(hl:SR sel r r'):SR sel (⟨g,el,size,xs⟩::r) (⟨g,el,size,xs⟩::r'):=.deep hp.any hl
theorem OH {sel:List Nat}{c:AV}(h:E6 c=true):Ja sel c=c:=by cases c<;>simp[E6,simple,Ja,two,JK]at h⊢
theorem SR.spec {sel:List Nat}{st0:List Row}(hle :∀row∈st0,∀x∈row.xs,∀c∈x,c.kept=true):∀{l l':List Row},SR sel l l'->(∀row∈l,row∈st0)->l.map (Cm sel)=l'/\JN l'
 |_,_,.nil,_=>⟨rfl,λ_ h=>by cases h⟩
 |_,_,.deep hp hl,hm=>by
  obtain⟨h1,h2⟩:=SR.spec hle hl (λrow h=>hm row (qU _ h));have vT:=hle _ (hm _ (rJ ..));refine⟨?_,?_⟩
  .simp only[pd,h1];congr 1;simp only[Cm];congr 1;refine (ph (g:=id) λx hx=>?_).trans (qo _);refine (ph (g:=id) λc hc=>?_).trans (qo _);exact OH (hp x hx c hc)
  .intro row tw;rcases pL.1 tw with rfl|h
   .exact vT
   .exact h2 row h
 |_,_,.raw hc hp hl,hm=>by
  obtain⟨h1,h2⟩:=SR.spec hle hl (λrow h=>hm row (qU _ h));refine⟨?_,?_⟩
  .simp only[pd,h1,Cm,qu,hc]
  .intro row tw;rcases pL.1 tw with rfl|h
   .intro x hx c hcx;simp only[pU]at hx;subst hx;exact Di (pH.1 hp c hcx)
   .exact h2 row h
 |_,_,.hol (zs:=zs) (i:=i) hp hz hc hk hl,hm=>by
  obtain⟨h1,h2⟩:=SR.spec hle hl (λrow h=>hm row (qU _ h));refine⟨?_,?_⟩
  .simp only[pd,h1,Cm,rO,hc];congr 3;refine (ph (g:=id) λx hx=>?_).trans (qo _);refine (ph (g:=id) λc hc=>?_).trans (qo _);exact OH (hp x hx c hc)
  .intro row tw;rcases pL.1 tw with rfl|h
   .intro x hx c hcx;rcases qV hx with hx|rfl
    .exact pH.1 (hz x hx) c hcx
    .exact pH.1 hk c hcx
   .exact h2 row h
theorem O8 {n:Nat}{e:Nat->AV}{st:List Row}(hr:Rel F os ⟨n,e,st⟩ a w):∀row∈st,∀x∈row.xs,∀c∈x,c.kept=true:=λrow tw x hx c hc=>by
 have uW:=hr.st;simp only at uW;rw[<- uW]at tw;obtain⟨o,ho,rfl⟩:=pS.1 tw;obtain⟨i,hi⟩:=pZ.1 ho;exact ((hr.rows i o hi).lens x hx).2 c hc
def Xc (id g:Nat):AV->AV
 |.own vI g' n=>if vI=id/\g'=g then .own id (g+1) n else .own vI g' n
 |.ptr vI g' i off=>if vI=id/\g'=g then .ptr id (g+1) i off else .ptr vI g' i off
 |.fn ..|.agg _|.DF _=>.FY
 |v=>v
def VQ (id g:Nat)(x:AV):AV:=two (Xc id g) x
theorem mB {id g:Nat}{c:AV}{el s:Nat}{ys:List (List AV)}(h:VQ id g c=.dv el s ys):c=.dv el s ys:=by
 refine UA (X:=Xc id g) (λc h=>?_) h;cases c<;>simp only[Xc]at h<;>first|exact h|cases h|(repeat' split at h)<;>first|cases h|exact h
def bp (id g:Nat):AV->AV
 |.fn f cs=>.fn f (cs.map (VQ id g))
 |.agg cs=>.agg (cs.map (VQ id g))
 |.DF cs=>.DF (cs.map (VQ id g))
 |v=>VQ id g v
def OF (id g:Nat)(row:Row):Row:={ row with xs:=row.xs.map (·.map (VQ id g)) }
def fO (row:Row):Row:={ row with gen:=row.gen+1 }
theorem Wk.mn {n:Nat}{e:Nat->AV}{st:List Row}{id:Nat}{row:Row}(tw:st[id]?=some row)(hl:JN (st.map (OF id row.gen))):
  Wk k ⟨n,e,st⟩ ⟨n,λt=>bp id row.gen (e t),(st.map (OF id row.gen)).modify id fO⟩:=λF os a w hr=>by
 let so:Nat->Own->Own:=λi o=>{ o with row:=if i=id then fO (OF id row.gen o.row) else OF id row.gen o.row }
 let os2:=os.mapIdx so
 have hst0:os.map Own.row=st:=hr.st;obtain⟨oi,xM,hoir⟩ :∃o,os[id]?=some o/\o.row=row:=by
  rw[<- hst0,pC,pI]at tw;exact tw
 have uF:∀i,os2[i]?=(os[i]?).map (so i):=λi=>by simp[os2]
 have hsx:∀i o,(so i o).row.xs=o.row.xs.map (·.map (VQ id row.gen)):=λi o=>by
  simp only[so];split<;>rfl
 have uf:∀i o,(so i o).row.size=o.row.size:=λi o=>by simp only[so];split<;>rfl
 have hse:∀i o,(so i o).row.elem=o.row.elem:=λi o=>by simp only[so];split<;>rfl
 have yj:∀i o,(so i o).row.gen=if i=id then o.row.gen+1 else o.row.gen:=λi o=>by simp only[so];split<;>rfl
 have hb0:∀x v,Ab F w os x v->Ab F w os2 (Xc id row.gen x) v:=λx v h=>by
  cases x with
  |own vI g' n'=>
   simp only[Ab]at h;obtain⟨o,h1,h2,h3,h4⟩:=h;simp only[Xc];by_cases hc:vI=id/\g'=row.gen
   .rw[pJ hc];obtain⟨rfl,rfl⟩:=hc;have:o=oi:=by rw[xM]at h1;cases h1;rfl
    subst this;simp only[Ab];refine⟨so vI o,by rw[uF,xM];rfl,by rw[yj];simp[hoir],h3,λ_=>?_⟩;obtain⟨a1,a2⟩:=h4 (by rw[hoir]);exact⟨by rw[hsx];simpa using a1,by rw[hsx,uf,pR];exact a2⟩
   .rw[pK hc];simp only[Ab];refine⟨so vI o,by rw[uF,h1];rfl,by rw[yj];split<;>omega,h3,λhg=>?_⟩;rw[yj]at hg;by_cases hi:vI=id
    .subst hi;rw[xM]at h1;cases h1;rw[pJ rfl]at hg;omega
    .rw[pK hi]at hg;obtain⟨a1,a2⟩:=h4 hg;exact⟨by rw[hsx];simpa using a1,by rw[hsx,uf,pR];exact a2⟩
  |ptr vI g' i' off=>
   simp only[Ab]at h;obtain⟨o,h1,h2,h3,h4⟩:=h;simp only[Xc];by_cases hc:vI=id/\g'=row.gen
   .rw[pJ hc];obtain⟨rfl,rfl⟩:=hc;have:o=oi:=by rw[xM]at h1;cases h1;rfl
    subst this;simp only[Ab];refine⟨so vI o,by rw[uF,xM];rfl,by rw[yj];simp[hoir],h3,λ_=>?_⟩;obtain⟨a1,a2,a3⟩:=h4 (by rw[hoir]);exact⟨by rw[hsx];simpa using a1,by rw[uf];exact a2,by rw[uf];exact a3⟩
   .rw[pK hc];simp only[Ab];refine⟨so vI o,by rw[uF,h1];rfl,by rw[yj];split<;>omega,h3,λhg=>?_⟩;rw[yj]at hg;by_cases hi:vI=id
    .subst hi;rw[xM]at h1;cases h1;rw[pJ rfl]at hg;omega
    .rw[pK hi]at hg;obtain⟨a1,a2,a3⟩:=h4 hg;exact⟨by rw[hsx];simpa using a1,by rw[uf];exact a2,by rw[uf];exact a3⟩
  |fn f vP=>simp[Xc,Ab]
  |agg cs=>simp[Xc,Ab]
  |DF cs=>simp[Xc,Ab]
  |_=>simp only[Xc,Ab]at h⊢<;>exact h
 have hb1:∀x v,Ab F w os x v->Ab F w os2 (VQ id row.gen x) v:=ML hb0;have hbL:∀cs us,Br F w os cs us->Br F w os2 (cs.map (VQ id row.gen)) us:=λcs us h=>
  DZ (by simp[BV h]) λi x u hx hu=>by
   simp only[pC,pI]at hx;obtain⟨y,hy,rfl⟩:=hx;obtain⟨u',vn,vf⟩:=CH h i y hy;rw[vn]at hu;cases hu;exact hb1 _ _ vf
 have hb:∀x v,Ab F w os x v->Ab F w os2 (bp id row.gen x) v:=λx v h=>by
  cases x with
  |fn f cs=>simp only[bp,Ab]at h⊢;obtain⟨us,e,hl⟩:=h;exact⟨us,e,hbL _ _ hl⟩
  |agg cs=>simp only[bp,Ab]at h⊢;obtain⟨us,e,hl⟩:=h;exact⟨us,e,hbL _ _ hl⟩
  |DF cs=>simp only[bp,Ab]at h⊢;obtain⟨us,e,hl⟩:=h;exact⟨us,e,hbL _ _ hl⟩
  |_=>exact hb1 _ _ h
 have hst2:os2.map Own.row=(st.map (OF id row.gen)).modify id fO:=by
  apply qk;intro i;rw[pC,uF,List.getElem?_modify,pC,<- hst0,pC];cases os[i]? with
  |none=>rfl
  |some o=>
   simp only[qG,so];by_cases hi:i=id
   .simp[hi]
   .have:¬ id=i:=λh=>hi h.symm;simp[hi,this]
 refine⟨F,os2,⟨hst2,λt=>hb _ _ (hr.env t),hr.size,λi o ho=>?_,λi j oi' oj' b hi hj wK wL=>?_,hr.Fp,hr.defers⟩,⟨rfl,rfl,rfl,pM _,λ_ h=>h,λ_ _=>rfl,λb _ h1 h2=>⟨rfl,h1,λo ho=>?_⟩,λi o hi ho=>⟨so i o,by rw[uF,ho];rfl,by rw[yj];split<;>omega,uf i o,λ_=>⟨rfl,rfl,by rw[hsx];simp⟩⟩⟩⟩
 .rw[uF,pI]at ho;obtain⟨o0,ho0,rfl⟩:=ho;have uA:=hr.rows i o0 ho0;have hm:OF id row.gen o0.row∈st.map (OF id row.gen):=pS.2 ⟨o0.row,by rw[<- hst0];exact pS.2 ⟨o0,oz ho0,rfl⟩,rfl⟩;refine⟨by rw[uf];exact uA.pos,λx hx=>?_,λzJ=>?_,λb hbb=>?_,uA.mo,uA.deep.mapped (VQ id row.gen) (λ_ _ _ _ h=>mB h) rfl rfl (uf _ _) (hsx _ _)⟩
  .rw[hsx]at hx;refine⟨?_,hl _ hm x hx⟩;obtain⟨y,hy,rfl⟩:=pS.1 hx;rw[uf,pR];exact (uA.lens y hy).1
  .obtain⟨h1,h2⟩:=uA.none zJ;exact⟨by rw[hsx,h1];rfl,h2⟩
  .obtain⟨h1,cur,h2,h3,h4,h5,h6⟩:=uA.some b hbb;refine⟨h1,cur,by rw[hse];exact h2,by rw[uf];exact h3,by rw[hsx,pR];exact h4,h5,λi' x hx j c hc=>?_⟩;rw[hsx,pC,pI]at hx;obtain⟨y,hy,rfl⟩:=hx;rw[pC,pI]at hc;obtain⟨c0,wT,rfl⟩:=hc;obtain⟨u,e1,e2⟩:=h6 i' y hy j c0 wT;exact⟨u,by rw[uf];exact e1,hb1 _ _ e2⟩
 .rw[uF,pI]at hi hj;obtain⟨o1,ho1,rfl⟩:=hi;obtain⟨o2,zK,rfl⟩:=hj;exact hr.inj i j o1 o2 b ho1 zK wK wL
 .obtain⟨i,hi⟩:=pZ.1 ho;rw[uF,pI]at hi;obtain⟨o0,h0,rfl⟩:=hi;exact h2 o0 (oz h0)
inductive BR (id g:Nat):List Row->List Row->Prop
 |nil:BR id g [] []
 |deep {g' size:Nat} {el:TypeId} {xs:List (List AV)} {r r':List Row} (hp:DG xs) (hl:BR id g r r'):BR id g (⟨g',el,size,xs⟩::r) (⟨g',el,size,xs⟩::r')
 |raw {g' size:Nat} {el:TypeId} {cs cs':List AV} {r r':List Row} (hc:cs.map (VQ id g)=cs') (hp:cs'.all AV.leaf=true) (hl:BR id g r r'):BR id g (⟨g',el,size,[cs]⟩::r) (⟨g',el,size,[cs']⟩::r')
theorem BR.pure {id g g' size:Nat}{el:TypeId}{xs:List (List AV)}{r r':List Row}(hp:ES xs)(hl:BR id g r r'):BR id g (⟨g',el,size,xs⟩::r) (⟨g',el,size,xs⟩::r'):=.deep hp.any hl
theorem aF {id g:Nat}{c:AV}(h:E6 c=true):VQ id g c=c:=by cases c<;>simp[E6,simple,VQ,two,Xc]at h⊢
theorem BR.spec {id g:Nat}{st0:List Row}(hle :∀row∈st0,∀x∈row.xs,∀c∈x,c.kept=true):∀{l l':List Row},BR id g l l'->(∀row∈l,row∈st0)->l.map (OF id g)=l'/\JN l'
 |_,_,.nil,_=>⟨rfl,λ_ h=>by cases h⟩
 |_,_,.deep hp hl,hm=>by
  obtain⟨h1,h2⟩:=BR.spec hle hl (λrow h=>hm row (qU _ h));have vT:=hle _ (hm _ (rJ ..));refine⟨?_,?_⟩
  .simp only[pd,h1];congr 1;simp only[OF];congr 1;refine (ph (g:=λx=>x) λx hx=>?_).trans (qo _);refine (ph (g:=λx=>x) λc hc=>?_).trans (qo _);exact aF (hp x hx c hc)
  .intro row tw;rcases pL.1 tw with rfl|h
   .exact vT
   .exact h2 row h
 |_,_,.raw hc hp hl,hm=>by
  obtain⟨h1,h2⟩:=BR.spec hle hl (λrow h=>hm row (qU _ h));refine⟨?_,?_⟩
  .simp only[pd,h1,OF,qu,hc]
  .intro row tw;rcases pL.1 tw with rfl|h
   .intro x hx c hcx;simp only[pU]at hx;subst hx;exact Di (pH.1 hp c hcx)
   .exact h2 row h
theorem Nj {n:Nat}{e:Nat->AV}{st st1 st':List Row}{L:List (Nat×AV)}(id:Nat){row:Row}(tw:st[id]?=some row)(hb:BR id row.gen st st1)(uW:st1.modify id fO=st')(h:ME (λt=>bp id row.gen (e t)) L):Wk k ⟨n,e,st⟩ ⟨n,AP L,st'⟩:=λF os a w hr=>by
 obtain⟨h1,h2⟩:=hb.spec (st0:=st) (O8 hr) (λ_ h=>h);have h3:=Wk.mn (k:=k) (n:=n) (e:=e) tw (by rw[h1];exact h2);rw[h1,uW]at h3;exact (h3.trans (Ag h)) F os a w hr
def XH (m:Nat)(st:List Row):AV->AV
 |.own id g n=>if id<m then .own id g n else match st[id]? with
  |some row=>if row.gen=g then .own id 0 n else .FY
  |none=>.FY
 |.ptr id g i off=>if id<m then .ptr id g i off else match st[id]? with
  |some row=>if row.gen=g then .ptr id 0 i off else .FY
  |none=>.FY
 |.fn ..|.agg _|.DF _=>.FY
 |v=>v
def V9 (m:Nat)(st:List Row)(x:AV):AV:=two (XH m st) x
theorem ln {m:Nat}{st:List Row}{c:AV}{el s:Nat}{ys:List (List AV)}(h:V9 m st c=.dv el s ys):c=.dv el s ys:=by
 refine UA (X:=XH m st) (λc h=>?_) h;cases c<;>simp only[XH]at h<;>first|exact h|cases h|(repeat' split at h)<;>first|cases h|exact h
def rk (m:Nat)(st:List Row):AV->AV
 |.fn f cs=>.fn f (cs.map (V9 m st))
 |.agg cs=>.agg (cs.map (V9 m st))
 |.DF cs=>.DF (cs.map (V9 m st))
 |v=>V9 m st v
def GZ (m:Nat)(st:List Row)(i:Nat)(row:Row):Row:={ row with gen:=if i<m then row.gen else 0,xs:=row.xs.map (·.map (V9 m st)) }
theorem Wk.lD {n:Nat}{e:Nat->AV}{st:List Row}(hl:JN (st.mapIdx (GZ k st))):Wk k ⟨n,e,st⟩ ⟨n,λt=>rk k st (e t),st.mapIdx (GZ k st)⟩:=λF os a w hr=>by
 let so:Nat->Own->Own:=λi o=>{ o with row:=GZ k st i o.row }
 let os2:=os.mapIdx so
 have hst0:os.map Own.row=st:=hr.st;have uF:∀i,os2[i]?=(os[i]?).map (so i):=λi=>by simp[os2]
 have hs:∀{id:Nat} {o:Own},os[id]?=some o->st[id]?=some o.row:=λ{id o} ho=>by rw[<- hst0,pC,ho];rfl
 have yk :∀x v,Ab F w os x v->Ab F w os2 (XH k st x) v:=λx v h=>by
  cases x with
  |own id g n'=>
   simp only[Ab]at h;obtain⟨o,ho,hle,yZ,hv⟩:=h;simp only[XH,hs ho];by_cases hk:id<k
   .rw[pJ hk];simp only[Ab];refine⟨so id o,by rw[uF,ho];rfl,by simp only[so,GZ,hk,pt];exact hle,yZ,λhg=>?_⟩;simp only[so,GZ,hk,pt]at hg;obtain⟨a1,a2⟩:=hv hg;exact⟨by simpa [so,GZ] using a1,by simpa [so,GZ] using a2⟩
   .rw[pK hk];split
    .rename_i e;obtain⟨a1,a2⟩:=hv e;simp only[Ab];exact⟨so id o,by rw[uF,ho];rfl,pT _,yZ,λ_=>⟨by simpa [so,GZ] using a1,by simpa [so,GZ] using a2⟩⟩
    .simp[Ab]
  |ptr id g i off=>
   simp only[Ab]at h;obtain⟨o,ho,hle,yZ,hv⟩:=h;simp only[XH,hs ho];by_cases hk:id<k
   .rw[pJ hk];simp only[Ab];refine⟨so id o,by rw[uF,ho];rfl,by simp only[so,GZ,hk,pt];exact hle,yZ,λhg=>?_⟩;simp only[so,GZ,hk,pt]at hg;obtain⟨a1,a2,a3⟩:=hv hg;exact⟨by simpa [so,GZ] using a1,a2,a3⟩
   .rw[pK hk];split
    .rename_i e;obtain⟨a1,a2,a3⟩:=hv e;simp only[Ab];exact⟨so id o,by rw[uF,ho];rfl,pT _,yZ,λ_=>⟨by simpa [so,GZ] using a1,a2,a3⟩⟩
    .simp[Ab]
  |fn f vP=>simp[XH,Ab]
  |agg cs=>simp[XH,Ab]
  |DF cs=>simp[XH,Ab]
  |_=>simp only[XH,Ab]at h⊢<;>exact h
 have h1:∀x v,Ab F w os x v->Ab F w os2 (V9 k st x) v:=ML yk;have hL:∀cs us,Br F w os cs us->Br F w os2 (cs.map (V9 k st)) us:=λcs us h=>
  DZ (by simp[BV h]) λi x u hx hu=>by
   simp only[pC,pI]at hx;obtain⟨y,hy,rfl⟩:=hx;obtain⟨u',vn,vf⟩:=CH h i y hy;rw[vn]at hu;cases hu;exact h1 _ _ vf
 have hb:∀x v,Ab F w os x v->Ab F w os2 (rk k st x) v:=λx v h=>by
  cases x with
  |fn f cs=>simp only[rk,Ab]at h⊢;obtain⟨us,e,hl⟩:=h;exact⟨us,e,hL _ _ hl⟩
  |agg cs=>simp only[rk,Ab]at h⊢;obtain⟨us,e,hl⟩:=h;exact⟨us,e,hL _ _ hl⟩
  |DF cs=>simp only[rk,Ab]at h⊢;obtain⟨us,e,hl⟩:=h;exact⟨us,e,hL _ _ hl⟩
  |_=>exact h1 _ _ h
 have hst2:os2.map Own.row=st.mapIdx (GZ k st):=by
  apply qk;intro i;have e1:st[i]?=(os[i]?).map Own.row:=by rw[<- hst0,pC]
  rw[pC,uF,sZ,e1];cases os[i]?<;>rfl
 refine⟨F,os2,⟨hst2,λt=>hb _ _ (hr.env t),hr.size,λi o ho=>?_,λi j oi' oj' b hi hj wK wL=>?_,hr.Fp,hr.defers⟩,⟨rfl,rfl,rfl,pM _,λ_ h=>h,λ_ _=>rfl,λb _ h1 h2=>⟨rfl,h1,λo ho=>?_⟩,λi o hi ho=>⟨so i o,by rw[uF,ho];rfl,by simp[so,GZ,hi],rfl,λ_=>⟨rfl,rfl,by simp[so,GZ]⟩⟩⟩⟩
 .rw[uF,pI]at ho;obtain⟨o0,ho0,rfl⟩:=ho;have uA:=hr.rows i o0 ho0;have hm:(so i o0).row∈st.mapIdx (GZ k st):=by
   rw[<- hst2];exact pS.2 ⟨so i o0,oz (by rw[uF,ho0];rfl),rfl⟩
  refine⟨uA.pos,λx hx=>⟨?_,hl _ hm x hx⟩,λzJ=>?_,λb hbb=>?_,uA.mo,uA.deep.mapped (V9 k st) (λ_ _ _ _ h=>ln h) rfl rfl rfl rfl⟩
  .simp only[so,GZ,pS]at hx;obtain⟨y,hy,rfl⟩:=hx;simpa [so,GZ] using (uA.lens y hy).1
  .obtain⟨h1,h2⟩:=uA.none zJ;exact⟨by simp[so,GZ,h1],h2⟩
  .obtain⟨g1,cur,h2,h3,h4,h5,h6⟩:=uA.some b hbb;refine⟨g1,cur,h2,h3,by simpa [so,GZ] using h4,h5,λi' x hx j c hc=>?_⟩;simp only[so,GZ,pC,pI]at hx;obtain⟨y,hy,rfl⟩:=hx;simp only[pC,pI]at hc;obtain⟨c0,wT,rfl⟩:=hc;obtain⟨u,e1,e2⟩:=h6 i' y hy j c0 wT;exact⟨u,e1,h1 _ _ e2⟩
 .rw[uF,pI]at hi hj;obtain⟨o1,ho1,rfl⟩:=hi;obtain⟨o2,zK,rfl⟩:=hj;exact hr.inj i j o1 o2 b ho1 zK wK wL
 .obtain⟨i,hi⟩:=pZ.1 ho;rw[uF,pI]at hi;obtain⟨o0,h0,rfl⟩:=hi;exact h2 o0 (oz h0)
inductive KR (m:Nat) (st:List Row):Nat->List Row->List Row->Prop
 |nil {i:Nat}:KR m st i [] []
 |deep {i g g' size:Nat} {el:TypeId} {xs:List (List AV)} {r r':List Row} (hg:g'=if i<m then g else 0) (hp:DG xs) (hl:KR m st (i+1) r r'):KR m st i (⟨g,el,size,xs⟩::r) (⟨g',el,size,xs⟩::r')
 |raw {i g g' size:Nat} {el:TypeId} {cs cs':List AV} {r r':List Row} (hg:g'=if i<m then g else 0) (hc:cs.map (V9 m st)=cs') (hp:cs'.all AV.leaf=true) (hl:KR m st (i+1) r r'):KR m st i (⟨g,el,size,[cs]⟩::r) (⟨g',el,size,[cs']⟩::r')
theorem KR.pure {m:Nat}{st:List Row}{i g g' size:Nat}{el:TypeId}{xs:List (List AV)}{r r':List Row}(hg:g'=if i<m then g else 0)(hp:ES xs)(hl:KR m st (i+1) r r'):KR m st i (⟨g,el,size,xs⟩::r) (⟨g',el,size,xs⟩::r'):=.deep hg hp.any hl
theorem Z2 {m:Nat}{st:List Row}{c:AV}(h:E6 c=true):V9 m st c=c:=by cases c<;>simp[E6,simple,V9,two,XH]at h⊢
theorem KR.spec {m:Nat}{st st0:List Row}(hle :∀row∈st0,∀x∈row.xs,∀c∈x,c.kept=true):∀{i:Nat} {l l':List Row},KR m st i l l'->(∀row∈l,row∈st0)->l.mapIdx (λj=>GZ m st (i+j))=l'/\JN l'
 |_,_,_,.nil,_=>⟨rfl,λ_ h=>by cases h⟩
 |i,_,_,.deep (r:=r) hg hp hl,hm=>by
  obtain⟨h1,h2⟩:=KR.spec hle hl (λrow h=>hm row (qU _ h));have vT:=hle _ (hm _ (rJ ..));refine⟨?_,?_⟩
  .rw[List.mapIdx_cons];have e:(λj=>GZ m st (i+(j+1)))=λj=>GZ m st (i+1+j):=by funext j;congr 1;omega
   rw[e,h1];congr 1;subst hg;simp only[GZ,qp];congr 1;refine (ph (g:=λx=>x) λx hx=>?_).trans (qo _);refine (ph (g:=λx=>x) λc hc=>?_).trans (qo _);exact Z2 (hp x hx c hc)
  .intro row tw;rcases pL.1 tw with rfl|h
   .exact vT
   .exact h2 row h
 |i,_,_,.raw hg hc hp hl,hm=>by
  obtain⟨h1,h2⟩:=KR.spec hle hl (λrow h=>hm row (qU _ h));refine⟨?_,?_⟩
  .rw[List.mapIdx_cons];have e:(λj=>GZ m st (i+(j+1)))=λj=>GZ m st (i+1+j):=by funext j;congr 1;omega
   rw[e,h1];subst hg;simp only[GZ,qp,pd,qu,hc]
  .intro row tw;rcases pL.1 tw with rfl|h
   .intro x hx c hcx;simp only[pU]at hx;subst hx;exact Di (pH.1 hp c hcx)
   .exact h2 row h
theorem D3 {n:Nat}{e:Nat->AV}{st st':List Row}{L:List (Nat×AV)}(hg:KR k st 0 st st')(h:ME (λt=>Abs.rk k st (e t)) L):Wk k ⟨n,e,st⟩ ⟨n,AP L,st'⟩:=λF os a w hr=>by
 obtain⟨h1,h2⟩:=hg.spec (st0:=st) (O8 hr) (λ_ h=>h);simp only[qP]at h1;have h3:=Wk.lD (k:=k) (n:=n) (e:=e) (st:=st) (by rw[h1];exact h2);rw[h1]at h3;exact (h3.trans (Ag h)) F os a w hr
end Go.Abs
