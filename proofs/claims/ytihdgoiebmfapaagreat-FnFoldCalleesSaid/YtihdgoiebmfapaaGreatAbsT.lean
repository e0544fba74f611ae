import Derived.Test.YtihdgoiebmfapaaGreatAbsP
set_option linter.all false
namespace Go.Abs
open Go
variable {P : Program} {F : Nat -> Prop} {os : List Own} {s : St} {a : Act} {w : World} {k : Nat}
def cj (m:Nat):AV->Bool
 | .own id _ _|.ptr id _ _ _=>decide (id<m)
 | .fn ..|.agg _|.Dd _=>false
 | _=>true
def under (m:Nat):AV->Bool
 | .fn _ cs|.agg cs|.Dd cs=>cs.all (cj m)
 | v=>cj m v
section
variable {ops : Array Oper} {Q : Exit -> St -> Prop} {ds : List (Option Tmp)} {r : List Oper} {n : Nat} {e : Nat -> AV} {st st' : List Row} {ty : TypeId} {ps : String} {ed : Array Edge} {d : Option Tmp} {v v' : AV} {gd : Option (Nat × Bool)}
variable {f : FuncId} {ri : Array Operand} {ts : Array TypeId} {args : List AV} {rows0 rows1 rows2 rest : List Row}
end
def Cm (sel:List Nat)(row:Row):Row:={ row with xs:=row.xs.map (·.map (Ko sel)) }
theorem Wk.eW {n:Nat}{e:Nat->AV}{st:List Row}(sel:List Nat)(hk:sel.take k=List.range k)(sC:sel.Nodup)(qw :∀i∈sel,i<st.length)(hl:It ((Cc st sel).map (Cm sel))):
  Wk k ⟨n,e,st⟩ ⟨n,λt=>KT sel (e t),(Cc st sel).map (Cm sel)⟩:=λF os a w hr=>by
 have hlen:st.length=os.length:=hr.len;have sS :∀i,i<k->sel[i]?=some i:=λi hi=>by
  have h1:(sel.take k)[i]?=some i:=by rw[hk];simp[hi]
  rw[mJ]at h1;simpa [hi] using h1
 have tU:∀(j id:Nat),sel[j]?=some id->(sel.filterMap (os[·]?))[j]?=os[id]?:=by
  have :∀(l:List Nat),(∀i∈l,i<os.length)->∀(j id:Nat),l[j]?=some id->(l.filterMap (os[·]?))[j]?=os[id]?:=λl=>by
   induction l with
   | nil=>intro _ j id h;simp at h
   | cons i l ih=>
    intro hl j id h;have hi:=hl i (by simp);rw[nX,lZ hi];cases j with
    | zero=>simp only[mI,lX]at h;subst h;simp[lZ hi]
    | succ j=>simp only[mQ]at h⊢;exact ih (λx hx=>hl x (by simp[hx])) j id h
  exact this sel (λi hi=>by rw[<- hlen];exact qw i hi)
 let so:Own->Own:=λo=>{ o with row:=Cm sel o.row }
 let os2:=(sel.filterMap (os[·]?)).map so
 have wR:(sel.filterMap (os[·]?)).length=sel.length:=by
  have :∀(l:List Nat),(∀i∈l,i<os.length)->(l.filterMap (os[·]?)).length=l.length:=λl=>by
   induction l with
   | nil=>simp
   | cons i l ih=>intro hl;rw[nX,lZ (hl i (by simp))];simp[ih (λx hx=>hl x (by simp[hx]))]
  exact this sel (λi hi=>by rw[<- hlen];exact qw i hi)
 have qi:∀(j:Nat) (o:Own),os2[j]?=some o->∃id o0,sel[j]?=some id/\os[id]?=some o0/\o=so o0:=λj o h=>by
  simp only[os2,lW,lg]at h;obtain⟨o0,h0,rfl⟩:=h;have hj:j<sel.length:=by rw[<- wR];exact (lV.1 h0).1
  refine⟨sel[j],o0,lZ hj,?_,rfl⟩;rw[<- tU j _ (lZ hj)];exact h0
 have wz:∀x v,Ae F w os x v->Ae F w os2 (IZ sel x) v:=λx v h=>by
  have vx:∀id j,idx sel id=some j->os2[j]?=(os[id]?).map so:=λid j hj=>by
   unfold idx at hj;rw[nh]at hj;obtain⟨h1,h2,_⟩:=hj;simp only[os2,lW];rw[tU j id (by rw[lZ h1];simpa using h2)]
  cases x with
  | own id g n=>
   simp only[IZ];split
   ·rename_i j hj;simp only[Ae]at h⊢;obtain⟨o,h1,h2,h3,h4⟩:=h;exact⟨so o,by rw[vx id j hj,h1];rfl,h2,h3,λhg=>by
     obtain⟨a1,a2⟩:=h4 hg;exact⟨by simpa [so,Cm] using a1,by simpa [so,Cm] using a2⟩⟩
   ·simp[Ae]
  | ptr id g i off=>
   simp only[IZ];split
   ·rename_i j hj;simp only[Ae]at h⊢;obtain⟨o,h1,h2,h3,h4⟩:=h;exact⟨so o,by rw[vx id j hj,h1];rfl,h2,h3,λhg=>by
     obtain⟨a1,a2,a3⟩:=h4 hg;exact⟨by simpa [so,Cm] using a1,a2,a3⟩⟩
   ·simp[Ae]
  | fn f cs=>simp[IZ,Ae]
  | agg cs=>simp[IZ,Ae]
  | Dd cs=>simp[IZ,Ae]
  | _=>simp only[IZ,Ae]at h⊢<;>exact h
 have tV:∀x v,Ae F w os x v->Ae F w os2 (Ko sel x) v:=Lb wz;have tW:∀cs us,Bs F w os cs us->Bs F w os2 (cs.map (Ko sel)) us:=λcs us h=>
  Db (by simp[BZ h]) λi x u hx hu=>by
   simp only[lW,lg]at hx;obtain⟨y,hy,rfl⟩:=hx;obtain⟨u',sK,ry⟩:=CO h i y hy;rw[sK]at hu;cases hu;exact tV _ _ ry
 have zN:∀x v,Ae F w os x v->Ae F w os2 (KT sel x) v:=λx v h=>by
  cases x with
  | fn f cs=>simp only[KT,Ae]at h⊢;obtain⟨us,e,hl⟩:=h;exact⟨us,e,tW _ _ hl⟩
  | agg cs=>simp only[KT,Ae]at h⊢;obtain⟨us,e,hl⟩:=h;exact⟨us,e,tW _ _ hl⟩
  | Dd cs=>simp only[KT,Ae]at h⊢;obtain⟨us,e,hl⟩:=h;exact⟨us,e,tW _ _ hl⟩
  | _=>exact tV _ _ h
 have vU:os2.map Own.row=(Cc st sel).map (Cm sel):=by
  have h0:os.map Own.row=st:=hr.st;simp only[os2,Cc,<- h0,nU,pL];congr 1;funext i;simp only[lW];cases os[i]?<;>rfl
 refine⟨F,os2,⟨vU,λt=>zN _ _ (hr.env t),hr.size,λj o ho=>?_,λi j oi oj b hi hj sM sN=>?_,hr.FR,hr.defers⟩,⟨rfl,rfl,rfl,ll _,λ_ h=>h,λ_ _=>rfl,λb _ h1 h2=>⟨rfl,h1,λo ho=>?_⟩,λi o hi ho=>⟨so o,?_,ll _,rfl,λ_=>⟨rfl,rfl,by simp[so,Cm]⟩⟩⟩⟩
 ·have qc:o.row∈(Cc st sel).map (Cm sel):=by rw[<- vU];exact mA.2 ⟨o,lT ho,rfl⟩
  obtain⟨id,o0,tO,ho0,rfl⟩:=qi j o ho;have qf:=hr.rows id o0 ho0;refine⟨qf.pos,λx hx=>⟨?_,hl _ qc x hx⟩,λhb=>?_,λb hb=>?_,qf.mo,qf.deep.mapped (Ko sel) (λ_ _ _ _ h=>Z5 h) rfl rfl rfl rfl⟩
  ·simp only[so,Cm,mA]at hx;obtain⟨y,hy,rfl⟩:=hx;simpa [so,Cm] using (qf.lens y hy).1
  ·obtain⟨h1,h2⟩:=qf.none hb;exact⟨by simp[so,Cm,h1],h2⟩
  ·obtain⟨h1,cur,h2,h3,h4,h5,h6⟩:=qf.some b hb;refine⟨h1,cur,h2,h3,by simpa [so,Cm] using h4,h5,λi x hx j' c hc=>?_⟩;simp only[so,Cm,lW,lg]at hx;obtain⟨y,hy,rfl⟩:=hx;simp only[lW,lg]at hc;obtain⟨c0,sZ,rfl⟩:=hc;obtain⟨u,e1,e2⟩:=h6 i y hy j' c0 sZ;exact⟨u,e1,tV _ _ e2⟩
 ·obtain⟨id,o0,tO,ho0,rfl⟩:=qi i oi hi;obtain⟨rN,o0',hid',ho0',rfl⟩:=qi j oj hj;have he:=hr.inj id rN o0 o0' b ho0 ho0' sM sN;subst he;obtain⟨xc,xy⟩:=lV.1 tO;obtain⟨vR,vh⟩:=lV.1 hid';have hp:=oS.1 sC;rcases nG i j with h|h|h
  ·exact absurd (xy.trans vh.symm) (hp i j xc vR h)
  ·exact h
  ·exact absurd (vh.trans xy.symm) (hp j i vR xc h)
 ·simp only[os2,mA,mu]at ho;obtain⟨o0,⟨i,_,hi⟩,rfl⟩:=ho;exact h2 o0 (lT hi)
 ·simp only[os2,lW];rw[tU i i (sS i hi),ho];rfl
theorem V6 {n:Nat}{e:Nat->AV}{st st':List Row}{L:List (Nat×AV)}(sel:List Nat)(hk:sel.take k=List.range k)(sC:sel.Nodup)(qw:sel.all (·<st.length)=true)
  (qz:(Cc st sel).map (Cm sel)=st') (hl:It st') (h:ME (λt=>KT sel (e t)) L):Wk k ⟨n,e,st⟩ ⟨n,Aa L,st'⟩:=by
 subst qz;exact (Wk.eW sel hk sC (λi hi=>by simpa using lh.1 qw i hi) hl).trans (Af h)
inductive SR (sel:List Nat):List Row->List Row->Prop
 | nil:SR sel [] []
 | deep {g size:Nat} {el:TypeId} {xs:List (List AV)} {r r':List Row} (hp:DG xs) (hl:SR sel r r'):SR sel (⟨g,el,size,xs⟩::r) (⟨g,el,size,xs⟩::r')
 | raw {g size:Nat} {el:TypeId} {cs cs':List AV} {r r':List Row} (hc:cs.map (Ko sel)=cs') (hp:cs'.all AV.leaf=true) (hl:SR sel r r'):SR sel (⟨g,el,size,[cs]⟩::r) (⟨g,el,size,[cs']⟩::r')
 | hol {g size i:Nat} {el:TypeId} {zs:List (List AV)} {x x':List AV} {r r':List Row} (hp:DG zs) (hz :∀z∈zs,z.all AV.kept=true) (hc:x.map (Ko sel)=x') (hk:x'.all AV.kept=true) (hl:SR sel r r'):SR sel (⟨g,el,size,zs.set i x⟩::r) (⟨g,el,size,zs.set i x'⟩::r')
theorem SR.pure {sel:List Nat}{g size:Nat}{el:TypeId}{xs:List (List AV)}{r r':List Row}(hp:ER xs)(hl:SR sel r r'):SR sel (⟨g,el,size,xs⟩::r) (⟨g,el,size,xs⟩::r'):=.deep hp.any hl
theorem Nn {sel:List Nat}{c:AV}(h:Ee c=true):Ko sel c=c:=by cases c<;>simp[Ee,simple,Ko,two,IZ]at h⊢
theorem SR.spec {sel:List Nat}{st0:List Row}(hle :∀row∈st0,∀x∈row.xs,∀c∈x,c.kept=true):∀{l l':List Row},SR sel l l'->(∀row∈l,row∈st0)->l.map (Cm sel)=l'/\It l'
 | _,_,.nil,_=>⟨rfl,λ_ h=>by cases h⟩
 | _,_,.deep hp hl,hm=>by
  obtain⟨h1,h2⟩:=SR.spec hle hl (λrow h=>hm row (mh _ h));have rf:=hle _ (hm _ (nf ..));refine⟨?_,?_⟩
  ·simp only[mF,h1];congr 1;simp only[Cm];congr 1;refine (mH (g:=id) λx hx=>?_).trans (nH _);refine (mH (g:=id) λc hc=>?_).trans (nH _);exact Nn (hp x hx c hc)
  ·intro row qc;rcases lk.1 qc with rfl|h
   ·exact rf
   ·exact h2 row h
 | _,_,.raw hc hp hl,hm=>by
  obtain⟨h1,h2⟩:=SR.spec hle hl (λrow h=>hm row (mh _ h));refine⟨?_,?_⟩
  ·simp only[mF,h1,Cm,nV,hc]
  ·intro row qc;rcases lk.1 qc with rfl|h
   ·intro x hx c wS;simp only[lu]at hx;subst hx;exact D3 (lh.1 hp c wS)
   ·exact h2 row h
 | _,_,.hol (zs:=zs) (i:=i) hp hz hc hk hl,hm=>by
  obtain⟨h1,h2⟩:=SR.spec hle hl (λrow h=>hm row (mh _ h));refine⟨?_,?_⟩
  ·simp only[mF,h1,Cm,nj,hc];congr 3;refine (mH (g:=id) λx hx=>?_).trans (nH _);refine (mH (g:=id) λc hc=>?_).trans (nH _);exact Nn (hp x hx c hc)
  ·intro row qc;rcases lk.1 qc with rfl|h
   ·intro x hx c wS;rcases mg hx with hx|rfl
    ·exact lh.1 (hz x hx) c wS
    ·exact lh.1 hk c wS
   ·exact h2 row h
theorem Nv {n:Nat}{e:Nat->AV}{st:List Row}(hr:Rel F os ⟨n,e,st⟩ a w):∀row∈st,∀x∈row.xs,∀c∈x,c.kept=true:=λrow qc x hx c hc=>by
 have qz:=hr.st;simp only at qz;rw[<- qz]at qc;obtain⟨o,ho,rfl⟩:=mA.1 qc;obtain⟨i,hi⟩:=lv.1 ho;exact ((hr.rows i o hi).lens x hx).2 c hc
def Vc (id g:Nat):AV->AV
 | .own rN g' n=>if rN=id/\g'=g then .own id (g+1) n else .own rN g' n
 | .ptr rN g' i off=>if rN=id/\g'=g then .ptr id (g+1) i off else .ptr rN g' i off
 | .fn ..|.agg _|.Dd _=>.E7
 | v=>v
def Tx (id g:Nat)(x:AV):AV:=two (Vc id g) x
theorem gx {id g:Nat}{c:AV}{el s:Nat}{ys:List (List AV)}(h:Tx id g c=.dv el s ys):c=.dv el s ys:=by
 refine Sg (X:=Vc id g) (λc h=>?_) h;cases c<;>simp only[Vc]at h<;>first|exact h|cases h|(repeat' split at h)<;>first|cases h|exact h
def bp (id g:Nat):AV->AV
 | .fn f cs=>.fn f (cs.map (Tx id g))
 | .agg cs=>.agg (cs.map (Tx id g))
 | .Dd cs=>.Dd (cs.map (Tx id g))
 | v=>Tx id g v
def Np (id g:Nat)(row:Row):Row:={ row with xs:=row.xs.map (·.map (Tx id g)) }
def cg (row:Row):Row:={ row with gen:=row.gen+1 }
theorem Wk.jt {n:Nat}{e:Nat->AV}{st:List Row}{id:Nat}{row:Row}(qc:st[id]?=some row)(hl:It (st.map (Np id row.gen))):
  Wk k ⟨n,e,st⟩ ⟨n,λt=>bp id row.gen (e t),(st.map (Np id row.gen)).modify id cg⟩:=λF os a w hr=>by
 let so:Nat->Own->Own:=λi o=>{ o with row:=if i=id then cg (Np id row.gen o.row) else Np id row.gen o.row }
 let os2:=os.mapIdx so
 have vy:os.map Own.row=st:=hr.st;obtain⟨oi,tG,hoir⟩ :∃o,os[id]?=some o/\o.row=row:=by
  rw[<- vy,lW,lg]at qc;exact qc
 have qi:∀i,os2[i]?=(os[i]?).map (so i):=λi=>by simp[os2]
 have wU:∀i o,(so i o).row.xs=o.row.xs.map (·.map (Tx id row.gen)):=λi o=>by
  simp only[so];split<;>rfl
 have rC:∀i o,(so i o).row.size=o.row.size:=λi o=>by simp only[so];split<;>rfl
 have hse:∀i o,(so i o).row.elem=o.row.elem:=λi o=>by simp only[so];split<;>rfl
 have uW:∀i o,(so i o).row.gen=if i=id then o.row.gen+1 else o.row.gen:=λi o=>by simp only[so];split<;>rfl
 have ye:∀x v,Ae F w os x v->Ae F w os2 (Vc id row.gen x) v:=λx v h=>by
  cases x with
  | own rN g' n'=>
   simp only[Ae]at h;obtain⟨o,h1,h2,h3,h4⟩:=h;simp only[Vc];by_cases hc:rN=id/\g'=row.gen
   ·rw[ld hc];obtain⟨rfl,rfl⟩:=hc;have:o=oi:=by rw[tG]at h1;cases h1;rfl
    subst this;simp only[Ae];refine⟨so rN o,by rw[qi,tG];rfl,by rw[uW];simp[hoir],h3,λ_=>?_⟩;obtain⟨a1,a2⟩:=h4 (by rw[hoir]);exact⟨by rw[wU];simpa using a1,by rw[wU,rC,ly];exact a2⟩
   ·rw[la hc];simp only[Ae];refine⟨so rN o,by rw[qi,h1];rfl,by rw[uW];split<;>omega,h3,λhg=>?_⟩;rw[uW]at hg;by_cases hi:rN=id
    ·subst hi;rw[tG]at h1;cases h1;rw[ld rfl]at hg;omega
    ·rw[la hi]at hg;obtain⟨a1,a2⟩:=h4 hg;exact⟨by rw[wU];simpa using a1,by rw[wU,rC,ly];exact a2⟩
  | ptr rN g' i' off=>
   simp only[Ae]at h;obtain⟨o,h1,h2,h3,h4⟩:=h;simp only[Vc];by_cases hc:rN=id/\g'=row.gen
   ·rw[ld hc];obtain⟨rfl,rfl⟩:=hc;have:o=oi:=by rw[tG]at h1;cases h1;rfl
    subst this;simp only[Ae];refine⟨so rN o,by rw[qi,tG];rfl,by rw[uW];simp[hoir],h3,λ_=>?_⟩;obtain⟨a1,a2,a3⟩:=h4 (by rw[hoir]);exact⟨by rw[wU];simpa using a1,by rw[rC];exact a2,by rw[rC];exact a3⟩
   ·rw[la hc];simp only[Ae];refine⟨so rN o,by rw[qi,h1];rfl,by rw[uW];split<;>omega,h3,λhg=>?_⟩;rw[uW]at hg;by_cases hi:rN=id
    ·subst hi;rw[tG]at h1;cases h1;rw[ld rfl]at hg;omega
    ·rw[la hi]at hg;obtain⟨a1,a2,a3⟩:=h4 hg;exact⟨by rw[wU];simpa using a1,by rw[rC];exact a2,by rw[rC];exact a3⟩
  | fn f rT=>simp[Vc,Ae]
  | agg cs=>simp[Vc,Ae]
  | Dd cs=>simp[Vc,Ae]
  | _=>simp only[Vc,Ae]at h⊢<;>exact h
 have zO:∀x v,Ae F w os x v->Ae F w os2 (Tx id row.gen x) v:=Lb ye;have hbL:∀cs us,Bs F w os cs us->Bs F w os2 (cs.map (Tx id row.gen)) us:=λcs us h=>
  Db (by simp[BZ h]) λi x u hx hu=>by
   simp only[lW,lg]at hx;obtain⟨y,hy,rfl⟩:=hx;obtain⟨u',sK,ry⟩:=CO h i y hy;rw[sK]at hu;cases hu;exact zO _ _ ry
 have hb:∀x v,Ae F w os x v->Ae F w os2 (bp id row.gen x) v:=λx v h=>by
  cases x with
  | fn f cs=>simp only[bp,Ae]at h⊢;obtain⟨us,e,hl⟩:=h;exact⟨us,e,hbL _ _ hl⟩
  | agg cs=>simp only[bp,Ae]at h⊢;obtain⟨us,e,hl⟩:=h;exact⟨us,e,hbL _ _ hl⟩
  | Dd cs=>simp only[bp,Ae]at h⊢;obtain⟨us,e,hl⟩:=h;exact⟨us,e,hbL _ _ hl⟩
  | _=>exact zO _ _ h
 have yA:os2.map Own.row=(st.map (Np id row.gen)).modify id cg:=by
  apply nO;intro i;rw[lW,qi,List.getElem?_modify,lW,<- vy,lW];cases os[i]? with
  | none=>rfl
  | some o=>
   simp only[mZ,so];by_cases hi:i=id
   ·simp[hi]
   ·have:¬ id=i:=λh=>hi h.symm;simp[hi,this]
 refine⟨F,os2,⟨yA,λt=>hb _ _ (hr.env t),hr.size,λi o ho=>?_,λi j vz oj' b hi hj sM sN=>?_,hr.FR,hr.defers⟩,⟨rfl,rfl,rfl,ll _,λ_ h=>h,λ_ _=>rfl,λb _ h1 h2=>⟨rfl,h1,λo ho=>?_⟩,λi o hi ho=>⟨so i o,by rw[qi,ho];rfl,by rw[uW];split<;>omega,rC i o,λ_=>⟨rfl,rfl,by rw[wU];simp⟩⟩⟩⟩
 ·rw[qi,lg]at ho;obtain⟨o0,ho0,rfl⟩:=ho;have qf:=hr.rows i o0 ho0;have hm:Np id row.gen o0.row∈st.map (Np id row.gen):=mA.2 ⟨o0.row,by rw[<- vy];exact mA.2 ⟨o0,lT ho0,rfl⟩,rfl⟩;refine⟨by rw[rC];exact qf.pos,λx hx=>?_,λvJ=>?_,λb hbb=>?_,qf.mo,qf.deep.mapped (Tx id row.gen) (λ_ _ _ _ h=>gx h) rfl rfl (rC _ _) (wU _ _)⟩
  ·rw[wU]at hx;refine⟨?_,hl _ hm x hx⟩;obtain⟨y,hy,rfl⟩:=mA.1 hx;rw[rC,ly];exact (qf.lens y hy).1
  ·obtain⟨h1,h2⟩:=qf.none vJ;exact⟨by rw[wU,h1];rfl,h2⟩
  ·obtain⟨h1,cur,h2,h3,h4,h5,h6⟩:=qf.some b hbb;refine⟨h1,cur,by rw[hse];exact h2,by rw[rC];exact h3,by rw[wU,ly];exact h4,h5,λi' x hx j c hc=>?_⟩;rw[wU,lW,lg]at hx;obtain⟨y,hy,rfl⟩:=hx;rw[lW,lg]at hc;obtain⟨c0,sZ,rfl⟩:=hc;obtain⟨u,e1,e2⟩:=h6 i' y hy j c0 sZ;exact⟨u,by rw[rC];exact e1,zO _ _ e2⟩
 ·rw[qi,lg]at hi hj;obtain⟨o1,ho1,rfl⟩:=hi;obtain⟨o2,vL,rfl⟩:=hj;exact hr.inj i j o1 o2 b ho1 vL sM sN
 ·obtain⟨i,hi⟩:=lv.1 ho;rw[qi,lg]at hi;obtain⟨o0,h0,rfl⟩:=hi;exact h2 o0 (lT h0)
inductive BR (id g:Nat):List Row->List Row->Prop
 | nil:BR id g [] []
 | deep {g' size:Nat} {el:TypeId} {xs:List (List AV)} {r r':List Row} (hp:DG xs) (hl:BR id g r r'):BR id g (⟨g',el,size,xs⟩::r) (⟨g',el,size,xs⟩::r')
 | raw {g' size:Nat} {el:TypeId} {cs cs':List AV} {r r':List Row} (hc:cs.map (Tx id g)=cs') (hp:cs'.all AV.leaf=true) (hl:BR id g r r'):BR id g (⟨g',el,size,[cs]⟩::r) (⟨g',el,size,[cs']⟩::r')
theorem BR.pure {id g g' size:Nat}{el:TypeId}{xs:List (List AV)}{r r':List Row}(hp:ER xs)(hl:BR id g r r'):BR id g (⟨g',el,size,xs⟩::r) (⟨g',el,size,xs⟩::r'):=.deep hp.any hl
theorem Y8 {id g:Nat}{c:AV}(h:Ee c=true):Tx id g c=c:=by cases c<;>simp[Ee,simple,Tx,two,Vc]at h⊢
theorem BR.spec {id g:Nat}{st0:List Row}(hle :∀row∈st0,∀x∈row.xs,∀c∈x,c.kept=true):∀{l l':List Row},BR id g l l'->(∀row∈l,row∈st0)->l.map (Np id g)=l'/\It l'
 | _,_,.nil,_=>⟨rfl,λ_ h=>by cases h⟩
 | _,_,.deep hp hl,hm=>by
  obtain⟨h1,h2⟩:=BR.spec hle hl (λrow h=>hm row (mh _ h));have rf:=hle _ (hm _ (nf ..));refine⟨?_,?_⟩
  ·simp only[mF,h1];congr 1;simp only[Np];congr 1;refine (mH (g:=λx=>x) λx hx=>?_).trans (nH _);refine (mH (g:=λx=>x) λc hc=>?_).trans (nH _);exact Y8 (hp x hx c hc)
  ·intro row qc;rcases lk.1 qc with rfl|h
   ·exact rf
   ·exact h2 row h
 | _,_,.raw hc hp hl,hm=>by
  obtain⟨h1,h2⟩:=BR.spec hle hl (λrow h=>hm row (mh _ h));refine⟨?_,?_⟩
  ·simp only[mF,h1,Np,nV,hc]
  ·intro row qc;rcases lk.1 qc with rfl|h
   ·intro x hx c wS;simp only[lu]at hx;subst hx;exact D3 (lh.1 hp c wS)
   ·exact h2 row h
theorem Ma {n:Nat}{e:Nat->AV}{st st1 st':List Row}{L:List (Nat×AV)}(id:Nat){row:Row}(qc:st[id]?=some row)(hb:BR id row.gen st st1)(qz:st1.modify id cg=st')(h:ME (λt=>bp id row.gen (e t)) L):Wk k ⟨n,e,st⟩ ⟨n,Aa L,st'⟩:=λF os a w hr=>by
 obtain⟨h1,h2⟩:=hb.spec (st0:=st) (Nv hr) (λ_ h=>h);have h3:=Wk.jt (k:=k) (n:=n) (e:=e) qc (by rw[h1];exact h2);rw[h1,qz]at h3;exact (h3.trans (Af h)) F os a w hr
def WY (m:Nat)(st:List Row):AV->AV
 | .own id g n=>if id<m then .own id g n else match st[id]? with
  | some row=>if row.gen=g then .own id 0 n else .E7
  | none=>.E7
 | .ptr id g i off=>if id<m then .ptr id g i off else match st[id]? with
  | some row=>if row.gen=g then .ptr id 0 i off else .E7
  | none=>.E7
 | .fn ..|.agg _|.Dd _=>.E7
 | v=>v
def Ua (m:Nat)(st:List Row)(x:AV):AV:=two (WY m st) x
theorem ig {m:Nat}{st:List Row}{c:AV}{el s:Nat}{ys:List (List AV)}(h:Ua m st c=.dv el s ys):c=.dv el s ys:=by
 refine Sg (X:=WY m st) (λc h=>?_) h;cases c<;>simp only[WY]at h<;>first|exact h|cases h|(repeat' split at h)<;>first|cases h|exact h
def rk (m:Nat)(st:List Row):AV->AV
 | .fn f cs=>.fn f (cs.map (Ua m st))
 | .agg cs=>.agg (cs.map (Ua m st))
 | .Dd cs=>.Dd (cs.map (Ua m st))
 | v=>Ua m st v
def F3 (m:Nat)(st:List Row)(i:Nat)(row:Row):Row:={ row with gen:=if i<m then row.gen else 0,xs:=row.xs.map (·.map (Ua m st)) }
theorem Wk.iO {n:Nat}{e:Nat->AV}{st:List Row}(hl:It (st.mapIdx (F3 k st))):Wk k ⟨n,e,st⟩ ⟨n,λt=>rk k st (e t),st.mapIdx (F3 k st)⟩:=λF os a w hr=>by
 let so:Nat->Own->Own:=λi o=>{ o with row:=F3 k st i o.row }
 let os2:=os.mapIdx so
 have vy:os.map Own.row=st:=hr.st;have qi:∀i,os2[i]?=(os[i]?).map (so i):=λi=>by simp[os2]
 have hs:∀{id:Nat} {o:Own},os[id]?=some o->st[id]?=some o.row:=λ{id o} ho=>by rw[<- vy,lW,ho];rfl
 have uX :∀x v,Ae F w os x v->Ae F w os2 (WY k st x) v:=λx v h=>by
  cases x with
  | own id g n'=>
   simp only[Ae]at h;obtain⟨o,ho,hle,tk,hv⟩:=h;simp only[WY,hs ho];by_cases hk:id<k
   ·rw[ld hk];simp only[Ae];refine⟨so id o,by rw[qi,ho];rfl,by simp only[so,F3,hk,mL];exact hle,tk,λhg=>?_⟩;simp only[so,F3,hk,mL]at hg;obtain⟨a1,a2⟩:=hv hg;exact⟨by simpa [so,F3] using a1,by simpa [so,F3] using a2⟩
   ·rw[la hk];split
    ·rename_i e;obtain⟨a1,a2⟩:=hv e;simp only[Ae];exact⟨so id o,by rw[qi,ho];rfl,mB _,tk,λ_=>⟨by simpa [so,F3] using a1,by simpa [so,F3] using a2⟩⟩
    ·simp[Ae]
  | ptr id g i off=>
   simp only[Ae]at h;obtain⟨o,ho,hle,tk,hv⟩:=h;simp only[WY,hs ho];by_cases hk:id<k
   ·rw[ld hk];simp only[Ae];refine⟨so id o,by rw[qi,ho];rfl,by simp only[so,F3,hk,mL];exact hle,tk,λhg=>?_⟩;simp only[so,F3,hk,mL]at hg;obtain⟨a1,a2,a3⟩:=hv hg;exact⟨by simpa [so,F3] using a1,a2,a3⟩
   ·rw[la hk];split
    ·rename_i e;obtain⟨a1,a2,a3⟩:=hv e;simp only[Ae];exact⟨so id o,by rw[qi,ho];rfl,mB _,tk,λ_=>⟨by simpa [so,F3] using a1,a2,a3⟩⟩
    ·simp[Ae]
  | fn f rT=>simp[WY,Ae]
  | agg cs=>simp[WY,Ae]
  | Dd cs=>simp[WY,Ae]
  | _=>simp only[WY,Ae]at h⊢<;>exact h
 have h1:∀x v,Ae F w os x v->Ae F w os2 (Ua k st x) v:=Lb uX;have hL:∀cs us,Bs F w os cs us->Bs F w os2 (cs.map (Ua k st)) us:=λcs us h=>
  Db (by simp[BZ h]) λi x u hx hu=>by
   simp only[lW,lg]at hx;obtain⟨y,hy,rfl⟩:=hx;obtain⟨u',sK,ry⟩:=CO h i y hy;rw[sK]at hu;cases hu;exact h1 _ _ ry
 have hb:∀x v,Ae F w os x v->Ae F w os2 (rk k st x) v:=λx v h=>by
  cases x with
  | fn f cs=>simp only[rk,Ae]at h⊢;obtain⟨us,e,hl⟩:=h;exact⟨us,e,hL _ _ hl⟩
  | agg cs=>simp only[rk,Ae]at h⊢;obtain⟨us,e,hl⟩:=h;exact⟨us,e,hL _ _ hl⟩
  | Dd cs=>simp only[rk,Ae]at h⊢;obtain⟨us,e,hl⟩:=h;exact⟨us,e,hL _ _ hl⟩
  | _=>exact h1 _ _ h
 have yA:os2.map Own.row=st.mapIdx (F3 k st):=by
  apply nO;intro i;have e1:st[i]?=(os[i]?).map Own.row:=by rw[<- vy,lW]
  rw[lW,qi,pC,e1];cases os[i]?<;>rfl
 refine⟨F,os2,⟨yA,λt=>hb _ _ (hr.env t),hr.size,λi o ho=>?_,λi j vz oj' b hi hj sM sN=>?_,hr.FR,hr.defers⟩,⟨rfl,rfl,rfl,ll _,λ_ h=>h,λ_ _=>rfl,λb _ h1 h2=>⟨rfl,h1,λo ho=>?_⟩,λi o hi ho=>⟨so i o,by rw[qi,ho];rfl,by simp[so,F3,hi],rfl,λ_=>⟨rfl,rfl,by simp[so,F3]⟩⟩⟩⟩
 ·rw[qi,lg]at ho;obtain⟨o0,ho0,rfl⟩:=ho;have qf:=hr.rows i o0 ho0;have hm:(so i o0).row∈st.mapIdx (F3 k st):=by
   rw[<- yA];exact mA.2 ⟨so i o0,lT (by rw[qi,ho0];rfl),rfl⟩
  refine⟨qf.pos,λx hx=>⟨?_,hl _ hm x hx⟩,λvJ=>?_,λb hbb=>?_,qf.mo,qf.deep.mapped (Ua k st) (λ_ _ _ _ h=>ig h) rfl rfl rfl rfl⟩
  ·simp only[so,F3,mA]at hx;obtain⟨y,hy,rfl⟩:=hx;simpa [so,F3] using (qf.lens y hy).1
  ·obtain⟨h1,h2⟩:=qf.none vJ;exact⟨by simp[so,F3,h1],h2⟩
  ·obtain⟨g1,cur,h2,h3,h4,h5,h6⟩:=qf.some b hbb;refine⟨g1,cur,h2,h3,by simpa [so,F3] using h4,h5,λi' x hx j c hc=>?_⟩;simp only[so,F3,lW,lg]at hx;obtain⟨y,hy,rfl⟩:=hx;simp only[lW,lg]at hc;obtain⟨c0,sZ,rfl⟩:=hc;obtain⟨u,e1,e2⟩:=h6 i' y hy j c0 sZ;exact⟨u,e1,h1 _ _ e2⟩
 ·rw[qi,lg]at hi hj;obtain⟨o1,ho1,rfl⟩:=hi;obtain⟨o2,vL,rfl⟩:=hj;exact hr.inj i j o1 o2 b ho1 vL sM sN
 ·obtain⟨i,hi⟩:=lv.1 ho;rw[qi,lg]at hi;obtain⟨o0,h0,rfl⟩:=hi;exact h2 o0 (lT h0)
inductive KR (m:Nat) (st:List Row):Nat->List Row->List Row->Prop
 | nil {i:Nat}:KR m st i [] []
 | deep {i g g' size:Nat} {el:TypeId} {xs:List (List AV)} {r r':List Row} (hg:g'=if i<m then g else 0) (hp:DG xs) (hl:KR m st (i+1) r r'):KR m st i (⟨g,el,size,xs⟩::r) (⟨g',el,size,xs⟩::r')
 | raw {i g g' size:Nat} {el:TypeId} {cs cs':List AV} {r r':List Row} (hg:g'=if i<m then g else 0) (hc:cs.map (Ua m st)=cs') (hp:cs'.all AV.leaf=true) (hl:KR m st (i+1) r r'):KR m st i (⟨g,el,size,[cs]⟩::r) (⟨g',el,size,[cs']⟩::r')
theorem KR.pure {m:Nat}{st:List Row}{i g g' size:Nat}{el:TypeId}{xs:List (List AV)}{r r':List Row}(hg:g'=if i<m then g else 0)(hp:ER xs)(hl:KR m st (i+1) r r'):KR m st i (⟨g,el,size,xs⟩::r) (⟨g',el,size,xs⟩::r'):=.deep hg hp.any hl
theorem Yx {m:Nat}{st:List Row}{c:AV}(h:Ee c=true):Ua m st c=c:=by cases c<;>simp[Ee,simple,Ua,two,WY]at h⊢
theorem KR.spec {m:Nat}{st st0:List Row}(hle :∀row∈st0,∀x∈row.xs,∀c∈x,c.kept=true):∀{i:Nat} {l l':List Row},KR m st i l l'->(∀row∈l,row∈st0)->l.mapIdx (λj=>F3 m st (i+j))=l'/\It l'
 | _,_,_,.nil,_=>⟨rfl,λ_ h=>by cases h⟩
 | i,_,_,.deep (r:=r) hg hp hl,hm=>by
  obtain⟨h1,h2⟩:=KR.spec hle hl (λrow h=>hm row (mh _ h));have rf:=hle _ (hm _ (nf ..));refine⟨?_,?_⟩
  ·rw[List.mapIdx_cons];have e:(λj=>F3 m st (i+(j+1)))=λj=>F3 m st (i+1+j):=by funext j;congr 1;omega
   rw[e,h1];congr 1;subst hg;simp only[F3,nw];congr 1;refine (mH (g:=λx=>x) λx hx=>?_).trans (nH _);refine (mH (g:=λx=>x) λc hc=>?_).trans (nH _);exact Yx (hp x hx c hc)
  ·intro row qc;rcases lk.1 qc with rfl|h
   ·exact rf
   ·exact h2 row h
 | i,_,_,.raw hg hc hp hl,hm=>by
  obtain⟨h1,h2⟩:=KR.spec hle hl (λrow h=>hm row (mh _ h));refine⟨?_,?_⟩
  ·rw[List.mapIdx_cons];have e:(λj=>F3 m st (i+(j+1)))=λj=>F3 m st (i+1+j):=by funext j;congr 1;omega
   rw[e,h1];subst hg;simp only[F3,nw,mF,nV,hc]
  ·intro row qc;rcases lk.1 qc with rfl|h
   ·intro x hx c wS;simp only[lu]at hx;subst hx;exact D3 (lh.1 hp c wS)
   ·exact h2 row h
theorem Dp {n:Nat}{e:Nat->AV}{st st':List Row}{L:List (Nat×AV)}(hg:KR k st 0 st st')(h:ME (λt=>Abs.rk k st (e t)) L):Wk k ⟨n,e,st⟩ ⟨n,Aa L,st'⟩:=λF os a w hr=>by
 obtain⟨h1,h2⟩:=hg.spec (st0:=st) (Nv hr) (λ_ h=>h);simp only[ml]at h1;have h3:=Wk.iO (k:=k) (n:=n) (e:=e) (st:=st) (by rw[h1];exact h2);rw[h1]at h3;exact (h3.trans (Af h)) F os a w hr
end Go.Abs
