import Derived.Test.YtihdgoiebmfapaaGreatAbsP
namespace Go.Abs
open Go
variable {P : Program} {F : Nat -> Prop} {os : List Own} {s : St} {a : Act} {w : World} {k : Nat}
def ct (m:Nat):AV->Bool
 | .own id _ _|.ptr id _ _ _=>decide (id<m)
 | .fn ..|.agg _|.Dd _=>false
 | _=>true
def under (m:Nat):AV->Bool
 | .fn _ cs|.agg cs|.Dd cs=>cs.all (ct m)
 | v=>ct m v
section
variable {ops : Array Oper} {Q : Exit -> St -> Prop} {ds : List (Option Tmp)} {r : List Oper} {n : Nat} {e : Nat -> AV} {st st' : List Row} {ty : TypeId} {ps : String} {ed : Array Edge} {d : Option Tmp} {v v' : AV} {gd : Option (Nat × Bool)}
variable {f : FuncId} {rf : Array Operand} {ts : Array TypeId} {args : List AV} {rows0 rows1 rows2 rest : List Row}
end
def Cm (sel:List Nat)(row:Row):Row:={ row with xs:=row.xs.map (·.map (Kq sel)) }
theorem Wk.gF {n:Nat}{e:Nat->AV}{st:List Row}(sel:List Nat)(hk:sel.take k=List.range k)(sA:sel.Nodup)(qu :∀i∈sel,i<st.length)(hl:Ix ((Cb st sel).map (Cm sel))):
  Wk k ⟨n,e,st⟩ ⟨n,λt=>KV sel (e t),(Cb st sel).map (Cm sel)⟩:=λF os a w hr=>by
 have hlen:st.length=os.length:=hr.len;have sQ :∀i,i<k->sel[i]?=some i:=λi hi=>by
  have h1:(sel.take k)[i]?=some i:=by rw[hk];simp[hi]
  rw[mJ]at h1;simpa [hi] using h1
 have tS:∀(j id:Nat),sel[j]?=some id->(sel.filterMap (os[·]?))[j]?=os[id]?:=by
  have :∀(l:List Nat),(∀i∈l,i<os.length)->∀(j id:Nat),l[j]?=some id->(l.filterMap (os[·]?))[j]?=os[id]?:=λl=>by
   induction l with
   | nil=>intro _ j id h;simp at h
   | cons i l ih=>
    intro hl j id h;have hi:=hl i (by simp);rw[nX,lZ hi];cases j with
    | zero=>simp only[mI,lX]at h;subst h;simp[lZ hi]
    | succ j=>simp only[mQ]at h⊢;exact ih (λx hx=>hl x (by simp[hx])) j id h
  exact this sel (λi hi=>by rw[<- hlen];exact qu i hi)
 let so:Own->Own:=λo=>{ o with row:=Cm sel o.row }
 let os2:=(sel.filterMap (os[·]?)).map so
 have wP:(sel.filterMap (os[·]?)).length=sel.length:=by
  have :∀(l:List Nat),(∀i∈l,i<os.length)->(l.filterMap (os[·]?)).length=l.length:=λl=>by
   induction l with
   | nil=>simp
   | cons i l ih=>intro hl;rw[nX,lZ (hl i (by simp))];simp[ih (λx hx=>hl x (by simp[hx]))]
  exact this sel (λi hi=>by rw[<- hlen];exact qu i hi)
 have qg:∀(j:Nat) (o:Own),os2[j]?=some o->∃id o0,sel[j]?=some id/\os[id]?=some o0/\o=so o0:=λj o h=>by
  simp only[os2,lW,lg]at h;obtain⟨o0,h0,rfl⟩:=h;have hj:j<sel.length:=by rw[<- wP];exact (lV.1 h0).1
  refine⟨sel[j],o0,lZ hj,?_,rfl⟩;rw[<- tS j _ (lZ hj)];exact h0
 have wx:∀x v,Ae F w os x v->Ae F w os2 (Il sel x) v:=λx v h=>by
  have vv:∀id j,idx sel id=some j->os2[j]?=(os[id]?).map so:=λid j hj=>by
   unfold idx at hj;rw[nh]at hj;obtain⟨h1,h2,_⟩:=hj;simp only[os2,lW];rw[tS j id (by rw[lZ h1];simpa using h2)]
  cases x with
  | own id g n=>
   simp only[Il];split
   ·rename_i j hj;simp only[Ae]at h⊢;obtain⟨o,h1,h2,h3,h4⟩:=h;exact⟨so o,by rw[vv id j hj,h1];rfl,h2,h3,λhg=>by
     obtain⟨a1,a2⟩:=h4 hg;exact⟨by simpa [so,Cm] using a1,by simpa [so,Cm] using a2⟩⟩
   ·simp[Ae]
  | ptr id g i off=>
   simp only[Il];split
   ·rename_i j hj;simp only[Ae]at h⊢;obtain⟨o,h1,h2,h3,h4⟩:=h;exact⟨so o,by rw[vv id j hj,h1];rfl,h2,h3,λhg=>by
     obtain⟨a1,a2,a3⟩:=h4 hg;exact⟨by simpa [so,Cm] using a1,a2,a3⟩⟩
   ·simp[Ae]
  | fn f cs=>simp[Il,Ae]
  | agg cs=>simp[Il,Ae]
  | Dd cs=>simp[Il,Ae]
  | _=>simp only[Il,Ae]at h⊢<;>exact h
 have tT:∀x v,Ae F w os x v->Ae F w os2 (Kq sel x) v:=LR wx;have tU:∀cs us,Bs F w os cs us->Bs F w os2 (cs.map (Kq sel)) us:=λcs us h=>
  Da (by simp[BZ h]) λi x u hx hu=>by
   simp only[lW,lg]at hx;obtain⟨y,hy,rfl⟩:=hx;obtain⟨u',sI,ru⟩:=CO h i y hy;rw[sI]at hu;cases hu;exact tT _ _ ru
 have zL:∀x v,Ae F w os x v->Ae F w os2 (KV sel x) v:=λx v h=>by
  cases x with
  | fn f cs=>simp only[KV,Ae]at h⊢;obtain⟨us,e,hl⟩:=h;exact⟨us,e,tU _ _ hl⟩
  | agg cs=>simp only[KV,Ae]at h⊢;obtain⟨us,e,hl⟩:=h;exact⟨us,e,tU _ _ hl⟩
  | Dd cs=>simp only[KV,Ae]at h⊢;obtain⟨us,e,hl⟩:=h;exact⟨us,e,tU _ _ hl⟩
  | _=>exact tT _ _ h
 have vS:os2.map Own.row=(Cb st sel).map (Cm sel):=by
  have h0:os.map Own.row=st:=hr.st;simp only[os2,Cb,<- h0,nU,pL];congr 1;funext i;simp only[lW];cases os[i]?<;>rfl
 refine⟨F,os2,⟨vS,λt=>zL _ _ (hr.env t),hr.size,λj o ho=>?_,λi j oi oj b hi hj sK sL=>?_,hr.FR,hr.defers⟩,⟨rfl,rfl,rfl,ll _,λ_ h=>h,λ_ _=>rfl,λb _ h1 h2=>⟨rfl,h1,λo ho=>?_⟩,λi o hi ho=>⟨so o,?_,ll _,rfl,λ_=>⟨rfl,rfl,by simp[so,Cm]⟩⟩⟩⟩
 ·have qa:o.row∈(Cb st sel).map (Cm sel):=by rw[<- vS];exact mA.2 ⟨o,lT ho,rfl⟩
  obtain⟨id,o0,tM,ho0,rfl⟩:=qg j o ho;have qd:=hr.rows id o0 ho0;refine⟨qd.pos,λx hx=>⟨?_,hl _ qa x hx⟩,λhb=>?_,λb hb=>?_,qd.mo,qd.deep.mapped (Kq sel) (λ_ _ _ _ h=>ZS h) rfl rfl rfl rfl⟩
  ·simp only[so,Cm,mA]at hx;obtain⟨y,hy,rfl⟩:=hx;simpa [so,Cm] using (qd.lens y hy).1
  ·obtain⟨h1,h2⟩:=qd.none hb;exact⟨by simp[so,Cm,h1],h2⟩
  ·obtain⟨h1,cur,h2,h3,h4,h5,h6⟩:=qd.some b hb;refine⟨h1,cur,h2,h3,by simpa [so,Cm] using h4,h5,λi x hx j' c hc=>?_⟩;simp only[so,Cm,lW,lg]at hx;obtain⟨y,hy,rfl⟩:=hx;simp only[lW,lg]at hc;obtain⟨c0,sX,rfl⟩:=hc;obtain⟨u,e1,e2⟩:=h6 i y hy j' c0 sX;exact⟨u,e1,tT _ _ e2⟩
 ·obtain⟨id,o0,tM,ho0,rfl⟩:=qg i oi hi;obtain⟨rL,o0',hid',ho0',rfl⟩:=qg j oj hj;have he:=hr.inj id rL o0 o0' b ho0 ho0' sK sL;subst he;obtain⟨xZ,xu⟩:=lV.1 tM;obtain⟨vP,vf⟩:=lV.1 hid';have hp:=oS.1 sA;rcases nG i j with h|h|h
  ·exact absurd (xu.trans vf.symm) (hp i j xZ vP h)
  ·exact h
  ·exact absurd (vf.trans xu.symm) (hp j i vP xZ h)
 ·simp only[os2,mA,mu]at ho;obtain⟨o0,⟨i,_,hi⟩,rfl⟩:=ho;exact h2 o0 (lT hi)
 ·simp only[os2,lW];rw[tS i i (sQ i hi),ho];rfl
theorem We {n:Nat}{e:Nat->AV}{st st':List Row}{L:List (Nat×AV)}(sel:List Nat)(hk:sel.take k=List.range k)(sA:sel.Nodup)(qu:sel.all (·<st.length)=true)
  (qx:(Cb st sel).map (Cm sel)=st') (hl:Ix st') (h:ME (λt=>KV sel (e t)) L):Wk k ⟨n,e,st⟩ ⟨n,Aa L,st'⟩:=by
 subst qx;exact (Wk.gF sel hk sA (λi hi=>by simpa using lh.1 qu i hi) hl).trans (Af h)
inductive SR (sel:List Nat):List Row->List Row->Prop
 | nil:SR sel [] []
 | deep {g size:Nat} {el:TypeId} {xs:List (List AV)} {r r':List Row} (hp:DG xs) (hl:SR sel r r'):SR sel (⟨g,el,size,xs⟩::r) (⟨g,el,size,xs⟩::r')
 | raw {g size:Nat} {el:TypeId} {cs cs':List AV} {r r':List Row} (hc:cs.map (Kq sel)=cs') (hp:cs'.all AV.leaf=true) (hl:SR sel r r'):SR sel (⟨g,el,size,[cs]⟩::r) (⟨g,el,size,[cs']⟩::r')
 | hol {g size i:Nat} {el:TypeId} {zs:List (List AV)} {x x':List AV} {r r':List Row} (hp:DG zs) (hz :∀z∈zs,z.all AV.kept=true) (hc:x.map (Kq sel)=x') (hk:x'.all AV.kept=true) (hl:SR sel r r'):SR sel (⟨g,el,size,zs.set i x⟩::r) (⟨g,el,size,zs.set i x'⟩::r')
theorem SR.pure {sel:List Nat}{g size:Nat}{el:TypeId}{xs:List (List AV)}{r r':List Row}(hp:EN xs)(hl:SR sel r r'):SR sel (⟨g,el,size,xs⟩::r) (⟨g,el,size,xs⟩::r'):=.deep hp.any hl
theorem Ni {sel:List Nat}{c:AV}(h:Ee c=true):Kq sel c=c:=by cases c<;>simp[Ee,simple,Kq,two,Il]at h⊢
theorem SR.spec {sel:List Nat}{st0:List Row}(hle :∀row∈st0,∀x∈row.xs,∀c∈x,c.kept=true):∀{l l':List Row},SR sel l l'->(∀row∈l,row∈st0)->l.map (Cm sel)=l'/\Ix l'
 | _,_,.nil,_=>⟨rfl,λ_ h=>by cases h⟩
 | _,_,.deep hp hl,hm=>by
  obtain⟨h1,h2⟩:=SR.spec hle hl (λrow h=>hm row (mh _ h));have rZ:=hle _ (hm _ (nf ..));refine⟨?_,?_⟩
  ·simp only[mF,h1];congr 1;simp only[Cm];congr 1;refine (mH (g:=id) λx hx=>?_).trans (nH _);refine (mH (g:=id) λc hc=>?_).trans (nH _);exact Ni (hp x hx c hc)
  ·intro row qa;rcases lk.1 qa with rfl|h
   ·exact rZ
   ·exact h2 row h
 | _,_,.raw hc hp hl,hm=>by
  obtain⟨h1,h2⟩:=SR.spec hle hl (λrow h=>hm row (mh _ h));refine⟨?_,?_⟩
  ·simp only[mF,h1,Cm,nV,hc]
  ·intro row qa;rcases lk.1 qa with rfl|h
   ·intro x hx c wQ;simp only[lu]at hx;subst hx;exact D4 (lh.1 hp c wQ)
   ·exact h2 row h
 | _,_,.hol (zs:=zs) (i:=i) hp hz hc hk hl,hm=>by
  obtain⟨h1,h2⟩:=SR.spec hle hl (λrow h=>hm row (mh _ h));refine⟨?_,?_⟩
  ·simp only[mF,h1,Cm,nj,hc];congr 3;refine (mH (g:=id) λx hx=>?_).trans (nH _);refine (mH (g:=id) λc hc=>?_).trans (nH _);exact Ni (hp x hx c hc)
  ·intro row qa;rcases lk.1 qa with rfl|h
   ·intro x hx c wQ;rcases mg hx with hx|rfl
    ·exact lh.1 (hz x hx) c wQ
    ·exact lh.1 hk c wQ
   ·exact h2 row h
theorem N6 {n:Nat}{e:Nat->AV}{st:List Row}(hr:Rel F os ⟨n,e,st⟩ a w):∀row∈st,∀x∈row.xs,∀c∈x,c.kept=true:=λrow qa x hx c hc=>by
 have qx:=hr.st;simp only at qx;rw[<- qx]at qa;obtain⟨o,ho,rfl⟩:=mA.1 qa;obtain⟨i,hi⟩:=lv.1 ho;exact ((hr.rows i o hi).lens x hx).2 c hc
def V9 (id g:Nat):AV->AV
 | .own rL g' n=>if rL=id/\g'=g then .own id (g+1) n else .own rL g' n
 | .ptr rL g' i off=>if rL=id/\g'=g then .ptr id (g+1) i off else .ptr rL g' i off
 | .fn ..|.agg _|.Dd _=>.E7
 | v=>v
def T7 (id g:Nat)(x:AV):AV:=two (V9 id g) x
theorem iG {id g:Nat}{c:AV}{el s:Nat}{ys:List (List AV)}(h:T7 id g c=.dv el s ys):c=.dv el s ys:=by
 refine SM (X:=V9 id g) (λc h=>?_) h;cases c<;>simp only[V9]at h<;>first|exact h|cases h|(repeat' split at h)<;>first|cases h|exact h
def bp (id g:Nat):AV->AV
 | .fn f cs=>.fn f (cs.map (T7 id g))
 | .agg cs=>.agg (cs.map (T7 id g))
 | .Dd cs=>.Dd (cs.map (T7 id g))
 | v=>T7 id g v
def Nr (id g:Nat)(row:Row):Row:={ row with xs:=row.xs.map (·.map (T7 id g)) }
def cc (row:Row):Row:={ row with gen:=row.gen+1 }
theorem Wk.jy {n:Nat}{e:Nat->AV}{st:List Row}{id:Nat}{row:Row}(qa:st[id]?=some row)(hl:Ix (st.map (Nr id row.gen))):
  Wk k ⟨n,e,st⟩ ⟨n,λt=>bp id row.gen (e t),(st.map (Nr id row.gen)).modify id cc⟩:=λF os a w hr=>by
 let so:Nat->Own->Own:=λi o=>{ o with row:=if i=id then cc (Nr id row.gen o.row) else Nr id row.gen o.row }
 let os2:=os.mapIdx so
 have vw:os.map Own.row=st:=hr.st;obtain⟨oi,tE,hoir⟩ :∃o,os[id]?=some o/\o.row=row:=by
  rw[<- vw,lW,lg]at qa;exact qa
 have qg:∀i,os2[i]?=(os[i]?).map (so i):=λi=>by simp[os2]
 have wS:∀i o,(so i o).row.xs=o.row.xs.map (·.map (T7 id row.gen)):=λi o=>by
  simp only[so];split<;>rfl
 have rA:∀i o,(so i o).row.size=o.row.size:=λi o=>by simp only[so];split<;>rfl
 have hse:∀i o,(so i o).row.elem=o.row.elem:=λi o=>by simp only[so];split<;>rfl
 have uU:∀i o,(so i o).row.gen=if i=id then o.row.gen+1 else o.row.gen:=λi o=>by simp only[so];split<;>rfl
 have yb:∀x v,Ae F w os x v->Ae F w os2 (V9 id row.gen x) v:=λx v h=>by
  cases x with
  | own rL g' n'=>
   simp only[Ae]at h;obtain⟨o,h1,h2,h3,h4⟩:=h;simp only[V9];by_cases hc:rL=id/\g'=row.gen
   ·rw[ld hc];obtain⟨rfl,rfl⟩:=hc;have:o=oi:=by rw[tE]at h1;cases h1;rfl
    subst this;simp only[Ae];refine⟨so rL o,by rw[qg,tE];rfl,by rw[uU];simp[hoir],h3,λ_=>?_⟩;obtain⟨a1,a2⟩:=h4 (by rw[hoir]);exact⟨by rw[wS];simpa using a1,by rw[wS,rA,ly];exact a2⟩
   ·rw[la hc];simp only[Ae];refine⟨so rL o,by rw[qg,h1];rfl,by rw[uU];split<;>omega,h3,λhg=>?_⟩;rw[uU]at hg;by_cases hi:rL=id
    ·subst hi;rw[tE]at h1;cases h1;rw[ld rfl]at hg;omega
    ·rw[la hi]at hg;obtain⟨a1,a2⟩:=h4 hg;exact⟨by rw[wS];simpa using a1,by rw[wS,rA,ly];exact a2⟩
  | ptr rL g' i' off=>
   simp only[Ae]at h;obtain⟨o,h1,h2,h3,h4⟩:=h;simp only[V9];by_cases hc:rL=id/\g'=row.gen
   ·rw[ld hc];obtain⟨rfl,rfl⟩:=hc;have:o=oi:=by rw[tE]at h1;cases h1;rfl
    subst this;simp only[Ae];refine⟨so rL o,by rw[qg,tE];rfl,by rw[uU];simp[hoir],h3,λ_=>?_⟩;obtain⟨a1,a2,a3⟩:=h4 (by rw[hoir]);exact⟨by rw[wS];simpa using a1,by rw[rA];exact a2,by rw[rA];exact a3⟩
   ·rw[la hc];simp only[Ae];refine⟨so rL o,by rw[qg,h1];rfl,by rw[uU];split<;>omega,h3,λhg=>?_⟩;rw[uU]at hg;by_cases hi:rL=id
    ·subst hi;rw[tE]at h1;cases h1;rw[ld rfl]at hg;omega
    ·rw[la hi]at hg;obtain⟨a1,a2,a3⟩:=h4 hg;exact⟨by rw[wS];simpa using a1,by rw[rA];exact a2,by rw[rA];exact a3⟩
  | fn f rR=>simp[V9,Ae]
  | agg cs=>simp[V9,Ae]
  | Dd cs=>simp[V9,Ae]
  | _=>simp only[V9,Ae]at h⊢<;>exact h
 have zM:∀x v,Ae F w os x v->Ae F w os2 (T7 id row.gen x) v:=LR yb;have hbL:∀cs us,Bs F w os cs us->Bs F w os2 (cs.map (T7 id row.gen)) us:=λcs us h=>
  Da (by simp[BZ h]) λi x u hx hu=>by
   simp only[lW,lg]at hx;obtain⟨y,hy,rfl⟩:=hx;obtain⟨u',sI,ru⟩:=CO h i y hy;rw[sI]at hu;cases hu;exact zM _ _ ru
 have hb:∀x v,Ae F w os x v->Ae F w os2 (bp id row.gen x) v:=λx v h=>by
  cases x with
  | fn f cs=>simp only[bp,Ae]at h⊢;obtain⟨us,e,hl⟩:=h;exact⟨us,e,hbL _ _ hl⟩
  | agg cs=>simp only[bp,Ae]at h⊢;obtain⟨us,e,hl⟩:=h;exact⟨us,e,hbL _ _ hl⟩
  | Dd cs=>simp only[bp,Ae]at h⊢;obtain⟨us,e,hl⟩:=h;exact⟨us,e,hbL _ _ hl⟩
  | _=>exact zM _ _ h
 have xy:os2.map Own.row=(st.map (Nr id row.gen)).modify id cc:=by
  apply nO;intro i;rw[lW,qg,List.getElem?_modify,lW,<- vw,lW];cases os[i]? with
  | none=>rfl
  | some o=>
   simp only[mZ,so];by_cases hi:i=id
   ·simp[hi]
   ·have:¬ id=i:=λh=>hi h.symm;simp[hi,this]
 refine⟨F,os2,⟨xy,λt=>hb _ _ (hr.env t),hr.size,λi o ho=>?_,λi j vx oj' b hi hj sK sL=>?_,hr.FR,hr.defers⟩,⟨rfl,rfl,rfl,ll _,λ_ h=>h,λ_ _=>rfl,λb _ h1 h2=>⟨rfl,h1,λo ho=>?_⟩,λi o hi ho=>⟨so i o,by rw[qg,ho];rfl,by rw[uU];split<;>omega,rA i o,λ_=>⟨rfl,rfl,by rw[wS];simp⟩⟩⟩⟩
 ·rw[qg,lg]at ho;obtain⟨o0,ho0,rfl⟩:=ho;have qd:=hr.rows i o0 ho0;have hm:Nr id row.gen o0.row∈st.map (Nr id row.gen):=mA.2 ⟨o0.row,by rw[<- vw];exact mA.2 ⟨o0,lT ho0,rfl⟩,rfl⟩;refine⟨by rw[rA];exact qd.pos,λx hx=>?_,λvH=>?_,λb hbb=>?_,qd.mo,qd.deep.mapped (T7 id row.gen) (λ_ _ _ _ h=>iG h) rfl rfl (rA _ _) (wS _ _)⟩
  ·rw[wS]at hx;refine⟨?_,hl _ hm x hx⟩;obtain⟨y,hy,rfl⟩:=mA.1 hx;rw[rA,ly];exact (qd.lens y hy).1
  ·obtain⟨h1,h2⟩:=qd.none vH;exact⟨by rw[wS,h1];rfl,h2⟩
  ·obtain⟨h1,cur,h2,h3,h4,h5,h6⟩:=qd.some b hbb;refine⟨h1,cur,by rw[hse];exact h2,by rw[rA];exact h3,by rw[wS,ly];exact h4,h5,λi' x hx j c hc=>?_⟩;rw[wS,lW,lg]at hx;obtain⟨y,hy,rfl⟩:=hx;rw[lW,lg]at hc;obtain⟨c0,sX,rfl⟩:=hc;obtain⟨u,e1,e2⟩:=h6 i' y hy j c0 sX;exact⟨u,by rw[rA];exact e1,zM _ _ e2⟩
 ·rw[qg,lg]at hi hj;obtain⟨o1,ho1,rfl⟩:=hi;obtain⟨o2,vJ,rfl⟩:=hj;exact hr.inj i j o1 o2 b ho1 vJ sK sL
 ·obtain⟨i,hi⟩:=lv.1 ho;rw[qg,lg]at hi;obtain⟨o0,h0,rfl⟩:=hi;exact h2 o0 (lT h0)
inductive BR (id g:Nat):List Row->List Row->Prop
 | nil:BR id g [] []
 | deep {g' size:Nat} {el:TypeId} {xs:List (List AV)} {r r':List Row} (hp:DG xs) (hl:BR id g r r'):BR id g (⟨g',el,size,xs⟩::r) (⟨g',el,size,xs⟩::r')
 | raw {g' size:Nat} {el:TypeId} {cs cs':List AV} {r r':List Row} (hc:cs.map (T7 id g)=cs') (hp:cs'.all AV.leaf=true) (hl:BR id g r r'):BR id g (⟨g',el,size,[cs]⟩::r) (⟨g',el,size,[cs']⟩::r')
theorem BR.pure {id g g' size:Nat}{el:TypeId}{xs:List (List AV)}{r r':List Row}(hp:EN xs)(hl:BR id g r r'):BR id g (⟨g',el,size,xs⟩::r) (⟨g',el,size,xs⟩::r'):=.deep hp.any hl
theorem ZE {id g:Nat}{c:AV}(h:Ee c=true):T7 id g c=c:=by cases c<;>simp[Ee,simple,T7,two,V9]at h⊢
theorem BR.spec {id g:Nat}{st0:List Row}(hle :∀row∈st0,∀x∈row.xs,∀c∈x,c.kept=true):∀{l l':List Row},BR id g l l'->(∀row∈l,row∈st0)->l.map (Nr id g)=l'/\Ix l'
 | _,_,.nil,_=>⟨rfl,λ_ h=>by cases h⟩
 | _,_,.deep hp hl,hm=>by
  obtain⟨h1,h2⟩:=BR.spec hle hl (λrow h=>hm row (mh _ h));have rZ:=hle _ (hm _ (nf ..));refine⟨?_,?_⟩
  ·simp only[mF,h1];congr 1;simp only[Nr];congr 1;refine (mH (g:=λx=>x) λx hx=>?_).trans (nH _);refine (mH (g:=λx=>x) λc hc=>?_).trans (nH _);exact ZE (hp x hx c hc)
  ·intro row qa;rcases lk.1 qa with rfl|h
   ·exact rZ
   ·exact h2 row h
 | _,_,.raw hc hp hl,hm=>by
  obtain⟨h1,h2⟩:=BR.spec hle hl (λrow h=>hm row (mh _ h));refine⟨?_,?_⟩
  ·simp only[mF,h1,Nr,nV,hc]
  ·intro row qa;rcases lk.1 qa with rfl|h
   ·intro x hx c wQ;simp only[lu]at hx;subst hx;exact D4 (lh.1 hp c wQ)
   ·exact h2 row h
theorem Mr {n:Nat}{e:Nat->AV}{st st1 st':List Row}{L:List (Nat×AV)}(id:Nat){row:Row}(qa:st[id]?=some row)(hb:BR id row.gen st st1)(qx:st1.modify id cc=st')(h:ME (λt=>bp id row.gen (e t)) L):Wk k ⟨n,e,st⟩ ⟨n,Aa L,st'⟩:=λF os a w hr=>by
 obtain⟨h1,h2⟩:=hb.spec (st0:=st) (N6 hr) (λ_ h=>h);have h3:=Wk.jy (k:=k) (n:=n) (e:=e) qa (by rw[h1];exact h2);rw[h1,qx]at h3;exact (h3.trans (Af h)) F os a w hr
def VS (m:Nat)(st:List Row):AV->AV
 | .own id g n=>if id<m then .own id g n else match st[id]? with
  | some row=>if row.gen=g then .own id 0 n else .E7
  | none=>.E7
 | .ptr id g i off=>if id<m then .ptr id g i off else match st[id]? with
  | some row=>if row.gen=g then .ptr id 0 i off else .E7
  | none=>.E7
 | .fn ..|.agg _|.Dd _=>.E7
 | v=>v
def Us (m:Nat)(st:List Row)(x:AV):AV:=two (VS m st) x
theorem hX {m:Nat}{st:List Row}{c:AV}{el s:Nat}{ys:List (List AV)}(h:Us m st c=.dv el s ys):c=.dv el s ys:=by
 refine SM (X:=VS m st) (λc h=>?_) h;cases c<;>simp only[VS]at h<;>first|exact h|cases h|(repeat' split at h)<;>first|cases h|exact h
def rk (m:Nat)(st:List Row):AV->AV
 | .fn f cs=>.fn f (cs.map (Us m st))
 | .agg cs=>.agg (cs.map (Us m st))
 | .Dd cs=>.Dd (cs.map (Us m st))
 | v=>Us m st v
def Fs (m:Nat)(st:List Row)(i:Nat)(row:Row):Row:={ row with gen:=if i<m then row.gen else 0,xs:=row.xs.map (·.map (Us m st)) }
theorem Wk.gr {n:Nat}{e:Nat->AV}{st:List Row}(hl:Ix (st.mapIdx (Fs k st))):Wk k ⟨n,e,st⟩ ⟨n,λt=>rk k st (e t),st.mapIdx (Fs k st)⟩:=λF os a w hr=>by
 let so:Nat->Own->Own:=λi o=>{ o with row:=Fs k st i o.row }
 let os2:=os.mapIdx so
 have vw:os.map Own.row=st:=hr.st;have qg:∀i,os2[i]?=(os[i]?).map (so i):=λi=>by simp[os2]
 have hs:∀{id:Nat} {o:Own},os[id]?=some o->st[id]?=some o.row:=λ{id o} ho=>by rw[<- vw,lW,ho];rfl
 have uV :∀x v,Ae F w os x v->Ae F w os2 (VS k st x) v:=λx v h=>by
  cases x with
  | own id g n'=>
   simp only[Ae]at h;obtain⟨o,ho,hle,th,hv⟩:=h;simp only[VS,hs ho];by_cases hk:id<k
   ·rw[ld hk];simp only[Ae];refine⟨so id o,by rw[qg,ho];rfl,by simp only[so,Fs,hk,mL];exact hle,th,λhg=>?_⟩;simp only[so,Fs,hk,mL]at hg;obtain⟨a1,a2⟩:=hv hg;exact⟨by simpa [so,Fs] using a1,by simpa [so,Fs] using a2⟩
   ·rw[la hk];split
    ·rename_i e;obtain⟨a1,a2⟩:=hv e;simp only[Ae];exact⟨so id o,by rw[qg,ho];rfl,mB _,th,λ_=>⟨by simpa [so,Fs] using a1,by simpa [so,Fs] using a2⟩⟩
    ·simp[Ae]
  | ptr id g i off=>
   simp only[Ae]at h;obtain⟨o,ho,hle,th,hv⟩:=h;simp only[VS,hs ho];by_cases hk:id<k
   ·rw[ld hk];simp only[Ae];refine⟨so id o,by rw[qg,ho];rfl,by simp only[so,Fs,hk,mL];exact hle,th,λhg=>?_⟩;simp only[so,Fs,hk,mL]at hg;obtain⟨a1,a2,a3⟩:=hv hg;exact⟨by simpa [so,Fs] using a1,a2,a3⟩
   ·rw[la hk];split
    ·rename_i e;obtain⟨a1,a2,a3⟩:=hv e;simp only[Ae];exact⟨so id o,by rw[qg,ho];rfl,mB _,th,λ_=>⟨by simpa [so,Fs] using a1,a2,a3⟩⟩
    ·simp[Ae]
  | fn f rR=>simp[VS,Ae]
  | agg cs=>simp[VS,Ae]
  | Dd cs=>simp[VS,Ae]
  | _=>simp only[VS,Ae]at h⊢<;>exact h
 have h1:∀x v,Ae F w os x v->Ae F w os2 (Us k st x) v:=LR uV;have hL:∀cs us,Bs F w os cs us->Bs F w os2 (cs.map (Us k st)) us:=λcs us h=>
  Da (by simp[BZ h]) λi x u hx hu=>by
   simp only[lW,lg]at hx;obtain⟨y,hy,rfl⟩:=hx;obtain⟨u',sI,ru⟩:=CO h i y hy;rw[sI]at hu;cases hu;exact h1 _ _ ru
 have hb:∀x v,Ae F w os x v->Ae F w os2 (rk k st x) v:=λx v h=>by
  cases x with
  | fn f cs=>simp only[rk,Ae]at h⊢;obtain⟨us,e,hl⟩:=h;exact⟨us,e,hL _ _ hl⟩
  | agg cs=>simp only[rk,Ae]at h⊢;obtain⟨us,e,hl⟩:=h;exact⟨us,e,hL _ _ hl⟩
  | Dd cs=>simp only[rk,Ae]at h⊢;obtain⟨us,e,hl⟩:=h;exact⟨us,e,hL _ _ hl⟩
  | _=>exact h1 _ _ h
 have xy:os2.map Own.row=st.mapIdx (Fs k st):=by
  apply nO;intro i;have e1:st[i]?=(os[i]?).map Own.row:=by rw[<- vw,lW]
  rw[lW,qg,pC,e1];cases os[i]?<;>rfl
 refine⟨F,os2,⟨xy,λt=>hb _ _ (hr.env t),hr.size,λi o ho=>?_,λi j vx oj' b hi hj sK sL=>?_,hr.FR,hr.defers⟩,⟨rfl,rfl,rfl,ll _,λ_ h=>h,λ_ _=>rfl,λb _ h1 h2=>⟨rfl,h1,λo ho=>?_⟩,λi o hi ho=>⟨so i o,by rw[qg,ho];rfl,by simp[so,Fs,hi],rfl,λ_=>⟨rfl,rfl,by simp[so,Fs]⟩⟩⟩⟩
 ·rw[qg,lg]at ho;obtain⟨o0,ho0,rfl⟩:=ho;have qd:=hr.rows i o0 ho0;have hm:(so i o0).row∈st.mapIdx (Fs k st):=by
   rw[<- xy];exact mA.2 ⟨so i o0,lT (by rw[qg,ho0];rfl),rfl⟩
  refine⟨qd.pos,λx hx=>⟨?_,hl _ hm x hx⟩,λvH=>?_,λb hbb=>?_,qd.mo,qd.deep.mapped (Us k st) (λ_ _ _ _ h=>hX h) rfl rfl rfl rfl⟩
  ·simp only[so,Fs,mA]at hx;obtain⟨y,hy,rfl⟩:=hx;simpa [so,Fs] using (qd.lens y hy).1
  ·obtain⟨h1,h2⟩:=qd.none vH;exact⟨by simp[so,Fs,h1],h2⟩
  ·obtain⟨g1,cur,h2,h3,h4,h5,h6⟩:=qd.some b hbb;refine⟨g1,cur,h2,h3,by simpa [so,Fs] using h4,h5,λi' x hx j c hc=>?_⟩;simp only[so,Fs,lW,lg]at hx;obtain⟨y,hy,rfl⟩:=hx;simp only[lW,lg]at hc;obtain⟨c0,sX,rfl⟩:=hc;obtain⟨u,e1,e2⟩:=h6 i' y hy j c0 sX;exact⟨u,e1,h1 _ _ e2⟩
 ·rw[qg,lg]at hi hj;obtain⟨o1,ho1,rfl⟩:=hi;obtain⟨o2,vJ,rfl⟩:=hj;exact hr.inj i j o1 o2 b ho1 vJ sK sL
 ·obtain⟨i,hi⟩:=lv.1 ho;rw[qg,lg]at hi;obtain⟨o0,h0,rfl⟩:=hi;exact h2 o0 (lT h0)
inductive KR (m:Nat) (st:List Row):Nat->List Row->List Row->Prop
 | nil {i:Nat}:KR m st i [] []
 | deep {i g g' size:Nat} {el:TypeId} {xs:List (List AV)} {r r':List Row} (hg:g'=if i<m then g else 0) (hp:DG xs) (hl:KR m st (i+1) r r'):KR m st i (⟨g,el,size,xs⟩::r) (⟨g',el,size,xs⟩::r')
 | raw {i g g' size:Nat} {el:TypeId} {cs cs':List AV} {r r':List Row} (hg:g'=if i<m then g else 0) (hc:cs.map (Us m st)=cs') (hp:cs'.all AV.leaf=true) (hl:KR m st (i+1) r r'):KR m st i (⟨g,el,size,[cs]⟩::r) (⟨g',el,size,[cs']⟩::r')
theorem KR.pure {m:Nat}{st:List Row}{i g g' size:Nat}{el:TypeId}{xs:List (List AV)}{r r':List Row}(hg:g'=if i<m then g else 0)(hp:EN xs)(hl:KR m st (i+1) r r'):KR m st i (⟨g,el,size,xs⟩::r) (⟨g',el,size,xs⟩::r'):=.deep hg hp.any hl
theorem Y4 {m:Nat}{st:List Row}{c:AV}(h:Ee c=true):Us m st c=c:=by cases c<;>simp[Ee,simple,Us,two,VS]at h⊢
theorem KR.spec {m:Nat}{st st0:List Row}(hle :∀row∈st0,∀x∈row.xs,∀c∈x,c.kept=true):∀{i:Nat} {l l':List Row},KR m st i l l'->(∀row∈l,row∈st0)->l.mapIdx (λj=>Fs m st (i+j))=l'/\Ix l'
 | _,_,_,.nil,_=>⟨rfl,λ_ h=>by cases h⟩
 | i,_,_,.deep (r:=r) hg hp hl,hm=>by
  obtain⟨h1,h2⟩:=KR.spec hle hl (λrow h=>hm row (mh _ h));have rZ:=hle _ (hm _ (nf ..));refine⟨?_,?_⟩
  ·rw[List.mapIdx_cons];have e:(λj=>Fs m st (i+(j+1)))=λj=>Fs m st (i+1+j):=by funext j;congr 1;omega
   rw[e,h1];congr 1;subst hg;simp only[Fs,nw];congr 1;refine (mH (g:=λx=>x) λx hx=>?_).trans (nH _);refine (mH (g:=λx=>x) λc hc=>?_).trans (nH _);exact Y4 (hp x hx c hc)
  ·intro row qa;rcases lk.1 qa with rfl|h
   ·exact rZ
   ·exact h2 row h
 | i,_,_,.raw hg hc hp hl,hm=>by
  obtain⟨h1,h2⟩:=KR.spec hle hl (λrow h=>hm row (mh _ h));refine⟨?_,?_⟩
  ·rw[List.mapIdx_cons];have e:(λj=>Fs m st (i+(j+1)))=λj=>Fs m st (i+1+j):=by funext j;congr 1;omega
   rw[e,h1];subst hg;simp only[Fs,nw,mF,nV,hc]
  ·intro row qa;rcases lk.1 qa with rfl|h
   ·intro x hx c wQ;simp only[lu]at hx;subst hx;exact D4 (lh.1 hp c wQ)
   ·exact h2 row h
theorem Dq {n:Nat}{e:Nat->AV}{st st':List Row}{L:List (Nat×AV)}(hg:KR k st 0 st st')(h:ME (λt=>Abs.rk k st (e t)) L):Wk k ⟨n,e,st⟩ ⟨n,Aa L,st'⟩:=λF os a w hr=>by
 obtain⟨h1,h2⟩:=hg.spec (st0:=st) (N6 hr) (λ_ h=>h);simp only[ml]at h1;have h3:=Wk.gr (k:=k) (n:=n) (e:=e) (st:=st) (by rw[h1];exact h2);rw[h1]at h3;exact (h3.trans (Af h)) F os a w hr
end Go.Abs
