import Derived.Test.YtihdgoiebmfapaaGreatAbsP
set_option linter.all false
namespace Go.Abs
open Go
variable {P : Program} {F : Nat -> Prop} {os : List Own} {s : St} {a : Act} {w : World} {k : Nat}
def bY (m:Nat):AV->Bool
 | .own id _ _|.ptr id _ _ _=>decide (id<m)
 | .fn ..|.agg _|.Dp _=>false
 | _=>true
def under (m:Nat):AV->Bool
 | .fn _ cs|.agg cs|.Dp cs=>cs.all (bY m)
 | v=>bY m v
section
variable {ops : Array Oper} {Q : Exit -> St -> Prop} {ds : List (Option Tmp)} {r : List Oper} {n : Nat} {e : Nat -> AV} {st st' : List Row} {ty : TypeId} {ps : String} {ed : Array Edge} {d : Option Tmp} {v v' : AV} {gd : Option (Nat × Bool)}
variable {f : FuncId} {pw : Array Operand} {ts : Array TypeId} {args : List AV} {rows0 rows1 rows2 rest : List Row}
end
def Ck (sel:List Nat)(row:Row):Row:={ row with xs:=row.xs.map (·.map (KC sel)) }
theorem Wk.dO {n:Nat}{e:Nat->AV}{st:List Row}(sel:List Nat)(hk:sel.take k=List.range k)(qM:sel.Nodup)(pG :∀i∈sel,i<st.length)(hl:Ic ((Cc st sel).map (Ck sel))):
  Wk k ⟨n,e,st⟩ ⟨n,λt=>KB sel (e t),(Cc st sel).map (Ck sel)⟩:=λF os a w hr=>by
 have hlen:st.length=os.length:=hr.len;have qd :∀i,i<k->sel[i]?=some i:=λi hi=>by
  have h1:(sel.take k)[i]?=some i:=by rw[hk];simp[hi]
  rw[kL]at h1;simpa [hi] using h1
 have rV:∀(j id:Nat),sel[j]?=some id->(sel.filterMap (os[·]?))[j]?=os[id]?:=by
  have :∀(l:List Nat),(∀i∈l,i<os.length)->∀(j id:Nat),l[j]?=some id->(l.filterMap (os[·]?))[j]?=os[id]?:=λl=>by
   induction l with
   | nil=>intro _ j id h;simp at h
   | cons i l ih=>
    intro hl j id h;have hi:=hl i (by simp);rw[lX,jl hi];cases j with
    | zero=>simp only[kK,jh]at h;subst h;simp[jl hi]
    | succ j=>simp only[kT]at h⊢;exact ih (λx hx=>hl x (by simp[hx])) j id h
  exact this sel (λi hi=>by rw[<- hlen];exact pG i hi)
 let so:Own->Own:=λo=>{ o with row:=Ck sel o.row }
 let os2:=(sel.filterMap (os[·]?)).map so
 have uP:(sel.filterMap (os[·]?)).length=sel.length:=by
  have :∀(l:List Nat),(∀i∈l,i<os.length)->(l.filterMap (os[·]?)).length=l.length:=λl=>by
   induction l with
   | nil=>simp
   | cons i l ih=>intro hl;rw[lX,jl (hl i (by simp))];simp[ih (λx hx=>hl x (by simp[hx]))]
  exact this sel (λi hi=>by rw[<- hlen];exact pG i hi)
 have oe:∀(j:Nat) (o:Own),os2[j]?=some o->∃id o0,sel[j]?=some id/\os[id]?=some o0/\o=so o0:=λj o h=>by
  simp only[os2,ji,jo]at h;obtain⟨o0,h0,rfl⟩:=h;have hj:j<sel.length:=by rw[<- uP];exact (jg.1 h0).1
  refine⟨sel[j],o0,jl hj,?_,rfl⟩;rw[<- rV j _ (jl hj)];exact h0
 have vB:∀x v,Ae F w os x v->Ae F w os2 (IN sel x) v:=λx v h=>by
  have tu:∀id j,idx sel id=some j->os2[j]?=(os[id]?).map so:=λid j hj=>by
   unfold idx at hj;rw[lh]at hj;obtain⟨h1,h2,_⟩:=hj;simp only[os2,ji];rw[rV j id (by rw[jl h1];simpa using h2)]
  cases x with
  | own id g n=>
   simp only[IN];split
   ·rename_i j hj;simp only[Ae]at h⊢;obtain⟨o,h1,h2,h3,h4⟩:=h;exact⟨so o,by rw[tu id j hj,h1];rfl,h2,h3,λhg=>by
     obtain⟨a1,a2⟩:=h4 hg;exact⟨by simpa [so,Ck] using a1,by simpa [so,Ck] using a2⟩⟩
   ·simp[Ae]
  | ptr id g i off=>
   simp only[IN];split
   ·rename_i j hj;simp only[Ae]at h⊢;obtain⟨o,h1,h2,h3,h4⟩:=h;exact⟨so o,by rw[tu id j hj,h1];rfl,h2,h3,λhg=>by
     obtain⟨a1,a2,a3⟩:=h4 hg;exact⟨by simpa [so,Ck] using a1,a2,a3⟩⟩
   ·simp[Ae]
  | fn f cs=>simp[IN,Ae]
  | agg cs=>simp[IN,Ae]
  | Dp cs=>simp[IN,Ae]
  | _=>simp only[IN,Ae]at h⊢<;>exact h
 have rW:∀x v,Ae F w os x v->Ae F w os2 (KC sel x) v:=LQ vB;have rX:∀cs us,Br F w os cs us->Br F w os2 (cs.map (KC sel)) us:=λcs us h=>
  DZ (by simp[BY h]) λi x u hx hu=>by
   simp only[ji,jo]at hx;obtain⟨y,hy,rfl⟩:=hx;obtain⟨u',qV,qF⟩:=CN h i y hy;rw[qV]at hu;cases hu;exact rW _ _ qF
 have xG:∀x v,Ae F w os x v->Ae F w os2 (KB sel x) v:=λx v h=>by
  cases x with
  | fn f cs=>simp only[KB,Ae]at h⊢;obtain⟨us,e,hl⟩:=h;exact⟨us,e,rX _ _ hl⟩
  | agg cs=>simp only[KB,Ae]at h⊢;obtain⟨us,e,hl⟩:=h;exact⟨us,e,rX _ _ hl⟩
  | Dp cs=>simp only[KB,Ae]at h⊢;obtain⟨us,e,hl⟩:=h;exact⟨us,e,rX _ _ hl⟩
  | _=>exact rW _ _ h
 have tL:os2.map Own.row=(Cc st sel).map (Ck sel):=by
  have h0:os.map Own.row=st:=hr.st;simp only[os2,Cc,<- h0,lU,nK];congr 1;funext i;simp only[ji];cases os[i]?<;>rfl
 refine⟨F,os2,⟨tL,λt=>xG _ _ (hr.env t),hr.size,λj o ho=>?_,λi j oi oj b hi hj qX qY=>?_,hr.FR,hr.defers⟩,⟨rfl,rfl,rfl,jv _,λ_ h=>h,λ_ _=>rfl,λb _ h1 h2=>⟨rfl,h1,λo ho=>?_⟩,λi o hi ho=>⟨so o,?_,jv _,rfl,λ_=>⟨rfl,rfl,by simp[so,Ck]⟩⟩⟩⟩
 ·have oY:o.row∈(Cc st sel).map (Ck sel):=by rw[<- tL];exact kC.2 ⟨o,je ho,rfl⟩
  obtain⟨id,o0,rP,ho0,rfl⟩:=oe j o ho;have ob:=hr.rows id o0 ho0;refine⟨ob.pos,λx hx=>⟨?_,hl _ oY x hx⟩,λhb=>?_,λb hb=>?_,ob.mo,ob.deep.mapped (KC sel) (λ_ _ _ _ h=>ZJ h) rfl rfl rfl rfl⟩
  ·simp only[so,Ck,kC]at hx;obtain⟨y,hy,rfl⟩:=hx;simpa [so,Ck] using (ob.lens y hy).1
  ·obtain⟨h1,h2⟩:=ob.none hb;exact⟨by simp[so,Ck,h1],h2⟩
  ·obtain⟨h1,cur,h2,h3,h4,h5,h6⟩:=ob.some b hb;refine⟨h1,cur,h2,h3,by simpa [so,Ck] using h4,h5,λi x hx j' c hc=>?_⟩;simp only[so,Ck,ji,jo]at hx;obtain⟨y,hy,rfl⟩:=hx;simp only[ji,jo]at hc;obtain⟨c0,qj,rfl⟩:=hc;obtain⟨u,e1,e2⟩:=h6 i y hy j' c0 qj;exact⟨u,e1,rW _ _ e2⟩
 ·obtain⟨id,o0,rP,ho0,rfl⟩:=oe i oi hi;obtain⟨pW,o0',hid',ho0',rfl⟩:=oe j oj hj;have he:=hr.inj id pW o0 o0' b ho0 ho0' qX qY;subst he;obtain⟨ve,vu⟩:=jg.1 rP;obtain⟨tI,tZ⟩:=jg.1 hid';have hp:=mW.1 qM;rcases lH i j with h|h|h
  ·exact absurd (vu.trans tZ.symm) (hp i j ve tI h)
  ·exact h
  ·exact absurd (tZ.trans vu.symm) (hp j i tI ve h)
 ·simp only[os2,kC,kz]at ho;obtain⟨o0,⟨i,_,hi⟩,rfl⟩:=ho;exact h2 o0 (je hi)
 ·simp only[os2,ji];rw[rV i i (qd i hi),ho];rfl
theorem VC {n:Nat}{e:Nat->AV}{st st':List Row}{L:List (Nat×AV)}(sel:List Nat)(hk:sel.take k=List.range k)(qM:sel.Nodup)(pG:sel.all (·<st.length)=true)
  (pI:(Cc st sel).map (Ck sel)=st') (hl:Ic st') (h:ME (λt=>KB sel (e t)) L):Wk k ⟨n,e,st⟩ ⟨n,Aa L,st'⟩:=by
 subst pI;exact (Wk.dO sel hk qM (λi hi=>by simpa using jq.1 pG i hi) hl).trans (Ag h)
inductive SR (sel:List Nat):List Row->List Row->Prop
 | nil:SR sel [] []
 | deep {g size:Nat} {el:TypeId} {xs:List (List AV)} {r r':List Row} (hp:DD xs) (hl:SR sel r r'):SR sel (⟨g,el,size,xs⟩::r) (⟨g,el,size,xs⟩::r')
 | raw {g size:Nat} {el:TypeId} {cs cs':List AV} {r r':List Row} (hc:cs.map (KC sel)=cs') (hp:cs'.all AV.leaf=true) (hl:SR sel r r'):SR sel (⟨g,el,size,[cs]⟩::r) (⟨g,el,size,[cs']⟩::r')
 | hol {g size i:Nat} {el:TypeId} {zs:List (List AV)} {x x':List AV} {r r':List Row} (hp:DD zs) (hz :∀z∈zs,z.all AV.kept=true) (hc:x.map (KC sel)=x') (hk:x'.all AV.kept=true) (hl:SR sel r r'):SR sel (⟨g,el,size,zs.set i x⟩::r) (⟨g,el,size,zs.set i x'⟩::r')
theorem SR.pure {sel:List Nat}{g size:Nat}{el:TypeId}{xs:List (List AV)}{r r':List Row}(hp:EK xs)(hl:SR sel r r'):SR sel (⟨g,el,size,xs⟩::r) (⟨g,el,size,xs⟩::r'):=.deep hp.any hl
theorem NP {sel:List Nat}{c:AV}(h:Ed c=true):KC sel c=c:=by cases c<;>simp[Ed,simple,KC,two,IN]at h⊢
theorem SR.spec {sel:List Nat}{st0:List Row}(hle :∀row∈st0,∀x∈row.xs,∀c∈x,c.kept=true):∀{l l':List Row},SR sel l l'->(∀row∈l,row∈st0)->l.map (Ck sel)=l'/\Ic l'
 | _,_,.nil,_=>⟨rfl,λ_ h=>by cases h⟩
 | _,_,.deep hp hl,hm=>by
  obtain⟨h1,h2⟩:=SR.spec hle hl (λrow h=>hm row (kr _ h));have pn:=hle _ (hm _ (ld ..));refine⟨?_,?_⟩
  ·simp only[kI,h1];congr 1;simp only[Ck];congr 1;refine (kM (g:=id) λx hx=>?_).trans (lI _);refine (kM (g:=id) λc hc=>?_).trans (lI _);exact NP (hp x hx c hc)
  ·intro row oY;rcases js.1 oY with rfl|h
   ·exact pn
   ·exact h2 row h
 | _,_,.raw hc hp hl,hm=>by
  obtain⟨h1,h2⟩:=SR.spec hle hl (λrow h=>hm row (kr _ h));refine⟨?_,?_⟩
  ·simp only[kI,h1,Ck,lV,hc]
  ·intro row oY;rcases js.1 oY with rfl|h
   ·intro x hx c uQ;simp only[jy]at hx;subst hx;exact Dz (jq.1 hp c uQ)
   ·exact h2 row h
 | _,_,.hol (zs:=zs) (i:=i) hp hz hc hk hl,hm=>by
  obtain⟨h1,h2⟩:=SR.spec hle hl (λrow h=>hm row (kr _ h));refine⟨?_,?_⟩
  ·simp only[kI,h1,Ck,ln,hc];congr 3;refine (kM (g:=id) λx hx=>?_).trans (lI _);refine (kM (g:=id) λc hc=>?_).trans (lI _);exact NP (hp x hx c hc)
  ·intro row oY;rcases js.1 oY with rfl|h
   ·intro x hx c uQ;rcases kp hx with hx|rfl
    ·exact jq.1 (hz x hx) c uQ
    ·exact jq.1 hk c uQ
   ·exact h2 row h
theorem NW {n:Nat}{e:Nat->AV}{st:List Row}(hr:Rel F os ⟨n,e,st⟩ a w):∀row∈st,∀x∈row.xs,∀c∈x,c.kept=true:=λrow oY x hx c hc=>by
 have pI:=hr.st;simp only at pI;rw[<- pI]at oY;obtain⟨o,ho,rfl⟩:=kC.1 oY;obtain⟨i,hi⟩:=jz.1 ho;exact ((hr.rows i o hi).lens x hx).2 c hc
def Vs (id g:Nat):AV->AV
 | .own pW g' n=>if pW=id/\g'=g then .own id (g+1) n else .own pW g' n
 | .ptr pW g' i off=>if pW=id/\g'=g then .ptr id (g+1) i off else .ptr pW g' i off
 | .fn ..|.agg _|.Dp _=>.E2
 | v=>v
def TO (id g:Nat)(x:AV):AV:=two (Vs id g) x
theorem eo {id g:Nat}{c:AV}{el s:Nat}{ys:List (List AV)}(h:TO id g c=.dv el s ys):c=.dv el s ys:=by
 refine SE (X:=Vs id g) (λc h=>?_) h;cases c<;>simp only[Vs]at h<;>first|exact h|cases h|(repeat' split at h)<;>first|cases h|exact h
def bp (id g:Nat):AV->AV
 | .fn f cs=>.fn f (cs.map (TO id g))
 | .agg cs=>.agg (cs.map (TO id g))
 | .Dp cs=>.Dp (cs.map (TO id g))
 | v=>TO id g v
def NM (id g:Nat)(row:Row):Row:={ row with xs:=row.xs.map (·.map (TO id g)) }
def bC (row:Row):Row:={ row with gen:=row.gen+1 }
theorem Wk.gO {n:Nat}{e:Nat->AV}{st:List Row}{id:Nat}{row:Row}(oY:st[id]?=some row)(hl:Ic (st.map (NM id row.gen))):
  Wk k ⟨n,e,st⟩ ⟨n,λt=>bp id row.gen (e t),(st.map (NM id row.gen)).modify id bC⟩:=λF os a w hr=>by
 let so:Nat->Own->Own:=λi o=>{ o with row:=if i=id then bC (NM id row.gen o.row) else NM id row.gen o.row }
 let os2:=os.mapIdx so
 have tv:os.map Own.row=st:=hr.st;obtain⟨oi,rG,hoir⟩ :∃o,os[id]?=some o/\o.row=row:=by
  rw[<- tv,ji,jo]at oY;exact oY
 have oe:∀i,os2[i]?=(os[i]?).map (so i):=λi=>by simp[os2]
 have uS:∀i o,(so i o).row.xs=o.row.xs.map (·.map (TO id row.gen)):=λi o=>by
  simp only[so];split<;>rfl
 have pL:∀i o,(so i o).row.size=o.row.size:=λi o=>by simp only[so];split<;>rfl
 have hse:∀i o,(so i o).row.elem=o.row.elem:=λi o=>by simp only[so];split<;>rfl
 have tM:∀i o,(so i o).row.gen=if i=id then o.row.gen+1 else o.row.gen:=λi o=>by simp only[so];split<;>rfl
 have wV:∀x v,Ae F w os x v->Ae F w os2 (Vs id row.gen x) v:=λx v h=>by
  cases x with
  | own pW g' n'=>
   simp only[Ae]at h;obtain⟨o,h1,h2,h3,h4⟩:=h;simp only[Vs];by_cases hc:pW=id/\g'=row.gen
   ·rw[jm hc];obtain⟨rfl,rfl⟩:=hc;have:o=oi:=by rw[rG]at h1;cases h1;rfl
    subst this;simp only[Ae];refine⟨so pW o,by rw[oe,rG];rfl,by rw[tM];simp[hoir],h3,λ_=>?_⟩;obtain⟨a1,a2⟩:=h4 (by rw[hoir]);exact⟨by rw[uS];simpa using a1,by rw[uS,pL,kB];exact a2⟩
   ·rw[jn hc];simp only[Ae];refine⟨so pW o,by rw[oe,h1];rfl,by rw[tM];split<;>omega,h3,λhg=>?_⟩;rw[tM]at hg;by_cases hi:pW=id
    ·subst hi;rw[rG]at h1;cases h1;rw[jm rfl]at hg;omega
    ·rw[jn hi]at hg;obtain⟨a1,a2⟩:=h4 hg;exact⟨by rw[uS];simpa using a1,by rw[uS,pL,kB];exact a2⟩
  | ptr pW g' i' off=>
   simp only[Ae]at h;obtain⟨o,h1,h2,h3,h4⟩:=h;simp only[Vs];by_cases hc:pW=id/\g'=row.gen
   ·rw[jm hc];obtain⟨rfl,rfl⟩:=hc;have:o=oi:=by rw[rG]at h1;cases h1;rfl
    subst this;simp only[Ae];refine⟨so pW o,by rw[oe,rG];rfl,by rw[tM];simp[hoir],h3,λ_=>?_⟩;obtain⟨a1,a2,a3⟩:=h4 (by rw[hoir]);exact⟨by rw[uS];simpa using a1,by rw[pL];exact a2,by rw[pL];exact a3⟩
   ·rw[jn hc];simp only[Ae];refine⟨so pW o,by rw[oe,h1];rfl,by rw[tM];split<;>omega,h3,λhg=>?_⟩;rw[tM]at hg;by_cases hi:pW=id
    ·subst hi;rw[rG]at h1;cases h1;rw[jm rfl]at hg;omega
    ·rw[jn hi]at hg;obtain⟨a1,a2,a3⟩:=h4 hg;exact⟨by rw[uS];simpa using a1,by rw[pL];exact a2,by rw[pL];exact a3⟩
  | fn f pc=>simp[Vs,Ae]
  | agg cs=>simp[Vs,Ae]
  | Dp cs=>simp[Vs,Ae]
  | _=>simp only[Vs,Ae]at h⊢<;>exact h
 have xH:∀x v,Ae F w os x v->Ae F w os2 (TO id row.gen x) v:=LQ wV;have hbL:∀cs us,Br F w os cs us->Br F w os2 (cs.map (TO id row.gen)) us:=λcs us h=>
  DZ (by simp[BY h]) λi x u hx hu=>by
   simp only[ji,jo]at hx;obtain⟨y,hy,rfl⟩:=hx;obtain⟨u',qV,qF⟩:=CN h i y hy;rw[qV]at hu;cases hu;exact xH _ _ qF
 have hb:∀x v,Ae F w os x v->Ae F w os2 (bp id row.gen x) v:=λx v h=>by
  cases x with
  | fn f cs=>simp only[bp,Ae]at h⊢;obtain⟨us,e,hl⟩:=h;exact⟨us,e,hbL _ _ hl⟩
  | agg cs=>simp only[bp,Ae]at h⊢;obtain⟨us,e,hl⟩:=h;exact⟨us,e,hbL _ _ hl⟩
  | Dp cs=>simp only[bp,Ae]at h⊢;obtain⟨us,e,hl⟩:=h;exact⟨us,e,hbL _ _ hl⟩
  | _=>exact xH _ _ h
 have vw:os2.map Own.row=(st.map (NM id row.gen)).modify id bC:=by
  apply lk;intro i;rw[ji,oe,List.getElem?_modify,ji,<- tv,ji];cases os[i]? with
  | none=>rfl
  | some o=>
   simp only[kb,so];by_cases hi:i=id
   ·simp[hi]
   ·have:¬ id=i:=λh=>hi h.symm;simp[hi,this]
 refine⟨F,os2,⟨vw,λt=>hb _ _ (hr.env t),hr.size,λi o ho=>?_,λi j tw zH b hi hj qX qY=>?_,hr.FR,hr.defers⟩,⟨rfl,rfl,rfl,jv _,λ_ h=>h,λ_ _=>rfl,λb _ h1 h2=>⟨rfl,h1,λo ho=>?_⟩,λi o hi ho=>⟨so i o,by rw[oe,ho];rfl,by rw[tM];split<;>omega,pL i o,λ_=>⟨rfl,rfl,by rw[uS];simp⟩⟩⟩⟩
 ·rw[oe,jo]at ho;obtain⟨o0,ho0,rfl⟩:=ho;have ob:=hr.rows i o0 ho0;have hm:NM id row.gen o0.row∈st.map (NM id row.gen):=kC.2 ⟨o0.row,by rw[<- tv];exact kC.2 ⟨o0,je ho0,rfl⟩,rfl⟩;refine⟨by rw[pL];exact ob.pos,λx hx=>?_,λtA=>?_,λb hbb=>?_,ob.mo,ob.deep.mapped (TO id row.gen) (λ_ _ _ _ h=>eo h) rfl rfl (pL _ _) (uS _ _)⟩
  ·rw[uS]at hx;refine⟨?_,hl _ hm x hx⟩;obtain⟨y,hy,rfl⟩:=kC.1 hx;rw[pL,kB];exact (ob.lens y hy).1
  ·obtain⟨h1,h2⟩:=ob.none tA;exact⟨by rw[uS,h1];rfl,h2⟩
  ·obtain⟨h1,cur,h2,h3,h4,h5,h6⟩:=ob.some b hbb;refine⟨h1,cur,by rw[hse];exact h2,by rw[pL];exact h3,by rw[uS,kB];exact h4,h5,λi' x hx j c hc=>?_⟩;rw[uS,ji,jo]at hx;obtain⟨y,hy,rfl⟩:=hx;rw[ji,jo]at hc;obtain⟨c0,qj,rfl⟩:=hc;obtain⟨u,e1,e2⟩:=h6 i' y hy j c0 qj;exact⟨u,by rw[pL];exact e1,xH _ _ e2⟩
 ·rw[oe,jo]at hi hj;obtain⟨o1,zF,rfl⟩:=hi;obtain⟨o2,tC,rfl⟩:=hj;exact hr.inj i j o1 o2 b zF tC qX qY
 ·obtain⟨i,hi⟩:=jz.1 ho;rw[oe,jo]at hi;obtain⟨o0,h0,rfl⟩:=hi;exact h2 o0 (je h0)
inductive BR (id g:Nat):List Row->List Row->Prop
 | nil:BR id g [] []
 | deep {g' size:Nat} {el:TypeId} {xs:List (List AV)} {r r':List Row} (hp:DD xs) (hl:BR id g r r'):BR id g (⟨g',el,size,xs⟩::r) (⟨g',el,size,xs⟩::r')
 | raw {g' size:Nat} {el:TypeId} {cs cs':List AV} {r r':List Row} (hc:cs.map (TO id g)=cs') (hp:cs'.all AV.leaf=true) (hl:BR id g r r'):BR id g (⟨g',el,size,[cs]⟩::r) (⟨g',el,size,[cs']⟩::r')
theorem BR.pure {id g g' size:Nat}{el:TypeId}{xs:List (List AV)}{r r':List Row}(hp:EK xs)(hl:BR id g r r'):BR id g (⟨g',el,size,xs⟩::r) (⟨g',el,size,xs⟩::r'):=.deep hp.any hl
theorem Xb {id g:Nat}{c:AV}(h:Ed c=true):TO id g c=c:=by cases c<;>simp[Ed,simple,TO,two,Vs]at h⊢
theorem BR.spec {id g:Nat}{st0:List Row}(hle :∀row∈st0,∀x∈row.xs,∀c∈x,c.kept=true):∀{l l':List Row},BR id g l l'->(∀row∈l,row∈st0)->l.map (NM id g)=l'/\Ic l'
 | _,_,.nil,_=>⟨rfl,λ_ h=>by cases h⟩
 | _,_,.deep hp hl,hm=>by
  obtain⟨h1,h2⟩:=BR.spec hle hl (λrow h=>hm row (kr _ h));have pn:=hle _ (hm _ (ld ..));refine⟨?_,?_⟩
  ·simp only[kI,h1];congr 1;simp only[NM];congr 1;refine (kM (g:=λx=>x) λx hx=>?_).trans (lI _);refine (kM (g:=λx=>x) λc hc=>?_).trans (lI _);exact Xb (hp x hx c hc)
  ·intro row oY;rcases js.1 oY with rfl|h
   ·exact pn
   ·exact h2 row h
 | _,_,.raw hc hp hl,hm=>by
  obtain⟨h1,h2⟩:=BR.spec hle hl (λrow h=>hm row (kr _ h));refine⟨?_,?_⟩
  ·simp only[kI,h1,NM,lV,hc]
  ·intro row oY;rcases js.1 oY with rfl|h
   ·intro x hx c uQ;simp only[jy]at hx;subst hx;exact Dz (jq.1 hp c uQ)
   ·exact h2 row h
theorem MJ {n:Nat}{e:Nat->AV}{st st1 st':List Row}{L:List (Nat×AV)}(id:Nat){row:Row}(oY:st[id]?=some row)(hb:BR id row.gen st st1)(pI:st1.modify id bC=st')(h:ME (λt=>bp id row.gen (e t)) L):Wk k ⟨n,e,st⟩ ⟨n,Aa L,st'⟩:=λF os a w hr=>by
 obtain⟨h1,h2⟩:=hb.spec (st0:=st) (NW hr) (λ_ h=>h);have h3:=Wk.gO (k:=k) (n:=n) (e:=e) oY (by rw[h1];exact h2);rw[h1,pI]at h3;exact (h3.trans (Ag h)) F os a w hr
def Vu (m:Nat)(st:List Row):AV->AV
 | .own id g n=>if id<m then .own id g n else match st[id]? with
  | some row=>if row.gen=g then .own id 0 n else .E2
  | none=>.E2
 | .ptr id g i off=>if id<m then .ptr id g i off else match st[id]? with
  | some row=>if row.gen=g then .ptr id 0 i off else .E2
  | none=>.E2
 | .fn ..|.agg _|.Dp _=>.E2
 | v=>v
def Tu (m:Nat)(st:List Row)(x:AV):AV:=two (Vu m st) x
theorem fe {m:Nat}{st:List Row}{c:AV}{el s:Nat}{ys:List (List AV)}(h:Tu m st c=.dv el s ys):c=.dv el s ys:=by
 refine SE (X:=Vu m st) (λc h=>?_) h;cases c<;>simp only[Vu]at h<;>first|exact h|cases h|(repeat' split at h)<;>first|cases h|exact h
def rk (m:Nat)(st:List Row):AV->AV
 | .fn f cs=>.fn f (cs.map (Tu m st))
 | .agg cs=>.agg (cs.map (Tu m st))
 | .Dp cs=>.Dp (cs.map (Tu m st))
 | v=>Tu m st v
def Fm (m:Nat)(st:List Row)(i:Nat)(row:Row):Row:={ row with gen:=if i<m then row.gen else 0,xs:=row.xs.map (·.map (Tu m st)) }
theorem Wk.fX {n:Nat}{e:Nat->AV}{st:List Row}(hl:Ic (st.mapIdx (Fm k st))):Wk k ⟨n,e,st⟩ ⟨n,λt=>rk k st (e t),st.mapIdx (Fm k st)⟩:=λF os a w hr=>by
 let so:Nat->Own->Own:=λi o=>{ o with row:=Fm k st i o.row }
 let os2:=os.mapIdx so
 have tv:os.map Own.row=st:=hr.st;have oe:∀i,os2[i]?=(os[i]?).map (so i):=λi=>by simp[os2]
 have hs:∀{id:Nat} {o:Own},os[id]?=some o->st[id]?=some o.row:=λ{id o} ho=>by rw[<- tv,ji,ho];rfl
 have sY :∀x v,Ae F w os x v->Ae F w os2 (Vu k st x) v:=λx v h=>by
  cases x with
  | own id g n'=>
   simp only[Ae]at h;obtain⟨o,ho,hle,rl,hv⟩:=h;simp only[Vu,hs ho];by_cases hk:id<k
   ·rw[jm hk];simp only[Ae];refine⟨so id o,by rw[oe,ho];rfl,by simp only[so,Fm,hk,kO];exact hle,rl,λhg=>?_⟩;simp only[so,Fm,hk,kO]at hg;obtain⟨a1,a2⟩:=hv hg;exact⟨by simpa [so,Fm] using a1,by simpa [so,Fm] using a2⟩
   ·rw[jn hk];split
    ·rename_i e;obtain⟨a1,a2⟩:=hv e;simp only[Ae];exact⟨so id o,by rw[oe,ho];rfl,kE _,rl,λ_=>⟨by simpa [so,Fm] using a1,by simpa [so,Fm] using a2⟩⟩
    ·simp[Ae]
  | ptr id g i off=>
   simp only[Ae]at h;obtain⟨o,ho,hle,rl,hv⟩:=h;simp only[Vu,hs ho];by_cases hk:id<k
   ·rw[jm hk];simp only[Ae];refine⟨so id o,by rw[oe,ho];rfl,by simp only[so,Fm,hk,kO];exact hle,rl,λhg=>?_⟩;simp only[so,Fm,hk,kO]at hg;obtain⟨a1,a2,a3⟩:=hv hg;exact⟨by simpa [so,Fm] using a1,a2,a3⟩
   ·rw[jn hk];split
    ·rename_i e;obtain⟨a1,a2,a3⟩:=hv e;simp only[Ae];exact⟨so id o,by rw[oe,ho];rfl,kE _,rl,λ_=>⟨by simpa [so,Fm] using a1,a2,a3⟩⟩
    ·simp[Ae]
  | fn f pc=>simp[Vu,Ae]
  | agg cs=>simp[Vu,Ae]
  | Dp cs=>simp[Vu,Ae]
  | _=>simp only[Vu,Ae]at h⊢<;>exact h
 have h1:∀x v,Ae F w os x v->Ae F w os2 (Tu k st x) v:=LQ sY;have hL:∀cs us,Br F w os cs us->Br F w os2 (cs.map (Tu k st)) us:=λcs us h=>
  DZ (by simp[BY h]) λi x u hx hu=>by
   simp only[ji,jo]at hx;obtain⟨y,hy,rfl⟩:=hx;obtain⟨u',qV,qF⟩:=CN h i y hy;rw[qV]at hu;cases hu;exact h1 _ _ qF
 have hb:∀x v,Ae F w os x v->Ae F w os2 (rk k st x) v:=λx v h=>by
  cases x with
  | fn f cs=>simp only[rk,Ae]at h⊢;obtain⟨us,e,hl⟩:=h;exact⟨us,e,hL _ _ hl⟩
  | agg cs=>simp only[rk,Ae]at h⊢;obtain⟨us,e,hl⟩:=h;exact⟨us,e,hL _ _ hl⟩
  | Dp cs=>simp only[rk,Ae]at h⊢;obtain⟨us,e,hl⟩:=h;exact⟨us,e,hL _ _ hl⟩
  | _=>exact h1 _ _ h
 have vw:os2.map Own.row=st.mapIdx (Fm k st):=by
  apply lk;intro i;have e1:st[i]?=(os[i]?).map Own.row:=by rw[<- tv,ji]
  rw[ji,oe,nC,e1];cases os[i]?<;>rfl
 refine⟨F,os2,⟨vw,λt=>hb _ _ (hr.env t),hr.size,λi o ho=>?_,λi j tw zH b hi hj qX qY=>?_,hr.FR,hr.defers⟩,⟨rfl,rfl,rfl,jv _,λ_ h=>h,λ_ _=>rfl,λb _ h1 h2=>⟨rfl,h1,λo ho=>?_⟩,λi o hi ho=>⟨so i o,by rw[oe,ho];rfl,by simp[so,Fm,hi],rfl,λ_=>⟨rfl,rfl,by simp[so,Fm]⟩⟩⟩⟩
 ·rw[oe,jo]at ho;obtain⟨o0,ho0,rfl⟩:=ho;have ob:=hr.rows i o0 ho0;have hm:(so i o0).row∈st.mapIdx (Fm k st):=by
   rw[<- vw];exact kC.2 ⟨so i o0,je (by rw[oe,ho0];rfl),rfl⟩
  refine⟨ob.pos,λx hx=>⟨?_,hl _ hm x hx⟩,λtA=>?_,λb hbb=>?_,ob.mo,ob.deep.mapped (Tu k st) (λ_ _ _ _ h=>fe h) rfl rfl rfl rfl⟩
  ·simp only[so,Fm,kC]at hx;obtain⟨y,hy,rfl⟩:=hx;simpa [so,Fm] using (ob.lens y hy).1
  ·obtain⟨h1,h2⟩:=ob.none tA;exact⟨by simp[so,Fm,h1],h2⟩
  ·obtain⟨g1,cur,h2,h3,h4,h5,h6⟩:=ob.some b hbb;refine⟨g1,cur,h2,h3,by simpa [so,Fm] using h4,h5,λi' x hx j c hc=>?_⟩;simp only[so,Fm,ji,jo]at hx;obtain⟨y,hy,rfl⟩:=hx;simp only[ji,jo]at hc;obtain⟨c0,qj,rfl⟩:=hc;obtain⟨u,e1,e2⟩:=h6 i' y hy j c0 qj;exact⟨u,e1,h1 _ _ e2⟩
 ·rw[oe,jo]at hi hj;obtain⟨o1,zF,rfl⟩:=hi;obtain⟨o2,tC,rfl⟩:=hj;exact hr.inj i j o1 o2 b zF tC qX qY
 ·obtain⟨i,hi⟩:=jz.1 ho;rw[oe,jo]at hi;obtain⟨o0,h0,rfl⟩:=hi;exact h2 o0 (je h0)
inductive KR (m:Nat) (st:List Row):Nat->List Row->List Row->Prop
 | nil {i:Nat}:KR m st i [] []
 | deep {i g g' size:Nat} {el:TypeId} {xs:List (List AV)} {r r':List Row} (hg:g'=if i<m then g else 0) (hp:DD xs) (hl:KR m st (i+1) r r'):KR m st i (⟨g,el,size,xs⟩::r) (⟨g',el,size,xs⟩::r')
 | raw {i g g' size:Nat} {el:TypeId} {cs cs':List AV} {r r':List Row} (hg:g'=if i<m then g else 0) (hc:cs.map (Tu m st)=cs') (hp:cs'.all AV.leaf=true) (hl:KR m st (i+1) r r'):KR m st i (⟨g,el,size,[cs]⟩::r) (⟨g',el,size,[cs']⟩::r')
theorem KR.pure {m:Nat}{st:List Row}{i g g' size:Nat}{el:TypeId}{xs:List (List AV)}{r r':List Row}(hg:g'=if i<m then g else 0)(hp:EK xs)(hl:KR m st (i+1) r r'):KR m st i (⟨g,el,size,xs⟩::r) (⟨g',el,size,xs⟩::r'):=.deep hg hp.any hl
theorem Xk {m:Nat}{st:List Row}{c:AV}(h:Ed c=true):Tu m st c=c:=by cases c<;>simp[Ed,simple,Tu,two,Vu]at h⊢
theorem KR.spec {m:Nat}{st st0:List Row}(hle :∀row∈st0,∀x∈row.xs,∀c∈x,c.kept=true):∀{i:Nat} {l l':List Row},KR m st i l l'->(∀row∈l,row∈st0)->l.mapIdx (λj=>Fm m st (i+j))=l'/\Ic l'
 | _,_,_,.nil,_=>⟨rfl,λ_ h=>by cases h⟩
 | i,_,_,.deep (r:=r) hg hp hl,hm=>by
  obtain⟨h1,h2⟩:=KR.spec hle hl (λrow h=>hm row (kr _ h));have pn:=hle _ (hm _ (ld ..));refine⟨?_,?_⟩
  ·rw[List.mapIdx_cons];have e:(λj=>Fm m st (i+(j+1)))=λj=>Fm m st (i+1+j):=by funext j;congr 1;omega
   rw[e,h1];congr 1;subst hg;simp only[Fm,mA];congr 1;refine (kM (g:=λx=>x) λx hx=>?_).trans (lI _);refine (kM (g:=λx=>x) λc hc=>?_).trans (lI _);exact Xk (hp x hx c hc)
  ·intro row oY;rcases js.1 oY with rfl|h
   ·exact pn
   ·exact h2 row h
 | i,_,_,.raw hg hc hp hl,hm=>by
  obtain⟨h1,h2⟩:=KR.spec hle hl (λrow h=>hm row (kr _ h));refine⟨?_,?_⟩
  ·rw[List.mapIdx_cons];have e:(λj=>Fm m st (i+(j+1)))=λj=>Fm m st (i+1+j):=by funext j;congr 1;omega
   rw[e,h1];subst hg;simp only[Fm,mA,kI,lV,hc]
  ·intro row oY;rcases js.1 oY with rfl|h
   ·intro x hx c uQ;simp only[jy]at hx;subst hx;exact Dz (jq.1 hp c uQ)
   ·exact h2 row h
theorem Dm {n:Nat}{e:Nat->AV}{st st':List Row}{L:List (Nat×AV)}(hg:KR k st 0 st st')(h:ME (λt=>Abs.rk k st (e t)) L):Wk k ⟨n,e,st⟩ ⟨n,Aa L,st'⟩:=λF os a w hr=>by
 obtain⟨h1,h2⟩:=hg.spec (st0:=st) (NW hr) (λ_ h=>h);simp only[kt]at h1;have h3:=Wk.fX (k:=k) (n:=n) (e:=e) (st:=st) (by rw[h1];exact h2);rw[h1]at h3;exact (h3.trans (Ag h)) F os a w hr
end Go.Abs
