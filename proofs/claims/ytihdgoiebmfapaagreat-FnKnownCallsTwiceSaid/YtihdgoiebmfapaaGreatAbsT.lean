import Derived.Test.YtihdgoiebmfapaaGreatAbsP
set_option linter.all false
namespace Go.Abs
open Go
variable {P : Program} {F : Nat -> Prop} {os : List Own} {s : St} {a : Act} {w : World} {k : Nat}
def Y9 (m:Nat):AV->Bool
 | .own id _ _|.ptr id _ _ _=>decide (id<m)
 | .fn ..|.agg _|.Dm _=>false
 | _=>true
def under (m:Nat):AV->Bool
 | .fn _ cs|.agg cs|.Dm cs=>cs.all (Y9 m)
 | v=>Y9 m v
section
variable {ops : Array Oper} {Q : Exit -> St -> Prop} {ds : List (Option Tmp)} {r : List Oper} {n : Nat} {e : Nat -> AV} {st st' : List Row} {ty : TypeId} {ps : String} {ed : Array Edge} {d : Option Tmp} {v v' : AV} {gd : Option (Nat × Bool)}
variable {f : FuncId} {mT : Array Operand} {ts : Array TypeId} {args : List AV} {rows0 rows1 rows2 rest : List Row}
end
def Cc (sel:List Nat)(row:Row):Row:={ row with xs:=row.xs.map (·.map (JE sel)) }
theorem Wk.bj {n:Nat}{e:Nat->AV}{st:List Row}(sel:List Nat)(hk:sel.take k=List.range k)(mh:sel.Nodup)(lh :∀i∈sel,i<st.length)(hl:Ho ((CT st sel).map (Cc sel))):
  Wk k ⟨n,e,st⟩ ⟨n,λt=>Je sel (e t),(CT st sel).map (Cc sel)⟩:=λF os a w hr=>by
 have hlen:st.length=os.length:=hr.len;have ng :∀i,i<k->sel[i]?=some i:=λi hi=>by
  have h1:(sel.take k)[i]?=some i:=by rw[hk];simp[hi]
  rw[gR]at h1;simpa [hi] using h1
 have oF:∀(j id:Nat),sel[j]?=some id->(sel.filterMap (os[·]?))[j]?=os[id]?:=by
  have :∀(l:List Nat),(∀i∈l,i<os.length)->∀(j id:Nat),l[j]?=some id->(l.filterMap (os[·]?))[j]?=os[id]?:=λl=>by
   induction l with
   | nil=>intro _ j id h;simp at h
   | cons i l ih=>
    intro hl j id h;have hi:=hl i (by simp);rw[iU,fm hi];cases j with
    | zero=>simp only[gQ,ff]at h;subst h;simp[fm hi]
    | succ j=>simp only[gZ]at h⊢;exact ih (λx hx=>hl x (by simp[hx])) j id h
  exact this sel (λi hi=>by rw[<- hlen];exact lh i hi)
 let so:Own->Own:=λo=>{ o with row:=Cc sel o.row }
 let os2:=(sel.filterMap (os[·]?)).map so
 have rZ:(sel.filterMap (os[·]?)).length=sel.length:=by
  have :∀(l:List Nat),(∀i∈l,i<os.length)->(l.filterMap (os[·]?)).length=l.length:=λl=>by
   induction l with
   | nil=>simp
   | cons i l ih=>intro hl;rw[iU,fm (hl i (by simp))];simp[ih (λx hx=>hl x (by simp[hx]))]
  exact this sel (λi hi=>by rw[<- hlen];exact lh i hi)
 have lW:∀(j:Nat) (o:Own),os2[j]?=some o->∃id o0,sel[j]?=some id/\os[id]?=some o0/\o=so o0:=λj o h=>by
  simp only[os2,fg,fp]at h;obtain⟨o0,h0,rfl⟩:=h;have hj:j<sel.length:=by rw[<- rZ];exact (fe.1 h0).1
  refine⟨sel[j],o0,fm hj,?_,rfl⟩;rw[<- oF j _ (fm hj)];exact h0
 have rH:∀x v,Ae F w os x v->Ae F w os2 (H4 sel x) v:=λx v h=>by
  have qb:∀id j,idx sel id=some j->os2[j]?=(os[id]?).map so:=λid j hj=>by
   unfold idx at hj;rw[ib]at hj;obtain⟨h1,h2,_⟩:=hj;simp only[os2,fg];rw[oF j id (by rw[fm h1];simpa using h2)]
  cases x with
  | own id g n=>
   simp only[H4];split
   ·rename_i j hj;simp only[Ae]at h⊢;obtain⟨o,h1,h2,h3,h4⟩:=h;exact⟨so o,by rw[qb id j hj,h1];rfl,h2,h3,λhg=>by
     obtain⟨a1,a2⟩:=h4 hg;exact⟨by simpa [so,Cc] using a1,by simpa [so,Cc] using a2⟩⟩
   ·simp[Ae]
  | ptr id g i off=>
   simp only[H4];split
   ·rename_i j hj;simp only[Ae]at h⊢;obtain⟨o,h1,h2,h3,h4⟩:=h;exact⟨so o,by rw[qb id j hj,h1];rfl,h2,h3,λhg=>by
     obtain⟨a1,a2,a3⟩:=h4 hg;exact⟨by simpa [so,Cc] using a1,a2,a3⟩⟩
   ·simp[Ae]
  | fn f cs=>simp[H4,Ae]
  | agg cs=>simp[H4,Ae]
  | Dm cs=>simp[H4,Ae]
  | _=>simp only[H4,Ae]at h⊢<;>exact h
 have oG:∀x v,Ae F w os x v->Ae F w os2 (JE sel x) v:=Kq rH;have oH:∀cs us,Br F w os cs us->Br F w os2 (cs.map (JE sel)) us:=λcs us h=>
  DV (by simp[BW h]) λi x u hx hu=>by
   simp only[fg,fp]at hx;obtain⟨y,hy,rfl⟩:=hx;obtain⟨u',nC,mc⟩:=CJ h i y hy;rw[nC]at hu;cases hu;exact oG _ _ mc
 have sw:∀x v,Ae F w os x v->Ae F w os2 (Je sel x) v:=λx v h=>by
  cases x with
  | fn f cs=>simp only[Je,Ae]at h⊢;obtain⟨us,e,hl⟩:=h;exact⟨us,e,oH _ _ hl⟩
  | agg cs=>simp only[Je,Ae]at h⊢;obtain⟨us,e,hl⟩:=h;exact⟨us,e,oH _ _ hl⟩
  | Dm cs=>simp only[Je,Ae]at h⊢;obtain⟨us,e,hl⟩:=h;exact⟨us,e,oH _ _ hl⟩
  | _=>exact oG _ _ h
 have px:os2.map Own.row=(CT st sel).map (Cc sel):=by
  have h0:os.map Own.row=st:=hr.st;simp only[os2,CT,<- h0,iP,jz];congr 1;funext i;simp only[fg];cases os[i]?<;>rfl
 refine⟨F,os2,⟨px,λt=>sw _ _ (hr.env t),hr.size,λj o ho=>?_,λi j oi oj b hi hj nD nE=>?_,hr.GG,hr.defers⟩,⟨rfl,rfl,rfl,gA _,λ_ h=>h,λ_ _=>rfl,λb _ h1 h2=>⟨rfl,h1,λo ho=>?_⟩,λi o hi ho=>⟨so o,?_,gA _,rfl,λ_=>⟨rfl,rfl,by simp[so,Cc]⟩⟩⟩⟩
 ·have lQ:o.row∈(CT st sel).map (Cc sel):=by rw[<- px];exact gC.2 ⟨o,fc ho,rfl⟩
  obtain⟨id,o0,oT,ho0,rfl⟩:=lW j o ho;have lU:=hr.rows id o0 ho0;refine⟨lU.pos,λx hx=>⟨?_,hl _ lQ x hx⟩,λhb=>?_,λb hb=>?_,lU.mo,lU.deep.mapped (JE sel) (λ_ _ _ _ h=>XF h) rfl rfl rfl rfl⟩
  ·simp only[so,Cc,gC]at hx;obtain⟨y,hy,rfl⟩:=hx;simpa [so,Cc] using (lU.lens y hy).1
  ·obtain⟨h1,h2⟩:=lU.none hb;exact⟨by simp[so,Cc,h1],h2⟩
  ·obtain⟨h1,cur,h2,h3,h4,h5,h6⟩:=lU.some b hb;refine⟨h1,cur,h2,h3,by simpa [so,Cc] using h4,h5,λi x hx j' c hc=>?_⟩;simp only[so,Cc,fg,fp]at hx;obtain⟨y,hy,rfl⟩:=hx;simp only[fg,fp]at hc;obtain⟨c0,nO,rfl⟩:=hc;obtain⟨u,e1,e2⟩:=h6 i y hy j' c0 nO;exact⟨u,e1,oG _ _ e2⟩
 ·obtain⟨id,o0,oT,ho0,rfl⟩:=lW i oi hi;obtain⟨mG,o0',hid',ho0',rfl⟩:=lW j oj hj;have he:=hr.inj id mG o0 o0' b ho0 ho0' nD nE;subst he;obtain⟨ra,rp⟩:=fe.1 oT;obtain⟨pq,qK⟩:=fe.1 hid';have hp:=jT.1 mh;rcases iH i j with h|h|h
  ·exact absurd (rp.trans qK.symm) (hp i j ra pq h)
  ·exact h
  ·exact absurd (qK.trans rp.symm) (hp j i pq ra h)
 ·simp only[os2,gC,hU]at ho;obtain⟨o0,⟨i,_,hi⟩,rfl⟩:=ho;exact h2 o0 (fc hi)
 ·simp only[os2,fg];rw[oF i i (ng i hi),ho];rfl
theorem QS {n:Nat}{e:Nat->AV}{st st':List Row}{L:List (Nat×AV)}(sel:List Nat)(hk:sel.take k=List.range k)(mh:sel.Nodup)(lh:sel.all (·<st.length)=true)
  (lp:(CT st sel).map (Cc sel)=st') (hl:Ho st') (h:ME (λt=>Je sel (e t)) L):Wk k ⟨n,e,st⟩ ⟨n,Aa L,st'⟩:=by
 subst lp;exact (Wk.bj sel hk mh (λi hi=>by simpa using fk.1 lh i hi) hl).trans (Ag h)
inductive SR (sel:List Nat):List Row->List Row->Prop
 | nil:SR sel [] []
 | deep {g size:Nat} {el:TypeId} {xs:List (List AV)} {r r':List Row} (hp:Cp xs) (hl:SR sel r r'):SR sel (⟨g,el,size,xs⟩::r) (⟨g,el,size,xs⟩::r')
 | raw {g size:Nat} {el:TypeId} {cs cs':List AV} {r r':List Row} (hc:cs.map (JE sel)=cs') (hp:cs'.all AV.leaf=true) (hl:SR sel r r'):SR sel (⟨g,el,size,[cs]⟩::r) (⟨g,el,size,[cs']⟩::r')
 | hol {g size i:Nat} {el:TypeId} {zs:List (List AV)} {x x':List AV} {r r':List Row} (hp:Cp zs) (hz :∀z∈zs,z.all AV.kept=true) (hc:x.map (JE sel)=x') (hk:x'.all AV.kept=true) (hl:SR sel r r'):SR sel (⟨g,el,size,zs.set i x⟩::r) (⟨g,el,size,zs.set i x'⟩::r')
theorem SR.pure {sel:List Nat}{g size:Nat}{el:TypeId}{xs:List (List AV)}{r r':List Row}(hp:Dz xs)(hl:SR sel r r'):SR sel (⟨g,el,size,xs⟩::r) (⟨g,el,size,xs⟩::r'):=.deep hp.any hl
theorem KZ {sel:List Nat}{c:AV}(h:EY c=true):JE sel c=c:=by cases c<;>simp[EY,simple,JE,two,H4]at h⊢
theorem SR.spec {sel:List Nat}{st0:List Row}(hle :∀row∈st0,∀x∈row.xs,∀c∈x,c.kept=true):∀{l l':List Row},SR sel l l'->(∀row∈l,row∈st0)->l.map (Cc sel)=l'/\Ho l'
 | _,_,.nil,_=>⟨rfl,λ_ h=>by cases h⟩
 | _,_,.deep hp hl,hm=>by
  obtain⟨h1,h2⟩:=SR.spec hle hl (λrow h=>hm row (gw _ h));have mQ:=hle _ (hm _ (iI ..));refine⟨?_,?_⟩
  ·simp only[gP,h1];congr 1;simp only[Cc];congr 1;refine (gO (g:=id) λx hx=>?_).trans (hZ _);refine (gO (g:=id) λc hc=>?_).trans (hZ _);exact KZ (hp x hx c hc)
  ·intro row lQ;rcases fu.1 lQ with rfl|h
   ·exact mQ
   ·exact h2 row h
 | _,_,.raw hc hp hl,hm=>by
  obtain⟨h1,h2⟩:=SR.spec hle hl (λrow h=>hm row (gw _ h));refine⟨?_,?_⟩
  ·simp only[gP,h1,Cc,iQ,hc]
  ·intro row lQ;rcases fu.1 lQ with rfl|h
   ·intro x hx c qq;simp only[gB]at hx;subst hx;exact Dr (fk.1 hp c qq)
   ·exact h2 row h
 | _,_,.hol (zs:=zs) (i:=i) hp hz hc hk hl,hm=>by
  obtain⟨h1,h2⟩:=SR.spec hle hl (λrow h=>hm row (gw _ h));refine⟨?_,?_⟩
  ·simp only[gP,h1,Cc,iX,hc];congr 3;refine (gO (g:=id) λx hx=>?_).trans (hZ _);refine (gO (g:=id) λc hc=>?_).trans (hZ _);exact KZ (hp x hx c hc)
  ·intro row lQ;rcases fu.1 lQ with rfl|h
   ·intro x hx c qq;rcases gp hx with hx|rfl
    ·exact fk.1 (hz x hx) c qq
    ·exact fk.1 hk c qq
   ·exact h2 row h
theorem LY {n:Nat}{e:Nat->AV}{st:List Row}(hr:Rel F os ⟨n,e,st⟩ a w):∀row∈st,∀x∈row.xs,∀c∈x,c.kept=true:=λrow lQ x hx c hc=>by
 have lp:=hr.st;simp only at lp;rw[<- lp]at lQ;obtain⟨o,ho,rfl⟩:=gC.1 lQ;obtain⟨i,hi⟩:=gG.1 ho;exact ((hr.rows i o hi).lens x hx).2 c hc
def Td (id g:Nat):AV->AV
 | .own mG g' n=>if mG=id/\g'=g then .own id (g+1) n else .own mG g' n
 | .ptr mG g' i off=>if mG=id/\g'=g then .ptr id (g+1) i off else .ptr mG g' i off
 | .fn ..|.agg _|.Dm _=>.E2
 | v=>v
def Ri (id g:Nat)(x:AV):AV:=two (Td id g) x
theorem cZ {id g:Nat}{c:AV}{el s:Nat}{ys:List (List AV)}(h:Ri id g c=.dv el s ys):c=.dv el s ys:=by
 refine Q8 (X:=Td id g) (λc h=>?_) h;cases c<;>simp only[Td]at h<;>first|exact h|cases h|(repeat' split at h)<;>first|cases h|exact h
def bp (id g:Nat):AV->AV
 | .fn f cs=>.fn f (cs.map (Ri id g))
 | .agg cs=>.agg (cs.map (Ri id g))
 | .Dm cs=>.Dm (cs.map (Ri id g))
 | v=>Ri id g v
def Mf (id g:Nat)(row:Row):Row:={ row with xs:=row.xs.map (·.map (Ri id g)) }
def ZK (row:Row):Row:={ row with gen:=row.gen+1 }
theorem Wk.dE {n:Nat}{e:Nat->AV}{st:List Row}{id:Nat}{row:Row}(lQ:st[id]?=some row)(hl:Ho (st.map (Mf id row.gen))):
  Wk k ⟨n,e,st⟩ ⟨n,λt=>bp id row.gen (e t),(st.map (Mf id row.gen)).modify id ZK⟩:=λF os a w hr=>by
 let so:Nat->Own->Own:=λi o=>{ o with row:=if i=id then ZK (Mf id row.gen o.row) else Mf id row.gen o.row }
 let os2:=os.mapIdx so
 have qc:os.map Own.row=st:=hr.st;obtain⟨oi,nm,hoir⟩ :∃o,os[id]?=some o/\o.row=row:=by
  rw[<- qc,fg,fp]at lQ;exact lQ
 have lW:∀i,os2[i]?=(os[i]?).map (so i):=λi=>by simp[os2]
 have qs:∀i o,(so i o).row.xs=o.row.xs.map (·.map (Ri id row.gen)):=λi o=>by
  simp only[so];split<;>rfl
 have lr:∀i o,(so i o).row.size=o.row.size:=λi o=>by simp only[so];split<;>rfl
 have hse:∀i o,(so i o).row.elem=o.row.elem:=λi o=>by simp only[so];split<;>rfl
 have py:∀i o,(so i o).row.gen=if i=id then o.row.gen+1 else o.row.gen:=λi o=>by simp only[so];split<;>rfl
 have tl:∀x v,Ae F w os x v->Ae F w os2 (Td id row.gen x) v:=λx v h=>by
  cases x with
  | own mG g' n'=>
   simp only[Ae]at h;obtain⟨o,h1,h2,h3,h4⟩:=h;simp only[Td];by_cases hc:mG=id/\g'=row.gen
   ·rw[fq hc];obtain⟨rfl,rfl⟩:=hc;have:o=oi:=by rw[nm]at h1;cases h1;rfl
    subst this;simp only[Ae];refine⟨so mG o,by rw[lW,nm];rfl,by rw[py];simp[hoir],h3,λ_=>?_⟩;obtain⟨a1,a2⟩:=h4 (by rw[hoir]);exact⟨by rw[qs];simpa using a1,by rw[qs,lr,gI];exact a2⟩
   ·rw[fr hc];simp only[Ae];refine⟨so mG o,by rw[lW,h1];rfl,by rw[py];split<;>omega,h3,λhg=>?_⟩;rw[py]at hg;by_cases hi:mG=id
    ·subst hi;rw[nm]at h1;cases h1;rw[fq rfl]at hg;omega
    ·rw[fr hi]at hg;obtain⟨a1,a2⟩:=h4 hg;exact⟨by rw[qs];simpa using a1,by rw[qs,lr,gI];exact a2⟩
  | ptr mG g' i' off=>
   simp only[Ae]at h;obtain⟨o,h1,h2,h3,h4⟩:=h;simp only[Td];by_cases hc:mG=id/\g'=row.gen
   ·rw[fq hc];obtain⟨rfl,rfl⟩:=hc;have:o=oi:=by rw[nm]at h1;cases h1;rfl
    subst this;simp only[Ae];refine⟨so mG o,by rw[lW,nm];rfl,by rw[py];simp[hoir],h3,λ_=>?_⟩;obtain⟨a1,a2,a3⟩:=h4 (by rw[hoir]);exact⟨by rw[qs];simpa using a1,by rw[lr];exact a2,by rw[lr];exact a3⟩
   ·rw[fr hc];simp only[Ae];refine⟨so mG o,by rw[lW,h1];rfl,by rw[py];split<;>omega,h3,λhg=>?_⟩;rw[py]at hg;by_cases hi:mG=id
    ·subst hi;rw[nm]at h1;cases h1;rw[fq rfl]at hg;omega
    ·rw[fr hi]at hg;obtain⟨a1,a2,a3⟩:=h4 hg;exact⟨by rw[qs];simpa using a1,by rw[lr];exact a2,by rw[lr];exact a3⟩
  | fn f mP=>simp[Td,Ae]
  | agg cs=>simp[Td,Ae]
  | Dm cs=>simp[Td,Ae]
  | _=>simp only[Td,Ae]at h⊢<;>exact h
 have wK:∀x v,Ae F w os x v->Ae F w os2 (Ri id row.gen x) v:=Kq tl;have wx:∀cs us,Br F w os cs us->Br F w os2 (cs.map (Ri id row.gen)) us:=λcs us h=>
  DV (by simp[BW h]) λi x u hx hu=>by
   simp only[fg,fp]at hx;obtain⟨y,hy,rfl⟩:=hx;obtain⟨u',nC,mc⟩:=CJ h i y hy;rw[nC]at hu;cases hu;exact wK _ _ mc
 have hb:∀x v,Ae F w os x v->Ae F w os2 (bp id row.gen x) v:=λx v h=>by
  cases x with
  | fn f cs=>simp only[bp,Ae]at h⊢;obtain⟨us,e,hl⟩:=h;exact⟨us,e,wx _ _ hl⟩
  | agg cs=>simp only[bp,Ae]at h⊢;obtain⟨us,e,hl⟩:=h;exact⟨us,e,wx _ _ hl⟩
  | Dm cs=>simp only[bp,Ae]at h⊢;obtain⟨us,e,hl⟩:=h;exact⟨us,e,wx _ _ hl⟩
  | _=>exact wK _ _ h
 have rv:os2.map Own.row=(st.map (Mf id row.gen)).modify id ZK:=by
  apply iu;intro i;rw[fg,lW,List.getElem?_modify,fg,<- qc,fg];cases os[i]? with
  | none=>rfl
  | some o=>
   simp only[gu,so];by_cases hi:i=id
   ·simp[hi]
   ·have:¬ id=i:=λh=>hi h.symm;simp[hi,this]
 refine⟨F,os2,⟨rv,λt=>hb _ _ (hr.env t),hr.size,λi o ho=>?_,λi j qd uz b hi hj nD nE=>?_,hr.GG,hr.defers⟩,⟨rfl,rfl,rfl,gA _,λ_ h=>h,λ_ _=>rfl,λb _ h1 h2=>⟨rfl,h1,λo ho=>?_⟩,λi o hi ho=>⟨so i o,by rw[lW,ho];rfl,by rw[py];split<;>omega,lr i o,λ_=>⟨rfl,rfl,by rw[qs];simp⟩⟩⟩⟩
 ·rw[lW,fp]at ho;obtain⟨o0,ho0,rfl⟩:=ho;have lU:=hr.rows i o0 ho0;have hm:Mf id row.gen o0.row∈st.map (Mf id row.gen):=gC.2 ⟨o0.row,by rw[<- qc];exact gC.2 ⟨o0,fc ho0,rfl⟩,rfl⟩;refine⟨by rw[lr];exact lU.pos,λx hx=>?_,λpb=>?_,λb wy=>?_,lU.mo,lU.deep.mapped (Ri id row.gen) (λ_ _ _ _ h=>cZ h) rfl rfl (lr _ _) (qs _ _)⟩
  ·rw[qs]at hx;refine⟨?_,hl _ hm x hx⟩;obtain⟨y,hy,rfl⟩:=gC.1 hx;rw[lr,gI];exact (lU.lens y hy).1
  ·obtain⟨h1,h2⟩:=lU.none pb;exact⟨by rw[qs,h1];rfl,h2⟩
  ·obtain⟨h1,cur,h2,h3,h4,h5,h6⟩:=lU.some b wy;refine⟨h1,cur,by rw[hse];exact h2,by rw[lr];exact h3,by rw[qs,gI];exact h4,h5,λi' x hx j c hc=>?_⟩;rw[qs,fg,fp]at hx;obtain⟨y,hy,rfl⟩:=hx;rw[fg,fp]at hc;obtain⟨c0,nO,rfl⟩:=hc;obtain⟨u,e1,e2⟩:=h6 i' y hy j c0 nO;exact⟨u,by rw[lr];exact e1,wK _ _ e2⟩
 ·rw[lW,fp]at hi hj;obtain⟨o1,uw,rfl⟩:=hi;obtain⟨o2,pc,rfl⟩:=hj;exact hr.inj i j o1 o2 b uw pc nD nE
 ·obtain⟨i,hi⟩:=gG.1 ho;rw[lW,fp]at hi;obtain⟨o0,h0,rfl⟩:=hi;exact h2 o0 (fc h0)
inductive BR (id g:Nat):List Row->List Row->Prop
 | nil:BR id g [] []
 | deep {g' size:Nat} {el:TypeId} {xs:List (List AV)} {r r':List Row} (hp:Cp xs) (hl:BR id g r r'):BR id g (⟨g',el,size,xs⟩::r) (⟨g',el,size,xs⟩::r')
 | raw {g' size:Nat} {el:TypeId} {cs cs':List AV} {r r':List Row} (hc:cs.map (Ri id g)=cs') (hp:cs'.all AV.leaf=true) (hl:BR id g r r'):BR id g (⟨g',el,size,[cs]⟩::r) (⟨g',el,size,[cs']⟩::r')
theorem BR.pure {id g g' size:Nat}{el:TypeId}{xs:List (List AV)}{r r':List Row}(hp:Dz xs)(hl:BR id g r r'):BR id g (⟨g',el,size,xs⟩::r) (⟨g',el,size,xs⟩::r'):=.deep hp.any hl
theorem Vy {id g:Nat}{c:AV}(h:EY c=true):Ri id g c=c:=by cases c<;>simp[EY,simple,Ri,two,Td]at h⊢
theorem BR.spec {id g:Nat}{st0:List Row}(hle :∀row∈st0,∀x∈row.xs,∀c∈x,c.kept=true):∀{l l':List Row},BR id g l l'->(∀row∈l,row∈st0)->l.map (Mf id g)=l'/\Ho l'
 | _,_,.nil,_=>⟨rfl,λ_ h=>by cases h⟩
 | _,_,.deep hp hl,hm=>by
  obtain⟨h1,h2⟩:=BR.spec hle hl (λrow h=>hm row (gw _ h));have mQ:=hle _ (hm _ (iI ..));refine⟨?_,?_⟩
  ·simp only[gP,h1];congr 1;simp only[Mf];congr 1;refine (gO (g:=λx=>x) λx hx=>?_).trans (hZ _);refine (gO (g:=λx=>x) λc hc=>?_).trans (hZ _);exact Vy (hp x hx c hc)
  ·intro row lQ;rcases fu.1 lQ with rfl|h
   ·exact mQ
   ·exact h2 row h
 | _,_,.raw hc hp hl,hm=>by
  obtain⟨h1,h2⟩:=BR.spec hle hl (λrow h=>hm row (gw _ h));refine⟨?_,?_⟩
  ·simp only[gP,h1,Mf,iQ,hc]
  ·intro row lQ;rcases fu.1 lQ with rfl|h
   ·intro x hx c qq;simp only[gB]at hx;subst hx;exact Dr (fk.1 hp c qq)
   ·exact h2 row h
theorem Ls {n:Nat}{e:Nat->AV}{st st1 st':List Row}{L:List (Nat×AV)}(id:Nat){row:Row}(lQ:st[id]?=some row)(hb:BR id row.gen st st1)(lp:st1.modify id ZK=st')(h:ME (λt=>bp id row.gen (e t)) L):Wk k ⟨n,e,st⟩ ⟨n,Aa L,st'⟩:=λF os a w hr=>by
 obtain⟨h1,h2⟩:=hb.spec (st0:=st) (LY hr) (λ_ h=>h);have h3:=Wk.dE (k:=k) (n:=n) (e:=e) lQ (by rw[h1];exact h2);rw[h1,lp]at h3;exact (h3.trans (Ag h)) F os a w hr
def TW (m:Nat)(st:List Row):AV->AV
 | .own id g n=>if id<m then .own id g n else match st[id]? with
  | some row=>if row.gen=g then .own id 0 n else .E2
  | none=>.E2
 | .ptr id g i off=>if id<m then .ptr id g i off else match st[id]? with
  | some row=>if row.gen=g then .ptr id 0 i off else .E2
  | none=>.E2
 | .fn ..|.agg _|.Dm _=>.E2
 | v=>v
def Sx (m:Nat)(st:List Row)(x:AV):AV:=two (TW m st) x
theorem bu {m:Nat}{st:List Row}{c:AV}{el s:Nat}{ys:List (List AV)}(h:Sx m st c=.dv el s ys):c=.dv el s ys:=by
 refine Q8 (X:=TW m st) (λc h=>?_) h;cases c<;>simp only[TW]at h<;>first|exact h|cases h|(repeat' split at h)<;>first|cases h|exact h
def rk (m:Nat)(st:List Row):AV->AV
 | .fn f cs=>.fn f (cs.map (Sx m st))
 | .agg cs=>.agg (cs.map (Sx m st))
 | .Dm cs=>.Dm (cs.map (Sx m st))
 | v=>Sx m st v
def Fh (m:Nat)(st:List Row)(i:Nat)(row:Row):Row:={ row with gen:=if i<m then row.gen else 0,xs:=row.xs.map (·.map (Sx m st)) }
theorem Wk.cj {n:Nat}{e:Nat->AV}{st:List Row}(hl:Ho (st.mapIdx (Fh k st))):Wk k ⟨n,e,st⟩ ⟨n,λt=>rk k st (e t),st.mapIdx (Fh k st)⟩:=λF os a w hr=>by
 let so:Nat->Own->Own:=λi o=>{ o with row:=Fh k st i o.row }
 let os2:=os.mapIdx so
 have qc:os.map Own.row=st:=hr.st;have lW:∀i,os2[i]?=(os[i]?).map (so i):=λi=>by simp[os2]
 have hs:∀{id:Nat} {o:Own},os[id]?=some o->st[id]?=some o.row:=λ{id o} ho=>by rw[<- qc,fg,ho];rfl
 have pN :∀x v,Ae F w os x v->Ae F w os2 (TW k st x) v:=λx v h=>by
  cases x with
  | own id g n'=>
   simp only[Ae]at h;obtain⟨o,ho,hle,hsh,hv⟩:=h;simp only[TW,hs ho];by_cases hk:id<k
   ·rw[fq hk];simp only[Ae];refine⟨so id o,by rw[lW,ho];rfl,by simp only[so,Fh,hk,gb];exact hle,hsh,λhg=>?_⟩;simp only[so,Fh,hk,gb]at hg;obtain⟨a1,a2⟩:=hv hg;exact⟨by simpa [so,Fh] using a1,by simpa [so,Fh] using a2⟩
   ·rw[fr hk];split
    ·rename_i e;obtain⟨a1,a2⟩:=hv e;simp only[Ae];exact⟨so id o,by rw[lW,ho];rfl,gK _,hsh,λ_=>⟨by simpa [so,Fh] using a1,by simpa [so,Fh] using a2⟩⟩
    ·simp[Ae]
  | ptr id g i off=>
   simp only[Ae]at h;obtain⟨o,ho,hle,hsh,hv⟩:=h;simp only[TW,hs ho];by_cases hk:id<k
   ·rw[fq hk];simp only[Ae];refine⟨so id o,by rw[lW,ho];rfl,by simp only[so,Fh,hk,gb];exact hle,hsh,λhg=>?_⟩;simp only[so,Fh,hk,gb]at hg;obtain⟨a1,a2,a3⟩:=hv hg;exact⟨by simpa [so,Fh] using a1,a2,a3⟩
   ·rw[fr hk];split
    ·rename_i e;obtain⟨a1,a2,a3⟩:=hv e;simp only[Ae];exact⟨so id o,by rw[lW,ho];rfl,gK _,hsh,λ_=>⟨by simpa [so,Fh] using a1,a2,a3⟩⟩
    ·simp[Ae]
  | fn f mP=>simp[TW,Ae]
  | agg cs=>simp[TW,Ae]
  | Dm cs=>simp[TW,Ae]
  | _=>simp only[TW,Ae]at h⊢<;>exact h
 have h1:∀x v,Ae F w os x v->Ae F w os2 (Sx k st x) v:=Kq pN;have hL:∀cs us,Br F w os cs us->Br F w os2 (cs.map (Sx k st)) us:=λcs us h=>
  DV (by simp[BW h]) λi x u hx hu=>by
   simp only[fg,fp]at hx;obtain⟨y,hy,rfl⟩:=hx;obtain⟨u',nC,mc⟩:=CJ h i y hy;rw[nC]at hu;cases hu;exact h1 _ _ mc
 have hb:∀x v,Ae F w os x v->Ae F w os2 (rk k st x) v:=λx v h=>by
  cases x with
  | fn f cs=>simp only[rk,Ae]at h⊢;obtain⟨us,e,hl⟩:=h;exact⟨us,e,hL _ _ hl⟩
  | agg cs=>simp only[rk,Ae]at h⊢;obtain⟨us,e,hl⟩:=h;exact⟨us,e,hL _ _ hl⟩
  | Dm cs=>simp only[rk,Ae]at h⊢;obtain⟨us,e,hl⟩:=h;exact⟨us,e,hL _ _ hl⟩
  | _=>exact h1 _ _ h
 have rv:os2.map Own.row=st.mapIdx (Fh k st):=by
  apply iu;intro i;have e1:st[i]?=(os[i]?).map Own.row:=by rw[<- qc,fg]
  rw[fg,lW,js,e1];cases os[i]?<;>rfl
 refine⟨F,os2,⟨rv,λt=>hb _ _ (hr.env t),hr.size,λi o ho=>?_,λi j qd uz b hi hj nD nE=>?_,hr.GG,hr.defers⟩,⟨rfl,rfl,rfl,gA _,λ_ h=>h,λ_ _=>rfl,λb _ h1 h2=>⟨rfl,h1,λo ho=>?_⟩,λi o hi ho=>⟨so i o,by rw[lW,ho];rfl,by simp[so,Fh,hi],rfl,λ_=>⟨rfl,rfl,by simp[so,Fh]⟩⟩⟩⟩
 ·rw[lW,fp]at ho;obtain⟨o0,ho0,rfl⟩:=ho;have lU:=hr.rows i o0 ho0;have hm:(so i o0).row∈st.mapIdx (Fh k st):=by
   rw[<- rv];exact gC.2 ⟨so i o0,fc (by rw[lW,ho0];rfl),rfl⟩
  refine⟨lU.pos,λx hx=>⟨?_,hl _ hm x hx⟩,λpb=>?_,λb wy=>?_,lU.mo,lU.deep.mapped (Sx k st) (λ_ _ _ _ h=>bu h) rfl rfl rfl rfl⟩
  ·simp only[so,Fh,gC]at hx;obtain⟨y,hy,rfl⟩:=hx;simpa [so,Fh] using (lU.lens y hy).1
  ·obtain⟨h1,h2⟩:=lU.none pb;exact⟨by simp[so,Fh,h1],h2⟩
  ·obtain⟨g1,cur,h2,h3,h4,h5,h6⟩:=lU.some b wy;refine⟨g1,cur,h2,h3,by simpa [so,Fh] using h4,h5,λi' x hx j c hc=>?_⟩;simp only[so,Fh,fg,fp]at hx;obtain⟨y,hy,rfl⟩:=hx;simp only[fg,fp]at hc;obtain⟨c0,nO,rfl⟩:=hc;obtain⟨u,e1,e2⟩:=h6 i' y hy j c0 nO;exact⟨u,e1,h1 _ _ e2⟩
 ·rw[lW,fp]at hi hj;obtain⟨o1,uw,rfl⟩:=hi;obtain⟨o2,pc,rfl⟩:=hj;exact hr.inj i j o1 o2 b uw pc nD nE
 ·obtain⟨i,hi⟩:=gG.1 ho;rw[lW,fp]at hi;obtain⟨o0,h0,rfl⟩:=hi;exact h2 o0 (fc h0)
inductive KR (m:Nat) (st:List Row):Nat->List Row->List Row->Prop
 | nil {i:Nat}:KR m st i [] []
 | deep {i g g' size:Nat} {el:TypeId} {xs:List (List AV)} {r r':List Row} (hg:g'=if i<m then g else 0) (hp:Cp xs) (hl:KR m st (i+1) r r'):KR m st i (⟨g,el,size,xs⟩::r) (⟨g',el,size,xs⟩::r')
 | raw {i g g' size:Nat} {el:TypeId} {cs cs':List AV} {r r':List Row} (hg:g'=if i<m then g else 0) (hc:cs.map (Sx m st)=cs') (hp:cs'.all AV.leaf=true) (hl:KR m st (i+1) r r'):KR m st i (⟨g,el,size,[cs]⟩::r) (⟨g',el,size,[cs']⟩::r')
theorem KR.pure {m:Nat}{st:List Row}{i g g' size:Nat}{el:TypeId}{xs:List (List AV)}{r r':List Row}(hg:g'=if i<m then g else 0)(hp:Dz xs)(hl:KR m st (i+1) r r'):KR m st i (⟨g,el,size,xs⟩::r) (⟨g',el,size,xs⟩::r'):=.deep hg hp.any hl
theorem Wq {m:Nat}{st:List Row}{c:AV}(h:EY c=true):Sx m st c=c:=by cases c<;>simp[EY,simple,Sx,two,TW]at h⊢
theorem KR.spec {m:Nat}{st st0:List Row}(hle :∀row∈st0,∀x∈row.xs,∀c∈x,c.kept=true):∀{i:Nat} {l l':List Row},KR m st i l l'->(∀row∈l,row∈st0)->l.mapIdx (λj=>Fh m st (i+j))=l'/\Ho l'
 | _,_,_,.nil,_=>⟨rfl,λ_ h=>by cases h⟩
 | i,_,_,.deep (r:=r) hg hp hl,hm=>by
  obtain⟨h1,h2⟩:=KR.spec hle hl (λrow h=>hm row (gw _ h));have mQ:=hle _ (hm _ (iI ..));refine⟨?_,?_⟩
  ·rw[List.mapIdx_cons];have e:(λj=>Fh m st (i+(j+1)))=λj=>Fh m st (i+1+j):=by funext j;congr 1;omega
   rw[e,h1];congr 1;subst hg;simp only[Fh,jJ];congr 1;refine (gO (g:=λx=>x) λx hx=>?_).trans (hZ _);refine (gO (g:=λx=>x) λc hc=>?_).trans (hZ _);exact Wq (hp x hx c hc)
  ·intro row lQ;rcases fu.1 lQ with rfl|h
   ·exact mQ
   ·exact h2 row h
 | i,_,_,.raw hg hc hp hl,hm=>by
  obtain⟨h1,h2⟩:=KR.spec hle hl (λrow h=>hm row (gw _ h));refine⟨?_,?_⟩
  ·rw[List.mapIdx_cons];have e:(λj=>Fh m st (i+(j+1)))=λj=>Fh m st (i+1+j):=by funext j;congr 1;omega
   rw[e,h1];subst hg;simp only[Fh,jJ,gP,iQ,hc]
  ·intro row lQ;rcases fu.1 lQ with rfl|h
   ·intro x hx c qq;simp only[gB]at hx;subst hx;exact Dr (fk.1 hp c qq)
   ·exact h2 row h
theorem DB {n:Nat}{e:Nat->AV}{st st':List Row}{L:List (Nat×AV)}(hg:KR k st 0 st st')(h:ME (λt=>Abs.rk k st (e t)) L):Wk k ⟨n,e,st⟩ ⟨n,Aa L,st'⟩:=λF os a w hr=>by
 obtain⟨h1,h2⟩:=hg.spec (st0:=st) (LY hr) (λ_ h=>h);simp only[iJ]at h1;have h3:=Wk.cj (k:=k) (n:=n) (e:=e) (st:=st) (by rw[h1];exact h2);rw[h1]at h3;exact (h3.trans (Ag h)) F os a w hr
end Go.Abs
