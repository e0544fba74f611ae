import Derived.Test.YtccficmcdkcpnaaGreatAbsP
set_option linter.all false
namespace Go.Abs
open Go
variable {P : Program} {F : Nat -> Prop} {os : List Own} {s : St} {a : Act} {w : World} {k : Nat}
def gK (m:Nat):AV->Bool
 | .own id _ _|.ptr id _ _ _=>decide (id<m)
 | .fn ..|.agg _|.Dv _=>false
 | _=>true
def under (m:Nat):AV->Bool
 | .fn _ cs|.agg cs|.Dv cs=>cs.all (gK m)
 | v=>gK m v
section
variable {ops : Array Oper} {Q : Exit -> St -> Prop} {ds : List (Option Tmp)} {r : List Oper} {n : Nat} {e : Nat -> AV} {st st' : List Row} {ty : TypeId} {ps : String} {ed : Array Edge} {d : Option Tmp} {v v' : AV} {gd : Option (Nat × Bool)}
variable {f : FuncId} {vf : Array Operand} {ts : Array TypeId} {args : List AV} {rows0 rows1 rows2 rest : List Row}
end
def Cu (sel:List Nat)(row:Row):Row:={ row with xs:=row.xs.map (·.map (Jw sel)) }
theorem Wk.lP {n:Nat}{e:Nat->AV}{st:List Row}(sel:List Nat)(hk:sel.take k=List.range k)(wc:sel.Nodup)(vS :∀i∈sel,i<st.length)(hl:J6 ((CD st sel).map (Cu sel))):
  Wk k ⟨n,e,st⟩ ⟨n,λt=>Jx sel (e t),(CD st sel).map (Cu sel)⟩:=λF os a w hr=>by
 have hlen:st.length=os.length:=hr.len;have zX :∀i,i<k->sel[i]?=some i:=λi hi=>by
  have h1:(sel.take k)[i]?=some i:=by rw[hk];simp[hi]
  rw[ql]at h1;simpa [hi] using h1
 have yG:∀(j id:Nat),sel[j]?=some id->(sel.filterMap (os[·]?))[j]?=os[id]?:=by
  have :∀(l:List Nat),(∀i∈l,i<os.length)->∀(j id:Nat),l[j]?=some id->(l.filterMap (os[·]?))[j]?=os[id]?:=λl=>by
   induction l with
   | nil=>intro _ j id h;simp at h
   | cons i l ih=>
    intro hl j id h;have hi:=hl i (by simp);rw[rl,qD hi];cases j with
    | zero=>simp only[qg,pz]at h;subst h;simp[qD hi]
    | succ j=>simp only[qq]at h⊢;exact ih (λx hx=>hl x (by simp[hx])) j id h
  exact this sel (λi hi=>by rw[<- hlen];exact vS i hi)
 let so:Own->Own:=λo=>{ o with row:=Cu sel o.row }
 let os2:=(sel.filterMap (os[·]?)).map so
 have yQ:(sel.filterMap (os[·]?)).length=sel.length:=by
  have :∀(l:List Nat),(∀i∈l,i<os.length)->(l.filterMap (os[·]?)).length=l.length:=λl=>by
   induction l with
   | nil=>simp
   | cons i l ih=>intro hl;rw[rl,qD (hl i (by simp))];simp[ih (λx hx=>hl x (by simp[hx]))]
  exact this sel (λi hi=>by rw[<- hlen];exact vS i hi)
 have vJ:∀(j:Nat) (o:Own),os2[j]?=some o->∃id o0,sel[j]?=some id/\os[id]?=some o0/\o=so o0:=λj o h=>by
  simp only[os2,qA,qB]at h;obtain⟨o0,h0,rfl⟩:=h;have hj:j<sel.length:=by rw[<- yQ];exact (px.1 h0).1
  refine⟨sel[j],o0,qD hj,?_,rfl⟩;rw[<- yG j _ (qD hj)];exact h0
 have hren0:∀x v,Ac F w os x v->Ac F w os2 (Jy sel x) v:=λx v h=>by
  have hidx:∀id j,idx sel id=some j->os2[j]?=(os[id]?).map so:=λid j hj=>by
   unfold idx at hj;rw[rr]at hj;obtain⟨h1,h2,_⟩:=hj;simp only[os2,qA];rw[yG j id (by rw[qD h1];simpa using h2)]
  cases x with
  | own id g n=>
   simp only[Jy];split
   ·rename_i j hj;simp only[Ac]at h⊢;obtain⟨o,h1,h2,h3,h4⟩:=h;exact⟨so o,by rw[hidx id j hj,h1];rfl,h2,h3,λhg=>by
     obtain⟨a1,a2⟩:=h4 hg;exact⟨by simpa [so,Cu] using a1,by simpa [so,Cu] using a2⟩⟩
   ·simp[Ac]
  | ptr id g i off=>
   simp only[Jy];split
   ·rename_i j hj;simp only[Ac]at h⊢;obtain⟨o,h1,h2,h3,h4⟩:=h;exact⟨so o,by rw[hidx id j hj,h1];rfl,h2,h3,λhg=>by
     obtain⟨a1,a2,a3⟩:=h4 hg;exact⟨by simpa [so,Cu] using a1,a2,a3⟩⟩
   ·simp[Ac]
  | fn f cs=>simp[Jy,Ac]
  | agg cs=>simp[Jy,Ac]
  | Dv cs=>simp[Jy,Ac]
  | _=>simp only[Jy,Ac]at h⊢<;>exact h
 have yH:∀x v,Ac F w os x v->Ac F w os2 (Jw sel x) v:=Ng hren0;have yI:∀cs us,Bw F w os cs us->Bw F w os2 (cs.map (Jw sel)) us:=λcs us h=>
  Df (by simp[BW h]) λi x u hx hu=>by
   simp only[qA,qB]at hx;obtain⟨y,hy,rfl⟩:=hx;obtain⟨u',xB,wS⟩:=CJ h i y hy;rw[xB]at hu;cases hu;exact yH _ _ wS
 have hren:∀x v,Ac F w os x v->Ac F w os2 (Jx sel x) v:=λx v h=>by
  cases x with
  | fn f cs=>simp only[Jx,Ac]at h⊢;obtain⟨us,e,hl⟩:=h;exact⟨us,e,yI _ _ hl⟩
  | agg cs=>simp only[Jx,Ac]at h⊢;obtain⟨us,e,hl⟩:=h;exact⟨us,e,yI _ _ hl⟩
  | Dv cs=>simp only[Jx,Ac]at h⊢;obtain⟨us,e,hl⟩:=h;exact⟨us,e,yI _ _ hl⟩
  | _=>exact yH _ _ h
 have hstR:os2.map Own.row=(CD st sel).map (Cu sel):=by
  have h0:os.map Own.row=st:=hr.st;simp only[os2,CD,<- h0,ra,tS];congr 1;funext i;simp only[qA];cases os[i]?<;>rfl
 refine⟨F,os2,⟨hstR,λt=>hren _ _ (hr.env t),hr.size,λj o ho=>?_,λi j oi oj b hi hj wP xC=>?_,hr.HO,hr.defers⟩,⟨rfl,rfl,rfl,qU _,λ_ h=>h,λ_ _=>rfl,λb _ h1 h2=>⟨rfl,h1,λo ho=>?_⟩,λi o hi ho=>⟨so o,?_,qU _,rfl,λ_=>⟨rfl,rfl,by simp[so,Cu]⟩⟩⟩⟩
 ·have uj:o.row∈(CD st sel).map (Cu sel):=by rw[<- hstR];exact qT.2 ⟨o,pt ho,rfl⟩
  obtain⟨id,o0,yV,ho0,rfl⟩:=vJ j o ho;have vF:=hr.rows id o0 ho0;refine⟨vF.pos,λx hx=>⟨?_,hl _ uj x hx⟩,λhb=>?_,λb hb=>?_,vF.mo,vF.deep.mapped (Jw sel) (λ_ _ _ _ h=>bh h) rfl rfl rfl rfl⟩
  ·simp only[so,Cu,qT]at hx;obtain⟨y,hy,rfl⟩:=hx;simpa [so,Cu] using (vF.lens y hy).1
  ·obtain⟨h1,h2⟩:=vF.none hb;exact⟨by simp[so,Cu,h1],h2⟩
  ·obtain⟨h1,cur,h2,h3,h4,h5,h6⟩:=vF.some b hb;refine⟨h1,cur,h2,h3,by simpa [so,Cu] using h4,h5,λi x hx j' c hc=>?_⟩;simp only[so,Cu,qA,qB]at hx;obtain⟨y,hy,rfl⟩:=hx;simp only[qA,qB]at hc;obtain⟨c0,wZ,rfl⟩:=hc;obtain⟨u,e1,e2⟩:=h6 i y hy j' c0 wZ;exact⟨u,e1,yH _ _ e2⟩
 ·obtain⟨id,o0,yV,ho0,rfl⟩:=vJ i oi hi;obtain⟨vr,o0',hid',ho0',rfl⟩:=vJ j oj hj;have he:=hr.inj id vr o0 o0' b ho0 ho0' wP xC;subst he;obtain⟨hi1,hi2⟩:=px.1 yV;obtain⟨hj1,hj2⟩:=px.1 hid';have hp:=sj.1 wc;rcases rb i j with h|h|h
  ·exact absurd (hi2.trans hj2.symm) (hp i j hi1 hj1 h)
  ·exact h
  ·exact absurd (hj2.trans hi2.symm) (hp j i hj1 hi1 h)
 ·simp only[os2,qT,rQ]at ho;obtain⟨o0,⟨i,_,hi⟩,rfl⟩:=ho;exact h2 o0 (pt hi)
 ·simp only[os2,qA];rw[yG i i (zX i hi),ho];rfl
theorem XW {n:Nat}{e:Nat->AV}{st st':List Row}{L:List (Nat×AV)}(sel:List Nat)(hk:sel.take k=List.range k)(wc:sel.Nodup)(vS:sel.all (·<st.length)=true)
  (vX:(CD st sel).map (Cu sel)=st') (hl:J6 st') (h:ME (λt=>Jx sel (e t)) L):Wk k ⟨n,e,st⟩ ⟨n,AL L,st'⟩:=by
 subst vX;exact (Wk.lP sel hk wc (λi hi=>by simpa using qC.1 vS i hi) hl).trans (ET h)
inductive SR (sel:List Nat):List Row->List Row->Prop
 | nil:SR sel [] []
 | deep {g size:Nat} {el:TypeId} {xs:List (List AV)} {r r':List Row} (hp:DO xs) (hl:SR sel r r'):SR sel (⟨g,el,size,xs⟩::r) (⟨g,el,size,xs⟩::r')
 | raw {g size:Nat} {el:TypeId} {cs cs':List AV} {r r':List Row} (hc:cs.map (Jw sel)=cs') (hp:cs'.all AV.leaf=true) (hl:SR sel r r'):SR sel (⟨g,el,size,[cs]⟩::r) (⟨g,el,size,[cs']⟩::r')
 | raws {g size:Nat} {el:TypeId} {cs cs':List (List AV)} {r r':List Row} (hc:cs.map (λx=>x.map (Jw sel))=cs') (hp:cs'.all (λx=>x.all AV.leaf)=true) (hl:SR sel r r'):SR sel (⟨g,el,size,cs⟩::r) (⟨g,el,size,cs'⟩::r')
 | hol {g size i:Nat} {el:TypeId} {zs:List (List AV)} {x x':List AV} {r r':List Row} (hp:DO zs) (hz :∀z∈zs,z.all AV.kept=true) (hc:x.map (Jw sel)=x') (hk:x'.all AV.kept=true) (hl:SR sel r r'):SR sel (⟨g,el,size,zs.set i x⟩::r) (⟨g,el,size,zs.set i x'⟩::r')
theorem SR.pure {sel:List Nat}{g size:Nat}{el:TypeId}{xs:List (List AV)}{r r':List Row}(hp:D0 xs)(hl:SR sel r r'):SR sel (⟨g,el,size,xs⟩::r) (⟨g,el,size,xs⟩::r'):=.deep hp.any hl
theorem Pg {sel:List Nat}{c:AV}(h:Ey c=true):Jw sel c=c:=by cases c<;>simp[Ey,simple,Jw,two,Jy]at h⊢
theorem SR.spec {sel:List Nat}{st0:List Row}(hle :∀row∈st0,∀x∈row.xs,∀c∈x,c.kept=true):∀{l l':List Row},SR sel l l'->(∀row∈l,row∈st0)->l.map (Cu sel)=l'/\J6 l'
 | _,_,.nil,_=>⟨rfl,λ_ h=>by cases h⟩
 | _,_,.deep hp hl,hm=>by
  obtain⟨h1,h2⟩:=SR.spec hle hl (λrow h=>hm row (qw _ h));have vw:=hle _ (hm _ (rp ..));refine⟨?_,?_⟩
  ·simp only[qj,h1];congr 1;simp only[Cu];congr 1;refine (qk (g:=id) λx hx=>?_).trans (rZ _);refine (qk (g:=id) λc hc=>?_).trans (rZ _);exact Pg (hp x hx c hc)
  ·intro row uj;rcases qH.1 uj with rfl|h
   ·exact vw
   ·exact h2 row h
 | _,_,.raw hc hp hl,hm=>by
  obtain⟨h1,h2⟩:=SR.spec hle hl (λrow h=>hm row (qw _ h));refine⟨?_,?_⟩
  ·simp only[qj,h1,Cu,rf,hc]
  ·intro row uj;rcases qH.1 uj with rfl|h
   ·intro x hx c hcx;simp only[qO]at hx;subst hx;exact Du (qC.1 hp c hcx)
   ·exact h2 row h
 | _,_,.raws hc hp hl,hm=>by
  obtain⟨h1,h2⟩:=SR.spec hle hl (λrow h=>hm row (qw _ h));refine⟨?_,?_⟩
  ·simp only[qj,h1,Cu,hc]
  ·intro row uj;rcases qH.1 uj with rfl|h
   ·intro x hx c hcx;exact Du (qC.1 (qC.1 hp x hx) c hcx)
   ·exact h2 row h
 | _,_,.hol (zs:=zs) (i:=i) hp hz hc hk hl,hm=>by
  obtain⟨h1,h2⟩:=SR.spec hle hl (λrow h=>hm row (qw _ h));refine⟨?_,?_⟩
  ·simp only[qj,h1,Cu,rh,hc];congr 3;refine (qk (g:=id) λx hx=>?_).trans (rZ _);refine (qk (g:=id) λc hc=>?_).trans (rZ _);exact Pg (hp x hx c hc)
  ·intro row uj;rcases qH.1 uj with rfl|h
   ·intro x hx c hcx;rcases rB hx with hx|rfl
    ·exact qC.1 (hz x hx) c hcx
    ·exact qC.1 hk c hcx
   ·exact h2 row h
theorem P1 {n:Nat}{e:Nat->AV}{st:List Row}(hr:Rel F os ⟨n,e,st⟩ a w):∀row∈st,∀x∈row.xs,∀c∈x,c.kept=true:=λrow uj x hx c hc=>by
 have vX:=hr.st;simp only at vX;rw[<- vX]at uj;obtain⟨o,ho,rfl⟩:=qT.1 uj;obtain⟨i,hi⟩:=qf.1 ho;exact ((hr.rows i o hi).lens x hx).2 c hc
def Yd (id g:Nat):AV->AV
 | .own vr g' n=>if vr=id/\g'=g then .own id (g+1) n else .own vr g' n
 | .ptr vr g' i off=>if vr=id/\g'=g then .ptr id (g+1) i off else .ptr vr g' i off
 | .fn ..|.agg _|.Dv _=>.FZ
 | v=>v
def Vo (id g:Nat)(x:AV):AV:=two (Yd id g) x
theorem lZ {id g:Nat}{c:AV}{el s:Nat}{ys:List (List AV)}(h:Vo id g c=.dv el s ys):c=.dv el s ys:=by
 refine T8 (X:=Yd id g) (λc h=>?_) h;cases c<;>simp only[Yd]at h<;>first|exact h|cases h|(repeat' split at h)<;>first|cases h|exact h
def bp (id g:Nat):AV->AV
 | .fn f cs=>.fn f (cs.map (Vo id g))
 | .agg cs=>.agg (cs.map (Vo id g))
 | .Dv cs=>.Dv (cs.map (Vo id g))
 | v=>Vo id g v
def Pn (id g:Nat)(row:Row):Row:={ row with xs:=row.xs.map (·.map (Vo id g)) }
def fw (row:Row):Row:={ row with gen:=row.gen+1 }
theorem Wk.nY {n:Nat}{e:Nat->AV}{st:List Row}{id:Nat}{row:Row}(uj:st[id]?=some row)(hl:J6 (st.map (Pn id row.gen))):
  Wk k ⟨n,e,st⟩ ⟨n,λt=>bp id row.gen (e t),(st.map (Pn id row.gen)).modify id fw⟩:=λF os a w hr=>by
 let so:Nat->Own->Own:=λi o=>{ o with row:=if i=id then fw (Pn id row.gen o.row) else Pn id row.gen o.row }
 let os2:=os.mapIdx so
 have hst0:os.map Own.row=st:=hr.st;obtain⟨oi,xm,hoir⟩ :∃o,os[id]?=some o/\o.row=row:=by
  rw[<- hst0,qA,qB]at uj;exact uj
 have vJ:∀i,os2[i]?=(os[i]?).map (so i):=λi=>by simp[os2]
 have hsx:∀i o,(so i o).row.xs=o.row.xs.map (·.map (Vo id row.gen)):=λi o=>by
  simp only[so];split<;>rfl
 have vY:∀i o,(so i o).row.size=o.row.size:=λi o=>by simp only[so];split<;>rfl
 have hse:∀i o,(so i o).row.elem=o.row.elem:=λi o=>by simp only[so];split<;>rfl
 have T7:∀i o,(so i o).row.gen=if i=id then o.row.gen+1 else o.row.gen:=λi o=>by simp only[so];split<;>rfl
 have hb0:∀x v,Ac F w os x v->Ac F w os2 (Yd id row.gen x) v:=λx v h=>by
  cases x with
  | own vr g' n'=>
   simp only[Ac]at h;obtain⟨o,h1,h2,h3,h4⟩:=h;simp only[Yd];by_cases hc:vr=id/\g'=row.gen
   ·rw[qF hc];obtain⟨rfl,rfl⟩:=hc;have:o=oi:=by rw[xm]at h1;cases h1;rfl
    subst this;simp only[Ac];refine⟨so vr o,by rw[vJ,xm];rfl,by rw[T7];simp[hoir],h3,λ_=>?_⟩;obtain⟨a1,a2⟩:=h4 (by rw[hoir]);exact⟨by rw[hsx];simpa using a1,by rw[hsx,vY,qc];exact a2⟩
   ·rw[qG hc];simp only[Ac];refine⟨so vr o,by rw[vJ,h1];rfl,by rw[T7];split<;>omega,h3,λhg=>?_⟩;rw[T7]at hg;by_cases hi:vr=id
    ·subst hi;rw[xm]at h1;cases h1;rw[qF rfl]at hg;omega
    ·rw[qG hi]at hg;obtain⟨a1,a2⟩:=h4 hg;exact⟨by rw[hsx];simpa using a1,by rw[hsx,vY,qc];exact a2⟩
  | ptr vr g' i' off=>
   simp only[Ac]at h;obtain⟨o,h1,h2,h3,h4⟩:=h;simp only[Yd];by_cases hc:vr=id/\g'=row.gen
   ·rw[qF hc];obtain⟨rfl,rfl⟩:=hc;have:o=oi:=by rw[xm]at h1;cases h1;rfl
    subst this;simp only[Ac];refine⟨so vr o,by rw[vJ,xm];rfl,by rw[T7];simp[hoir],h3,λ_=>?_⟩;obtain⟨a1,a2,a3⟩:=h4 (by rw[hoir]);exact⟨by rw[hsx];simpa using a1,by rw[vY];exact a2,by rw[vY];exact a3⟩
   ·rw[qG hc];simp only[Ac];refine⟨so vr o,by rw[vJ,h1];rfl,by rw[T7];split<;>omega,h3,λhg=>?_⟩;rw[T7]at hg;by_cases hi:vr=id
    ·subst hi;rw[xm]at h1;cases h1;rw[qF rfl]at hg;omega
    ·rw[qG hi]at hg;obtain⟨a1,a2,a3⟩:=h4 hg;exact⟨by rw[hsx];simpa using a1,by rw[vY];exact a2,by rw[vY];exact a3⟩
  | fn f vp=>simp[Yd,Ac]
  | agg cs=>simp[Yd,Ac]
  | Dv cs=>simp[Yd,Ac]
  | _=>simp only[Yd,Ac]at h⊢<;>exact h
 have vz:∀x v,Ac F w os x v->Ac F w os2 (Vo id row.gen x) v:=Ng hb0;have hbL:∀cs us,Bw F w os cs us->Bw F w os2 (cs.map (Vo id row.gen)) us:=λcs us h=>
  Df (by simp[BW h]) λi x u hx hu=>by
   simp only[qA,qB]at hx;obtain⟨y,hy,rfl⟩:=hx;obtain⟨u',xB,wS⟩:=CJ h i y hy;rw[xB]at hu;cases hu;exact vz _ _ wS
 have hb:∀x v,Ac F w os x v->Ac F w os2 (bp id row.gen x) v:=λx v h=>by
  cases x with
  | fn f cs=>simp only[bp,Ac]at h⊢;obtain⟨us,e,hl⟩:=h;exact⟨us,e,hbL _ _ hl⟩
  | agg cs=>simp only[bp,Ac]at h⊢;obtain⟨us,e,hl⟩:=h;exact⟨us,e,hbL _ _ hl⟩
  | Dv cs=>simp only[bp,Ac]at h⊢;obtain⟨us,e,hl⟩:=h;exact⟨us,e,hbL _ _ hl⟩
  | _=>exact vz _ _ h
 have hst2:os2.map Own.row=(st.map (Pn id row.gen)).modify id fw:=by
  apply sX;intro i;rw[qA,vJ,List.getElem?_modify,qA,<- hst0,qA];cases os[i]? with
  | none=>rfl
  | some o=>
   simp only[qx,so];by_cases hi:i=id
   ·simp[hi]
   ·have:¬ id=i:=λh=>hi h.symm;simp[hi,this]
 refine⟨F,os2,⟨hst2,λt=>hb _ _ (hr.env t),hr.size,λi o ho=>?_,λi j oi' oj' b hi hj wP xC=>?_,hr.HO,hr.defers⟩,⟨rfl,rfl,rfl,qU _,λ_ h=>h,λ_ _=>rfl,λb _ h1 h2=>⟨rfl,h1,λo ho=>?_⟩,λi o hi ho=>⟨so i o,by rw[vJ,ho];rfl,by rw[T7];split<;>omega,vY i o,λ_=>⟨rfl,rfl,by rw[hsx];simp⟩⟩⟩⟩
 ·rw[vJ,qB]at ho;obtain⟨o0,ho0,rfl⟩:=ho;have vF:=hr.rows i o0 ho0;have hm:Pn id row.gen o0.row∈st.map (Pn id row.gen):=qT.2 ⟨o0.row,by rw[<- hst0];exact qT.2 ⟨o0,pt ho0,rfl⟩,rfl⟩;refine⟨by rw[vY];exact vF.pos,λx hx=>?_,λzj=>?_,λb hbb=>?_,vF.mo,vF.deep.mapped (Vo id row.gen) (λ_ _ _ _ h=>lZ h) rfl rfl (vY _ _) (hsx _ _)⟩
  ·rw[hsx]at hx;refine⟨?_,hl _ hm x hx⟩;obtain⟨y,hy,rfl⟩:=qT.1 hx;rw[vY,qc];exact (vF.lens y hy).1
  ·obtain⟨h1,h2⟩:=vF.none zj;exact⟨by rw[hsx,h1];rfl,h2⟩
  ·obtain⟨h1,cur,h2,h3,h4,h5,h6⟩:=vF.some b hbb;refine⟨h1,cur,by rw[hse];exact h2,by rw[vY];exact h3,by rw[hsx,qc];exact h4,h5,λi' x hx j c hc=>?_⟩;rw[hsx,qA,qB]at hx;obtain⟨y,hy,rfl⟩:=hx;rw[qA,qB]at hc;obtain⟨c0,wZ,rfl⟩:=hc;obtain⟨u,e1,e2⟩:=h6 i' y hy j c0 wZ;exact⟨u,by rw[vY];exact e1,vz _ _ e2⟩
 ·rw[vJ,qB]at hi hj;obtain⟨o1,ho1,rfl⟩:=hi;obtain⟨o2,zk,rfl⟩:=hj;exact hr.inj i j o1 o2 b ho1 zk wP xC
 ·obtain⟨i,hi⟩:=qf.1 ho;rw[vJ,qB]at hi;obtain⟨o0,h0,rfl⟩:=hi;exact h2 o0 (pt h0)
inductive BR (id g:Nat):List Row->List Row->Prop
 | nil:BR id g [] []
 | deep {g' size:Nat} {el:TypeId} {xs:List (List AV)} {r r':List Row} (hp:DO xs) (hl:BR id g r r'):BR id g (⟨g',el,size,xs⟩::r) (⟨g',el,size,xs⟩::r')
 | raw {g' size:Nat} {el:TypeId} {cs cs':List AV} {r r':List Row} (hc:cs.map (Vo id g)=cs') (hp:cs'.all AV.leaf=true) (hl:BR id g r r'):BR id g (⟨g',el,size,[cs]⟩::r) (⟨g',el,size,[cs']⟩::r')
theorem BR.pure {id g g' size:Nat}{el:TypeId}{xs:List (List AV)}{r r':List Row}(hp:D0 xs)(hl:BR id g r r'):BR id g (⟨g',el,size,xs⟩::r) (⟨g',el,size,xs⟩::r'):=.deep hp.any hl
theorem aW {id g:Nat}{c:AV}(h:Ey c=true):Vo id g c=c:=by cases c<;>simp[Ey,simple,Vo,two,Yd]at h⊢
theorem BR.spec {id g:Nat}{st0:List Row}(hle :∀row∈st0,∀x∈row.xs,∀c∈x,c.kept=true):∀{l l':List Row},BR id g l l'->(∀row∈l,row∈st0)->l.map (Pn id g)=l'/\J6 l'
 | _,_,.nil,_=>⟨rfl,λ_ h=>by cases h⟩
 | _,_,.deep hp hl,hm=>by
  obtain⟨h1,h2⟩:=BR.spec hle hl (λrow h=>hm row (qw _ h));have vw:=hle _ (hm _ (rp ..));refine⟨?_,?_⟩
  ·simp only[qj,h1];congr 1;simp only[Pn];congr 1;refine (qk (g:=λx=>x) λx hx=>?_).trans (rZ _);refine (qk (g:=λx=>x) λc hc=>?_).trans (rZ _);exact aW (hp x hx c hc)
  ·intro row uj;rcases qH.1 uj with rfl|h
   ·exact vw
   ·exact h2 row h
 | _,_,.raw hc hp hl,hm=>by
  obtain⟨h1,h2⟩:=BR.spec hle hl (λrow h=>hm row (qw _ h));refine⟨?_,?_⟩
  ·simp only[qj,h1,Pn,rf,hc]
  ·intro row uj;rcases qH.1 uj with rfl|h
   ·intro x hx c hcx;simp only[qO]at hx;subst hx;exact Du (qC.1 hp c hcx)
   ·exact h2 row h
theorem O4 {n:Nat}{e:Nat->AV}{st st1 st':List Row}{L:List (Nat×AV)}(id:Nat){row:Row}(uj:st[id]?=some row)(hb:BR id row.gen st st1)(vX:st1.modify id fw=st')(h:ME (λt=>bp id row.gen (e t)) L):Wk k ⟨n,e,st⟩ ⟨n,AL L,st'⟩:=λF os a w hr=>by
 obtain⟨h1,h2⟩:=hb.spec (st0:=st) (P1 hr) (λ_ h=>h);have h3:=Wk.nY (k:=k) (n:=n) (e:=e) uj (by rw[h1];exact h2);rw[h1,vX]at h3;exact (h3.trans (ET h)) F os a w hr
def Xb (m:Nat)(st:List Row):AV->AV
 | .own id g n=>if id<m then .own id g n else match st[id]? with
  | some row=>if row.gen=g then .own id 0 n else .FZ
  | none=>.FZ
 | .ptr id g i off=>if id<m then .ptr id g i off else match st[id]? with
  | some row=>if row.gen=g then .ptr id 0 i off else .FZ
  | none=>.FZ
 | .fn ..|.agg _|.Dv _=>.FZ
 | v=>v
def WZ (m:Nat)(st:List Row)(x:AV):AV:=two (Xb m st) x
theorem mN {m:Nat}{st:List Row}{c:AV}{el s:Nat}{ys:List (List AV)}(h:WZ m st c=.dv el s ys):c=.dv el s ys:=by
 refine T8 (X:=Xb m st) (λc h=>?_) h;cases c<;>simp only[Xb]at h<;>first|exact h|cases h|(repeat' split at h)<;>first|cases h|exact h
def rk (m:Nat)(st:List Row):AV->AV
 | .fn f cs=>.fn f (cs.map (WZ m st))
 | .agg cs=>.agg (cs.map (WZ m st))
 | .Dv cs=>.Dv (cs.map (WZ m st))
 | v=>WZ m st v
def Gh (m:Nat)(st:List Row)(i:Nat)(row:Row):Row:={ row with gen:=if i<m then row.gen else 0,xs:=row.xs.map (·.map (WZ m st)) }
theorem Wk.me {n:Nat}{e:Nat->AV}{st:List Row}(hl:J6 (st.mapIdx (Gh k st))):Wk k ⟨n,e,st⟩ ⟨n,λt=>rk k st (e t),st.mapIdx (Gh k st)⟩:=λF os a w hr=>by
 let so:Nat->Own->Own:=λi o=>{ o with row:=Gh k st i o.row }
 let os2:=os.mapIdx so
 have hst0:os.map Own.row=st:=hr.st;have vJ:∀i,os2[i]?=(os[i]?).map (so i):=λi=>by simp[os2]
 have hs:∀{id:Nat} {o:Own},os[id]?=some o->st[id]?=some o.row:=λ{id o} ho=>by rw[<- hst0,qA,ho];rfl
 have ye :∀x v,Ac F w os x v->Ac F w os2 (Xb k st x) v:=λx v h=>by
  cases x with
  | own id g n'=>
   simp only[Ac]at h;obtain⟨o,ho,hle,hsh,hv⟩:=h;simp only[Xb,hs ho];by_cases hk:id<k
   ·rw[qF hk];simp only[Ac];refine⟨so id o,by rw[vJ,ho];rfl,by simp only[so,Gh,hk,qe];exact hle,hsh,λhg=>?_⟩;simp only[so,Gh,hk,qe]at hg;obtain⟨a1,a2⟩:=hv hg;exact⟨by simpa [so,Gh] using a1,by simpa [so,Gh] using a2⟩
   ·rw[qG hk];split
    ·rename_i e;obtain⟨a1,a2⟩:=hv e;simp only[Ac];exact⟨so id o,by rw[vJ,ho];rfl,qd _,hsh,λ_=>⟨by simpa [so,Gh] using a1,by simpa [so,Gh] using a2⟩⟩
    ·simp[Ac]
  | ptr id g i off=>
   simp only[Ac]at h;obtain⟨o,ho,hle,hsh,hv⟩:=h;simp only[Xb,hs ho];by_cases hk:id<k
   ·rw[qF hk];simp only[Ac];refine⟨so id o,by rw[vJ,ho];rfl,by simp only[so,Gh,hk,qe];exact hle,hsh,λhg=>?_⟩;simp only[so,Gh,hk,qe]at hg;obtain⟨a1,a2,a3⟩:=hv hg;exact⟨by simpa [so,Gh] using a1,a2,a3⟩
   ·rw[qG hk];split
    ·rename_i e;obtain⟨a1,a2,a3⟩:=hv e;simp only[Ac];exact⟨so id o,by rw[vJ,ho];rfl,qd _,hsh,λ_=>⟨by simpa [so,Gh] using a1,a2,a3⟩⟩
    ·simp[Ac]
  | fn f vp=>simp[Xb,Ac]
  | agg cs=>simp[Xb,Ac]
  | Dv cs=>simp[Xb,Ac]
  | _=>simp only[Xb,Ac]at h⊢<;>exact h
 have h1:∀x v,Ac F w os x v->Ac F w os2 (WZ k st x) v:=Ng ye;have hL:∀cs us,Bw F w os cs us->Bw F w os2 (cs.map (WZ k st)) us:=λcs us h=>
  Df (by simp[BW h]) λi x u hx hu=>by
   simp only[qA,qB]at hx;obtain⟨y,hy,rfl⟩:=hx;obtain⟨u',xB,wS⟩:=CJ h i y hy;rw[xB]at hu;cases hu;exact h1 _ _ wS
 have hb:∀x v,Ac F w os x v->Ac F w os2 (rk k st x) v:=λx v h=>by
  cases x with
  | fn f cs=>simp only[rk,Ac]at h⊢;obtain⟨us,e,hl⟩:=h;exact⟨us,e,hL _ _ hl⟩
  | agg cs=>simp only[rk,Ac]at h⊢;obtain⟨us,e,hl⟩:=h;exact⟨us,e,hL _ _ hl⟩
  | Dv cs=>simp only[rk,Ac]at h⊢;obtain⟨us,e,hl⟩:=h;exact⟨us,e,hL _ _ hl⟩
  | _=>exact h1 _ _ h
 have hst2:os2.map Own.row=st.mapIdx (Gh k st):=by
  apply sX;intro i;have e1:st[i]?=(os[i]?).map Own.row:=by rw[<- hst0,qA]
  rw[qA,vJ,tI,e1];cases os[i]?<;>rfl
 refine⟨F,os2,⟨hst2,λt=>hb _ _ (hr.env t),hr.size,λi o ho=>?_,λi j oi' oj' b hi hj wP xC=>?_,hr.HO,hr.defers⟩,⟨rfl,rfl,rfl,qU _,λ_ h=>h,λ_ _=>rfl,λb _ h1 h2=>⟨rfl,h1,λo ho=>?_⟩,λi o hi ho=>⟨so i o,by rw[vJ,ho];rfl,by simp[so,Gh,hi],rfl,λ_=>⟨rfl,rfl,by simp[so,Gh]⟩⟩⟩⟩
 ·rw[vJ,qB]at ho;obtain⟨o0,ho0,rfl⟩:=ho;have vF:=hr.rows i o0 ho0;have hm:(so i o0).row∈st.mapIdx (Gh k st):=by
   rw[<- hst2];exact qT.2 ⟨so i o0,pt (by rw[vJ,ho0];rfl),rfl⟩
  refine⟨vF.pos,λx hx=>⟨?_,hl _ hm x hx⟩,λzj=>?_,λb hbb=>?_,vF.mo,vF.deep.mapped (WZ k st) (λ_ _ _ _ h=>mN h) rfl rfl rfl rfl⟩
  ·simp only[so,Gh,qT]at hx;obtain⟨y,hy,rfl⟩:=hx;simpa [so,Gh] using (vF.lens y hy).1
  ·obtain⟨h1,h2⟩:=vF.none zj;exact⟨by simp[so,Gh,h1],h2⟩
  ·obtain⟨g1,cur,h2,h3,h4,h5,h6⟩:=vF.some b hbb;refine⟨g1,cur,h2,h3,by simpa [so,Gh] using h4,h5,λi' x hx j c hc=>?_⟩;simp only[so,Gh,qA,qB]at hx;obtain⟨y,hy,rfl⟩:=hx;simp only[qA,qB]at hc;obtain⟨c0,wZ,rfl⟩:=hc;obtain⟨u,e1,e2⟩:=h6 i' y hy j c0 wZ;exact⟨u,e1,h1 _ _ e2⟩
 ·rw[vJ,qB]at hi hj;obtain⟨o1,ho1,rfl⟩:=hi;obtain⟨o2,zk,rfl⟩:=hj;exact hr.inj i j o1 o2 b ho1 zk wP xC
 ·obtain⟨i,hi⟩:=qf.1 ho;rw[vJ,qB]at hi;obtain⟨o0,h0,rfl⟩:=hi;exact h2 o0 (pt h0)
inductive KR (m:Nat) (st:List Row):Nat->List Row->List Row->Prop
 | nil {i:Nat}:KR m st i [] []
 | deep {i g g' size:Nat} {el:TypeId} {xs:List (List AV)} {r r':List Row} (hg:g'=if i<m then g else 0) (hp:DO xs) (hl:KR m st (i+1) r r'):KR m st i (⟨g,el,size,xs⟩::r) (⟨g',el,size,xs⟩::r')
 | raw {i g g' size:Nat} {el:TypeId} {cs cs':List AV} {r r':List Row} (hg:g'=if i<m then g else 0) (hc:cs.map (WZ m st)=cs') (hp:cs'.all AV.leaf=true) (hl:KR m st (i+1) r r'):KR m st i (⟨g,el,size,[cs]⟩::r) (⟨g',el,size,[cs']⟩::r')
theorem KR.pure {m:Nat}{st:List Row}{i g g' size:Nat}{el:TypeId}{xs:List (List AV)}{r r':List Row}(hg:g'=if i<m then g else 0)(hp:D0 xs)(hl:KR m st (i+1) r r'):KR m st i (⟨g,el,size,xs⟩::r) (⟨g',el,size,xs⟩::r'):=.deep hg hp.any hl
theorem aS {m:Nat}{st:List Row}{c:AV}(h:Ey c=true):WZ m st c=c:=by cases c<;>simp[Ey,simple,WZ,two,Xb]at h⊢
theorem KR.spec {m:Nat}{st st0:List Row}(hle :∀row∈st0,∀x∈row.xs,∀c∈x,c.kept=true):∀{i:Nat} {l l':List Row},KR m st i l l'->(∀row∈l,row∈st0)->l.mapIdx (λj=>Gh m st (i+j))=l'/\J6 l'
 | _,_,_,.nil,_=>⟨rfl,λ_ h=>by cases h⟩
 | i,_,_,.deep (r:=r) hg hp hl,hm=>by
  obtain⟨h1,h2⟩:=KR.spec hle hl (λrow h=>hm row (qw _ h));have vw:=hle _ (hm _ (rp ..));refine⟨?_,?_⟩
  ·rw[List.mapIdx_cons];have e:(λj=>Gh m st (i+(j+1)))=λj=>Gh m st (i+1+j):=by funext j;congr 1;omega
   rw[e,h1];congr 1;subst hg;simp only[Gh,tC];congr 1;refine (qk (g:=λx=>x) λx hx=>?_).trans (rZ _);refine (qk (g:=λx=>x) λc hc=>?_).trans (rZ _);exact aS (hp x hx c hc)
  ·intro row uj;rcases qH.1 uj with rfl|h
   ·exact vw
   ·exact h2 row h
 | i,_,_,.raw hg hc hp hl,hm=>by
  obtain⟨h1,h2⟩:=KR.spec hle hl (λrow h=>hm row (qw _ h));refine⟨?_,?_⟩
  ·rw[List.mapIdx_cons];have e:(λj=>Gh m st (i+(j+1)))=λj=>Gh m st (i+1+j):=by funext j;congr 1;omega
   rw[e,h1];subst hg;simp only[Gh,tC,qj,rf,hc]
  ·intro row uj;rcases qH.1 uj with rfl|h
   ·intro x hx c hcx;simp only[qO]at hx;subst hx;exact Du (qC.1 hp c hcx)
   ·exact h2 row h
theorem CS {n:Nat}{e:Nat->AV}{st st':List Row}{L:List (Nat×AV)}(hg:KR k st 0 st st')(h:ME (λt=>Abs.rk k st (e t)) L):Wk k ⟨n,e,st⟩ ⟨n,AL L,st'⟩:=λF os a w hr=>by
 obtain⟨h1,h2⟩:=hg.spec (st0:=st) (P1 hr) (λ_ h=>h);simp only[rT]at h1;have h3:=Wk.me (k:=k) (n:=n) (e:=e) (st:=st) (by rw[h1];exact h2);rw[h1]at h3;exact (h3.trans (ET h)) F os a w hr
end Go.Abs
