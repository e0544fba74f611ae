import Derived.Test.YtihdgoiebmfapaaGreatAbsP
namespace Go.Abs
open Go
variable {P : Program} {F : Nat -> Prop} {os : List Own} {s : St} {a : Act} {w : World} {k : Nat}
def bX (m:Nat):AV->Bool
 | .own id _ _|.ptr id _ _ _=>decide (id<m)
 | .fn ..|.agg _|.Dw _=>false
 | _=>true
def under (m:Nat):AV->Bool
 | .fn _ cs|.agg cs|.Dw cs=>cs.all (bX m)
 | v=>bX m v
section
variable {ops : Array Oper} {Q : Exit -> St -> Prop} {ds : List (Option Tmp)} {r : List Oper} {n : Nat} {e : Nat -> AV} {st st' : List Row} {ty : TypeId} {ps : String} {ed : Array Edge} {d : Option Tmp} {v v' : AV} {gd : Option (Nat × Bool)}
variable {f : FuncId} {ars : Array Operand} {ts : Array TypeId} {args : List AV} {rows0 rows1 rows2 rest : List Row}
end
def Ck (sel:List Nat)(row:Row):Row:={ row with xs:=row.xs.map (·.map (KD sel)) }
theorem Wk.dh {n:Nat}{e:Nat->AV}{st:List Row}(sel:List Nat)(hk:sel.take k=List.range k)(hnd:sel.Nodup)(hlt :∀i∈sel,i<st.length)(hl:Ie ((Cb st sel).map (Ck sel))):
  Wk k ⟨n,e,st⟩ ⟨n,λt=>KB sel (e t),(Cb st sel).map (Ck sel)⟩:=λF os a w hr=>by
 have hlen:st.length=os.length:=hr.len;have hk' :∀i,i<k->sel[i]?=some i:=λi hi=>by
  have h1:(sel.take k)[i]?=some i:=by rw[hk];simp[hi]
  rw[kL]at h1;simpa [hi] using h1
 have hos1:∀(j id:Nat),sel[j]?=some id->(sel.filterMap (os[·]?))[j]?=os[id]?:=by
  have :∀(l:List Nat),(∀i∈l,i<os.length)->∀(j id:Nat),l[j]?=some id->(l.filterMap (os[·]?))[j]?=os[id]?:=λl=>by
   induction l with
   | nil=>intro _ j id h;simp at h
   | cons i l ih=>
    intro hl j id h;have hi:=hl i (by simp);rw[lX,jl hi];cases j with
    | zero=>simp only[kK,jh]at h;subst h;simp[jl hi]
    | succ j=>simp only[kT]at h⊢;exact ih (λx hx=>hl x (by simp[hx])) j id h
  exact this sel (λi hi=>by rw[<- hlen];exact hlt i hi)
 let so:Own->Own:=λo=>{ o with row:=Ck sel o.row }
 let os2:=(sel.filterMap (os[·]?)).map so
 have hl2:(sel.filterMap (os[·]?)).length=sel.length:=by
  have :∀(l:List Nat),(∀i∈l,i<os.length)->(l.filterMap (os[·]?)).length=l.length:=λl=>by
   induction l with
   | nil=>simp
   | cons i l ih=>intro hl;rw[lX,jl (hl i (by simp))];simp[ih (λx hx=>hl x (by simp[hx]))]
  exact this sel (λi hi=>by rw[<- hlen];exact hlt i hi)
 have hget:∀(j:Nat) (o:Own),os2[j]?=some o->∃id o0,sel[j]?=some id/\os[id]?=some o0/\o=so o0:=λj o h=>by
  simp only[os2,ji,jo]at h;obtain⟨o0,h0,rfl⟩:=h;have hj:j<sel.length:=by rw[<- hl2];exact (jg.1 h0).1
  refine⟨sel[j],o0,jl hj,?_,rfl⟩;rw[<- hos1 j _ (jl hj)];exact h0
 have hren0:∀x v,Ae F w os x v->Ae F w os2 (IK sel x) v:=λx v h=>by
  have hidx:∀id j,idx sel id=some j->os2[j]?=(os[id]?).map so:=λid j hj=>by
   unfold idx at hj;rw[lh]at hj;obtain⟨h1,h2,_⟩:=hj;simp only[os2,ji];rw[hos1 j id (by rw[jl h1];simpa using h2)]
  cases x with
  | own id g n=>
   simp only[IK];split
   ·rename_i j hj;simp only[Ae]at h⊢;obtain⟨o,h1,h2,h3,h4⟩:=h;exact⟨so o,by rw[hidx id j hj,h1];rfl,h2,h3,λhg=>by
     obtain⟨a1,a2⟩:=h4 hg;exact⟨by simpa [so,Ck] using a1,by simpa [so,Ck] using a2⟩⟩
   ·simp[Ae]
  | ptr id g i off=>
   simp only[IK];split
   ·rename_i j hj;simp only[Ae]at h⊢;obtain⟨o,h1,h2,h3,h4⟩:=h;exact⟨so o,by rw[hidx id j hj,h1];rfl,h2,h3,λhg=>by
     obtain⟨a1,a2,a3⟩:=h4 hg;exact⟨by simpa [so,Ck] using a1,a2,a3⟩⟩
   ·simp[Ae]
  | fn f cs=>simp[IK,Ae]
  | agg cs=>simp[IK,Ae]
  | Dw cs=>simp[IK,Ae]
  | _=>simp only[IK,Ae]at h⊢<;>exact h
 have hren1:∀x v,Ae F w os x v->Ae F w os2 (KD sel x) v:=LH hren0;have hrenL:∀cs us,Br F w os cs us->Br F w os2 (cs.map (KD sel)) us:=λcs us h=>
  DZ (by simp[BY h]) λi x u hx hu=>by
   simp only[ji,jo]at hx;obtain⟨y,hy,rfl⟩:=hx;obtain⟨u',hu',hr'⟩:=CN h i y hy;rw[hu']at hu;cases hu;exact hren1 _ _ hr'
 have hren:∀x v,Ae F w os x v->Ae F w os2 (KB sel x) v:=λx v h=>by
  cases x with
  | fn f cs=>simp only[KB,Ae]at h⊢;obtain⟨us,e,hl⟩:=h;exact⟨us,e,hrenL _ _ hl⟩
  | agg cs=>simp only[KB,Ae]at h⊢;obtain⟨us,e,hl⟩:=h;exact⟨us,e,hrenL _ _ hl⟩
  | Dw cs=>simp only[KB,Ae]at h⊢;obtain⟨us,e,hl⟩:=h;exact⟨us,e,hrenL _ _ hl⟩
  | _=>exact hren1 _ _ h
 have hstR:os2.map Own.row=(Cb st sel).map (Ck sel):=by
  have h0:os.map Own.row=st:=hr.st;simp only[os2,Cb,<- h0,lU,nK];congr 1;funext i;simp only[ji];cases os[i]?<;>rfl
 refine⟨F,os2,⟨hstR,λt=>hren _ _ (hr.env t),hr.size,λj o ho=>?_,λi j oi oj b hi hj hbi hbj=>?_,hr.FT,hr.defers⟩,⟨rfl,rfl,rfl,jv _,λ_ h=>h,λ_ _=>rfl,λb _ h1 h2=>⟨rfl,h1,λo ho=>?_⟩,λi o hi ho=>⟨so o,?_,jv _,rfl,λ_=>⟨rfl,rfl,by simp[so,Ck]⟩⟩⟩⟩
 ·have hrow:o.row∈(Cb st sel).map (Ck sel):=by rw[<- hstR];exact kC.2 ⟨o,je ho,rfl⟩
  obtain⟨id,o0,hid,ho0,rfl⟩:=hget j o ho;have hok:=hr.rows id o0 ho0;refine⟨hok.pos,λx hx=>⟨?_,hl _ hrow x hx⟩,λhb=>?_,λb hb=>?_,hok.mo,hok.deep.mapped (KD sel) (λ_ _ _ _ h=>YW h) rfl rfl rfl rfl⟩
  ·simp only[so,Ck,kC]at hx;obtain⟨y,hy,rfl⟩:=hx;simpa [so,Ck] using (hok.lens y hy).1
  ·obtain⟨h1,h2⟩:=hok.none hb;exact⟨by simp[so,Ck,h1],h2⟩
  ·obtain⟨h1,cur,h2,h3,h4,h5,h6⟩:=hok.some b hb;refine⟨h1,cur,h2,h3,by simpa [so,Ck] using h4,h5,λi x hx j' c hc=>?_⟩;simp only[so,Ck,ji,jo]at hx;obtain⟨y,hy,rfl⟩:=hx;simp only[ji,jo]at hc;obtain⟨c0,hc0,rfl⟩:=hc;obtain⟨u,e1,e2⟩:=h6 i y hy j' c0 hc0;exact⟨u,e1,hren1 _ _ e2⟩
 ·obtain⟨id,o0,hid,ho0,rfl⟩:=hget i oi hi;obtain⟨id',o0',hid',ho0',rfl⟩:=hget j oj hj;have he:=hr.inj id id' o0 o0' b ho0 ho0' hbi hbj;subst he;obtain⟨hi1,hi2⟩:=jg.1 hid;obtain⟨hj1,hj2⟩:=jg.1 hid';have hp:=mW.1 hnd;rcases lH i j with h|h|h
  ·exact absurd (hi2.trans hj2.symm) (hp i j hi1 hj1 h)
  ·exact h
  ·exact absurd (hj2.trans hi2.symm) (hp j i hj1 hi1 h)
 ·simp only[os2,kC,kz]at ho;obtain⟨o0,⟨i,_,hi⟩,rfl⟩:=ho;exact h2 o0 (je hi)
 ·simp only[os2,ji];rw[hos1 i i (hk' i hi),ho];rfl
theorem VD {n:Nat}{e:Nat->AV}{st st':List Row}{L:List (Nat×AV)}(sel:List Nat)(hk:sel.take k=List.range k)(hnd:sel.Nodup)(hlt:sel.all (·<st.length)=true)
  (hst:(Cb st sel).map (Ck sel)=st') (hl:Ie st') (h:ME (λt=>KB sel (e t)) L):Wk k ⟨n,e,st⟩ ⟨n,Aa L,st'⟩:=by
 subst hst;exact (Wk.dh sel hk hnd (λi hi=>by simpa using jq.1 hlt i hi) hl).trans (Af h)
inductive SR (sel:List Nat):List Row->List Row->Prop
 | nil:SR sel [] []
 | deep {g size:Nat} {el:TypeId} {xs:List (List AV)} {r r':List Row} (hp:DD xs) (hl:SR sel r r'):SR sel (⟨g,el,size,xs⟩::r) (⟨g,el,size,xs⟩::r')
 | raw {g size:Nat} {el:TypeId} {cs cs':List AV} {r r':List Row} (hc:cs.map (KD sel)=cs') (hp:cs'.all AV.leaf=true) (hl:SR sel r r'):SR sel (⟨g,el,size,[cs]⟩::r) (⟨g,el,size,[cs']⟩::r')
 | hol {g size i:Nat} {el:TypeId} {zs:List (List AV)} {x x':List AV} {r r':List Row} (hp:DD zs) (hz :∀z∈zs,z.all AV.kept=true) (hc:x.map (KD sel)=x') (hk:x'.all AV.kept=true) (hl:SR sel r r'):SR sel (⟨g,el,size,zs.set i x⟩::r) (⟨g,el,size,zs.set i x'⟩::r')
theorem SR.pure {sel:List Nat}{g size:Nat}{el:TypeId}{xs:List (List AV)}{r r':List Row}(hp:EK xs)(hl:SR sel r r'):SR sel (⟨g,el,size,xs⟩::r) (⟨g,el,size,xs⟩::r'):=.deep hp.any hl
theorem NF {sel:List Nat}{c:AV}(h:EY c=true):KD sel c=c:=by cases c<;>simp[EY,simple,KD,two,IK]at h⊢
theorem SR.spec {sel:List Nat}{st0:List Row}(hle :∀row∈st0,∀x∈row.xs,∀c∈x,c.kept=true):∀{l l':List Row},SR sel l l'->(∀row∈l,row∈st0)->l.map (Ck sel)=l'/\Ie l'
 | _,_,.nil,_=>⟨rfl,λ_ h=>by cases h⟩
 | _,_,.deep hp hl,hm=>by
  obtain⟨h1,h2⟩:=SR.spec hle hl (λrow h=>hm row (kr _ h));have hlf:=hle _ (hm _ (ld ..));refine⟨?_,?_⟩
  ·simp only[kI,h1];congr 1;simp only[Ck];congr 1;refine (kM (g:=id) λx hx=>?_).trans (lI _);refine (kM (g:=id) λc hc=>?_).trans (lI _);exact NF (hp x hx c hc)
  ·intro row hrow;rcases js.1 hrow with rfl|h
   ·exact hlf
   ·exact h2 row h
 | _,_,.raw hc hp hl,hm=>by
  obtain⟨h1,h2⟩:=SR.spec hle hl (λrow h=>hm row (kr _ h));refine⟨?_,?_⟩
  ·simp only[kI,h1,Ck,lV,hc]
  ·intro row hrow;rcases js.1 hrow with rfl|h
   ·intro x hx c hcx;simp only[jy]at hx;subst hx;exact D0 (jq.1 hp c hcx)
   ·exact h2 row h
 | _,_,.hol (zs:=zs) (i:=i) hp hz hc hk hl,hm=>by
  obtain⟨h1,h2⟩:=SR.spec hle hl (λrow h=>hm row (kr _ h));refine⟨?_,?_⟩
  ·simp only[kI,h1,Ck,ln,hc];congr 3;refine (kM (g:=id) λx hx=>?_).trans (lI _);refine (kM (g:=id) λc hc=>?_).trans (lI _);exact NF (hp x hx c hc)
  ·intro row hrow;rcases js.1 hrow with rfl|h
   ·intro x hx c hcx;rcases kp hx with hx|rfl
    ·exact jq.1 (hz x hx) c hcx
    ·exact jq.1 hk c hcx
   ·exact h2 row h
theorem NT {n:Nat}{e:Nat->AV}{st:List Row}(hr:Rel F os ⟨n,e,st⟩ a w):∀row∈st,∀x∈row.xs,∀c∈x,c.kept=true:=λrow hrow x hx c hc=>by
 have hst:=hr.st;simp only at hst;rw[<- hst]at hrow;obtain⟨o,ho,rfl⟩:=kC.1 hrow;obtain⟨i,hi⟩:=jz.1 ho;exact ((hr.rows i o hi).lens x hx).2 c hc
def Ut (id g:Nat):AV->AV
 | .own id' g' n=>if id'=id/\g'=g then .own id (g+1) n else .own id' g' n
 | .ptr id' g' i off=>if id'=id/\g'=g then .ptr id (g+1) i off else .ptr id' g' i off
 | .fn ..|.agg _|.Dw _=>.E2
 | v=>v
def TE (id g:Nat)(x:AV):AV:=two (Ut id g) x
theorem fm {id g:Nat}{c:AV}{el s:Nat}{ys:List (List AV)}(h:TE id g c=.dv el s ys):c=.dv el s ys:=by
 refine Rn (X:=Ut id g) (λc h=>?_) h;cases c<;>simp only[Ut]at h<;>first|exact h|cases h|(repeat' split at h)<;>first|cases h|exact h
def bp (id g:Nat):AV->AV
 | .fn f cs=>.fn f (cs.map (TE id g))
 | .agg cs=>.agg (cs.map (TE id g))
 | .Dw cs=>.Dw (cs.map (TE id g))
 | v=>TE id g v
def NP (id g:Nat)(row:Row):Row:={ row with xs:=row.xs.map (·.map (TE id g)) }
def bC (row:Row):Row:={ row with gen:=row.gen+1 }
theorem Wk.iA {n:Nat}{e:Nat->AV}{st:List Row}{id:Nat}{row:Row}(hrow:st[id]?=some row)(hl:Ie (st.map (NP id row.gen))):
  Wk k ⟨n,e,st⟩ ⟨n,λt=>bp id row.gen (e t),(st.map (NP id row.gen)).modify id bC⟩:=λF os a w hr=>by
 let so:Nat->Own->Own:=λi o=>{ o with row:=if i=id then bC (NP id row.gen o.row) else NP id row.gen o.row }
 let os2:=os.mapIdx so
 have hst0:os.map Own.row=st:=hr.st;obtain⟨oi,hoi,hoir⟩ :∃o,os[id]?=some o/\o.row=row:=by
  rw[<- hst0,ji,jo]at hrow;exact hrow
 have hget:∀i,os2[i]?=(os[i]?).map (so i):=λi=>by simp[os2]
 have hsx:∀i o,(so i o).row.xs=o.row.xs.map (·.map (TE id row.gen)):=λi o=>by
  simp only[so];split<;>rfl
 have hsz:∀i o,(so i o).row.size=o.row.size:=λi o=>by simp only[so];split<;>rfl
 have hse:∀i o,(so i o).row.elem=o.row.elem:=λi o=>by simp only[so];split<;>rfl
 have hsg:∀i o,(so i o).row.gen=if i=id then o.row.gen+1 else o.row.gen:=λi o=>by simp only[so];split<;>rfl
 have hb0:∀x v,Ae F w os x v->Ae F w os2 (Ut id row.gen x) v:=λx v h=>by
  cases x with
  | own id' g' n'=>
   simp only[Ae]at h;obtain⟨o,h1,h2,h3,h4⟩:=h;simp only[Ut];by_cases hc:id'=id/\g'=row.gen
   ·rw[jm hc];obtain⟨rfl,rfl⟩:=hc;have:o=oi:=by rw[hoi]at h1;cases h1;rfl
    subst this;simp only[Ae];refine⟨so id' o,by rw[hget,hoi];rfl,by rw[hsg];simp[hoir],h3,λ_=>?_⟩;obtain⟨a1,a2⟩:=h4 (by rw[hoir]);exact⟨by rw[hsx];simpa using a1,by rw[hsx,hsz,kB];exact a2⟩
   ·rw[jn hc];simp only[Ae];refine⟨so id' o,by rw[hget,h1];rfl,by rw[hsg];split<;>omega,h3,λhg=>?_⟩;rw[hsg]at hg;by_cases hi:id'=id
    ·subst hi;rw[hoi]at h1;cases h1;rw[jm rfl]at hg;omega
    ·rw[jn hi]at hg;obtain⟨a1,a2⟩:=h4 hg;exact⟨by rw[hsx];simpa using a1,by rw[hsx,hsz,kB];exact a2⟩
  | ptr id' g' i' off=>
   simp only[Ae]at h;obtain⟨o,h1,h2,h3,h4⟩:=h;simp only[Ut];by_cases hc:id'=id/\g'=row.gen
   ·rw[jm hc];obtain⟨rfl,rfl⟩:=hc;have:o=oi:=by rw[hoi]at h1;cases h1;rfl
    subst this;simp only[Ae];refine⟨so id' o,by rw[hget,hoi];rfl,by rw[hsg];simp[hoir],h3,λ_=>?_⟩;obtain⟨a1,a2,a3⟩:=h4 (by rw[hoir]);exact⟨by rw[hsx];simpa using a1,by rw[hsz];exact a2,by rw[hsz];exact a3⟩
   ·rw[jn hc];simp only[Ae];refine⟨so id' o,by rw[hget,h1];rfl,by rw[hsg];split<;>omega,h3,λhg=>?_⟩;rw[hsg]at hg;by_cases hi:id'=id
    ·subst hi;rw[hoi]at h1;cases h1;rw[jm rfl]at hg;omega
    ·rw[jn hi]at hg;obtain⟨a1,a2,a3⟩:=h4 hg;exact⟨by rw[hsx];simpa using a1,by rw[hsz];exact a2,by rw[hsz];exact a3⟩
  | fn f caps=>simp[Ut,Ae]
  | agg cs=>simp[Ut,Ae]
  | Dw cs=>simp[Ut,Ae]
  | _=>simp only[Ut,Ae]at h⊢<;>exact h
 have hb1:∀x v,Ae F w os x v->Ae F w os2 (TE id row.gen x) v:=LH hb0;have hbL:∀cs us,Br F w os cs us->Br F w os2 (cs.map (TE id row.gen)) us:=λcs us h=>
  DZ (by simp[BY h]) λi x u hx hu=>by
   simp only[ji,jo]at hx;obtain⟨y,hy,rfl⟩:=hx;obtain⟨u',hu',hr'⟩:=CN h i y hy;rw[hu']at hu;cases hu;exact hb1 _ _ hr'
 have hb:∀x v,Ae F w os x v->Ae F w os2 (bp id row.gen x) v:=λx v h=>by
  cases x with
  | fn f cs=>simp only[bp,Ae]at h⊢;obtain⟨us,e,hl⟩:=h;exact⟨us,e,hbL _ _ hl⟩
  | agg cs=>simp only[bp,Ae]at h⊢;obtain⟨us,e,hl⟩:=h;exact⟨us,e,hbL _ _ hl⟩
  | Dw cs=>simp only[bp,Ae]at h⊢;obtain⟨us,e,hl⟩:=h;exact⟨us,e,hbL _ _ hl⟩
  | _=>exact hb1 _ _ h
 have hst2:os2.map Own.row=(st.map (NP id row.gen)).modify id bC:=by
  apply lk;intro i;rw[ji,hget,List.getElem?_modify,ji,<- hst0,ji];cases os[i]? with
  | none=>rfl
  | some o=>
   simp only[kb,so];by_cases hi:i=id
   ·simp[hi]
   ·have:¬ id=i:=λh=>hi h.symm;simp[hi,this]
 refine⟨F,os2,⟨hst2,λt=>hb _ _ (hr.env t),hr.size,λi o ho=>?_,λi j oi' oj' b hi hj hbi hbj=>?_,hr.FT,hr.defers⟩,⟨rfl,rfl,rfl,jv _,λ_ h=>h,λ_ _=>rfl,λb _ h1 h2=>⟨rfl,h1,λo ho=>?_⟩,λi o hi ho=>⟨so i o,by rw[hget,ho];rfl,by rw[hsg];split<;>omega,hsz i o,λ_=>⟨rfl,rfl,by rw[hsx];simp⟩⟩⟩⟩
 ·rw[hget,jo]at ho;obtain⟨o0,ho0,rfl⟩:=ho;have hok:=hr.rows i o0 ho0;have hm:NP id row.gen o0.row∈st.map (NP id row.gen):=kC.2 ⟨o0.row,by rw[<- hst0];exact kC.2 ⟨o0,je ho0,rfl⟩,rfl⟩;refine⟨by rw[hsz];exact hok.pos,λx hx=>?_,λhbn=>?_,λb hbb=>?_,hok.mo,hok.deep.mapped (TE id row.gen) (λ_ _ _ _ h=>fm h) rfl rfl (hsz _ _) (hsx _ _)⟩
  ·rw[hsx]at hx;refine⟨?_,hl _ hm x hx⟩;obtain⟨y,hy,rfl⟩:=kC.1 hx;rw[hsz,kB];exact (hok.lens y hy).1
  ·obtain⟨h1,h2⟩:=hok.none hbn;exact⟨by rw[hsx,h1];rfl,h2⟩
  ·obtain⟨h1,cur,h2,h3,h4,h5,h6⟩:=hok.some b hbb;refine⟨h1,cur,by rw[hse];exact h2,by rw[hsz];exact h3,by rw[hsx,kB];exact h4,h5,λi' x hx j c hc=>?_⟩;rw[hsx,ji,jo]at hx;obtain⟨y,hy,rfl⟩:=hx;rw[ji,jo]at hc;obtain⟨c0,hc0,rfl⟩:=hc;obtain⟨u,e1,e2⟩:=h6 i' y hy j c0 hc0;exact⟨u,by rw[hsz];exact e1,hb1 _ _ e2⟩
 ·rw[hget,jo]at hi hj;obtain⟨o1,ho1,rfl⟩:=hi;obtain⟨o2,ho2,rfl⟩:=hj;exact hr.inj i j o1 o2 b ho1 ho2 hbi hbj
 ·obtain⟨i,hi⟩:=jz.1 ho;rw[hget,jo]at hi;obtain⟨o0,h0,rfl⟩:=hi;exact h2 o0 (je h0)
inductive BR (id g:Nat):List Row->List Row->Prop
 | nil:BR id g [] []
 | deep {g' size:Nat} {el:TypeId} {xs:List (List AV)} {r r':List Row} (hp:DD xs) (hl:BR id g r r'):BR id g (⟨g',el,size,xs⟩::r) (⟨g',el,size,xs⟩::r')
 | raw {g' size:Nat} {el:TypeId} {cs cs':List AV} {r r':List Row} (hc:cs.map (TE id g)=cs') (hp:cs'.all AV.leaf=true) (hl:BR id g r r'):BR id g (⟨g',el,size,[cs]⟩::r) (⟨g',el,size,[cs']⟩::r')
theorem BR.pure {id g g' size:Nat}{el:TypeId}{xs:List (List AV)}{r r':List Row}(hp:EK xs)(hl:BR id g r r'):BR id g (⟨g',el,size,xs⟩::r) (⟨g',el,size,xs⟩::r'):=.deep hp.any hl
theorem Xb {id g:Nat}{c:AV}(h:EY c=true):TE id g c=c:=by cases c<;>simp[EY,simple,TE,two,Ut]at h⊢
theorem BR.spec {id g:Nat}{st0:List Row}(hle :∀row∈st0,∀x∈row.xs,∀c∈x,c.kept=true):∀{l l':List Row},BR id g l l'->(∀row∈l,row∈st0)->l.map (NP id g)=l'/\Ie l'
 | _,_,.nil,_=>⟨rfl,λ_ h=>by cases h⟩
 | _,_,.deep hp hl,hm=>by
  obtain⟨h1,h2⟩:=BR.spec hle hl (λrow h=>hm row (kr _ h));have hlf:=hle _ (hm _ (ld ..));refine⟨?_,?_⟩
  ·simp only[kI,h1];congr 1;simp only[NP];congr 1;refine (kM (g:=λx=>x) λx hx=>?_).trans (lI _);refine (kM (g:=λx=>x) λc hc=>?_).trans (lI _);exact Xb (hp x hx c hc)
  ·intro row hrow;rcases js.1 hrow with rfl|h
   ·exact hlf
   ·exact h2 row h
 | _,_,.raw hc hp hl,hm=>by
  obtain⟨h1,h2⟩:=BR.spec hle hl (λrow h=>hm row (kr _ h));refine⟨?_,?_⟩
  ·simp only[kI,h1,NP,lV,hc]
  ·intro row hrow;rcases js.1 hrow with rfl|h
   ·intro x hx c hcx;simp only[jy]at hx;subst hx;exact D0 (jq.1 hp c hcx)
   ·exact h2 row h
theorem MR {n:Nat}{e:Nat->AV}{st st1 st':List Row}{L:List (Nat×AV)}(id:Nat){row:Row}(hrow:st[id]?=some row)(hb:BR id row.gen st st1)(hst:st1.modify id bC=st')(h:ME (λt=>bp id row.gen (e t)) L):Wk k ⟨n,e,st⟩ ⟨n,Aa L,st'⟩:=λF os a w hr=>by
 obtain⟨h1,h2⟩:=hb.spec (st0:=st) (NT hr) (λ_ h=>h);have h3:=Wk.iA (k:=k) (n:=n) (e:=e) hrow (by rw[h1];exact h2);rw[h1,hst]at h3;exact (h3.trans (Af h)) F os a w hr
def U0 (m:Nat)(st:List Row):AV->AV
 | .own id g n=>if id<m then .own id g n else match st[id]? with
  | some row=>if row.gen=g then .own id 0 n else .E2
  | none=>.E2
 | .ptr id g i off=>if id<m then .ptr id g i off else match st[id]? with
  | some row=>if row.gen=g then .ptr id 0 i off else .E2
  | none=>.E2
 | .fn ..|.agg _|.Dw _=>.E2
 | v=>v
def T4 (m:Nat)(st:List Row)(x:AV):AV:=two (U0 m st) x
theorem fT {m:Nat}{st:List Row}{c:AV}{el s:Nat}{ys:List (List AV)}(h:T4 m st c=.dv el s ys):c=.dv el s ys:=by
 refine Rn (X:=U0 m st) (λc h=>?_) h;cases c<;>simp only[U0]at h<;>first|exact h|cases h|(repeat' split at h)<;>first|cases h|exact h
def rk (m:Nat)(st:List Row):AV->AV
 | .fn f cs=>.fn f (cs.map (T4 m st))
 | .agg cs=>.agg (cs.map (T4 m st))
 | .Dw cs=>.Dw (cs.map (T4 m st))
 | v=>T4 m st v
def Fj (m:Nat)(st:List Row)(i:Nat)(row:Row):Row:={ row with gen:=if i<m then row.gen else 0,xs:=row.xs.map (·.map (T4 m st)) }
theorem Wk.ef {n:Nat}{e:Nat->AV}{st:List Row}(hl:Ie (st.mapIdx (Fj k st))):Wk k ⟨n,e,st⟩ ⟨n,λt=>rk k st (e t),st.mapIdx (Fj k st)⟩:=λF os a w hr=>by
 let so:Nat->Own->Own:=λi o=>{ o with row:=Fj k st i o.row }
 let os2:=os.mapIdx so
 have hst0:os.map Own.row=st:=hr.st;have hget:∀i,os2[i]?=(os[i]?).map (so i):=λi=>by simp[os2]
 have hs:∀{id:Nat} {o:Own},os[id]?=some o->st[id]?=some o.row:=λ{id o} ho=>by rw[<- hst0,ji,ho];rfl
 have h0' :∀x v,Ae F w os x v->Ae F w os2 (U0 k st x) v:=λx v h=>by
  cases x with
  | own id g n'=>
   simp only[Ae]at h;obtain⟨o,ho,hle,hsh,hv⟩:=h;simp only[U0,hs ho];by_cases hk:id<k
   ·rw[jm hk];simp only[Ae];refine⟨so id o,by rw[hget,ho];rfl,by simp only[so,Fj,hk,kO];exact hle,hsh,λhg=>?_⟩;simp only[so,Fj,hk,kO]at hg;obtain⟨a1,a2⟩:=hv hg;exact⟨by simpa [so,Fj] using a1,by simpa [so,Fj] using a2⟩
   ·rw[jn hk];split
    ·rename_i e;obtain⟨a1,a2⟩:=hv e;simp only[Ae];exact⟨so id o,by rw[hget,ho];rfl,kE _,hsh,λ_=>⟨by simpa [so,Fj] using a1,by simpa [so,Fj] using a2⟩⟩
    ·simp[Ae]
  | ptr id g i off=>
   simp only[Ae]at h;obtain⟨o,ho,hle,hsh,hv⟩:=h;simp only[U0,hs ho];by_cases hk:id<k
   ·rw[jm hk];simp only[Ae];refine⟨so id o,by rw[hget,ho];rfl,by simp only[so,Fj,hk,kO];exact hle,hsh,λhg=>?_⟩;simp only[so,Fj,hk,kO]at hg;obtain⟨a1,a2,a3⟩:=hv hg;exact⟨by simpa [so,Fj] using a1,a2,a3⟩
   ·rw[jn hk];split
    ·rename_i e;obtain⟨a1,a2,a3⟩:=hv e;simp only[Ae];exact⟨so id o,by rw[hget,ho];rfl,kE _,hsh,λ_=>⟨by simpa [so,Fj] using a1,a2,a3⟩⟩
    ·simp[Ae]
  | fn f caps=>simp[U0,Ae]
  | agg cs=>simp[U0,Ae]
  | Dw cs=>simp[U0,Ae]
  | _=>simp only[U0,Ae]at h⊢<;>exact h
 have h1:∀x v,Ae F w os x v->Ae F w os2 (T4 k st x) v:=LH h0';have hL:∀cs us,Br F w os cs us->Br F w os2 (cs.map (T4 k st)) us:=λcs us h=>
  DZ (by simp[BY h]) λi x u hx hu=>by
   simp only[ji,jo]at hx;obtain⟨y,hy,rfl⟩:=hx;obtain⟨u',hu',hr'⟩:=CN h i y hy;rw[hu']at hu;cases hu;exact h1 _ _ hr'
 have hb:∀x v,Ae F w os x v->Ae F w os2 (rk k st x) v:=λx v h=>by
  cases x with
  | fn f cs=>simp only[rk,Ae]at h⊢;obtain⟨us,e,hl⟩:=h;exact⟨us,e,hL _ _ hl⟩
  | agg cs=>simp only[rk,Ae]at h⊢;obtain⟨us,e,hl⟩:=h;exact⟨us,e,hL _ _ hl⟩
  | Dw cs=>simp only[rk,Ae]at h⊢;obtain⟨us,e,hl⟩:=h;exact⟨us,e,hL _ _ hl⟩
  | _=>exact h1 _ _ h
 have hst2:os2.map Own.row=st.mapIdx (Fj k st):=by
  apply lk;intro i;have e1:st[i]?=(os[i]?).map Own.row:=by rw[<- hst0,ji]
  rw[ji,hget,nC,e1];cases os[i]?<;>rfl
 refine⟨F,os2,⟨hst2,λt=>hb _ _ (hr.env t),hr.size,λi o ho=>?_,λi j oi' oj' b hi hj hbi hbj=>?_,hr.FT,hr.defers⟩,⟨rfl,rfl,rfl,jv _,λ_ h=>h,λ_ _=>rfl,λb _ h1 h2=>⟨rfl,h1,λo ho=>?_⟩,λi o hi ho=>⟨so i o,by rw[hget,ho];rfl,by simp[so,Fj,hi],rfl,λ_=>⟨rfl,rfl,by simp[so,Fj]⟩⟩⟩⟩
 ·rw[hget,jo]at ho;obtain⟨o0,ho0,rfl⟩:=ho;have hok:=hr.rows i o0 ho0;have hm:(so i o0).row∈st.mapIdx (Fj k st):=by
   rw[<- hst2];exact kC.2 ⟨so i o0,je (by rw[hget,ho0];rfl),rfl⟩
  refine⟨hok.pos,λx hx=>⟨?_,hl _ hm x hx⟩,λhbn=>?_,λb hbb=>?_,hok.mo,hok.deep.mapped (T4 k st) (λ_ _ _ _ h=>fT h) rfl rfl rfl rfl⟩
  ·simp only[so,Fj,kC]at hx;obtain⟨y,hy,rfl⟩:=hx;simpa [so,Fj] using (hok.lens y hy).1
  ·obtain⟨h1,h2⟩:=hok.none hbn;exact⟨by simp[so,Fj,h1],h2⟩
  ·obtain⟨g1,cur,h2,h3,h4,h5,h6⟩:=hok.some b hbb;refine⟨g1,cur,h2,h3,by simpa [so,Fj] using h4,h5,λi' x hx j c hc=>?_⟩;simp only[so,Fj,ji,jo]at hx;obtain⟨y,hy,rfl⟩:=hx;simp only[ji,jo]at hc;obtain⟨c0,hc0,rfl⟩:=hc;obtain⟨u,e1,e2⟩:=h6 i' y hy j c0 hc0;exact⟨u,e1,h1 _ _ e2⟩
 ·rw[hget,jo]at hi hj;obtain⟨o1,ho1,rfl⟩:=hi;obtain⟨o2,ho2,rfl⟩:=hj;exact hr.inj i j o1 o2 b ho1 ho2 hbi hbj
 ·obtain⟨i,hi⟩:=jz.1 ho;rw[hget,jo]at hi;obtain⟨o0,h0,rfl⟩:=hi;exact h2 o0 (je h0)
inductive KR (m:Nat) (st:List Row):Nat->List Row->List Row->Prop
 | nil {i:Nat}:KR m st i [] []
 | deep {i g g' size:Nat} {el:TypeId} {xs:List (List AV)} {r r':List Row} (hg:g'=if i<m then g else 0) (hp:DD xs) (hl:KR m st (i+1) r r'):KR m st i (⟨g,el,size,xs⟩::r) (⟨g',el,size,xs⟩::r')
 | raw {i g g' size:Nat} {el:TypeId} {cs cs':List AV} {r r':List Row} (hg:g'=if i<m then g else 0) (hc:cs.map (T4 m st)=cs') (hp:cs'.all AV.leaf=true) (hl:KR m st (i+1) r r'):KR m st i (⟨g,el,size,[cs]⟩::r) (⟨g',el,size,[cs']⟩::r')
theorem KR.pure {m:Nat}{st:List Row}{i g g' size:Nat}{el:TypeId}{xs:List (List AV)}{r r':List Row}(hg:g'=if i<m then g else 0)(hp:EK xs)(hl:KR m st (i+1) r r'):KR m st i (⟨g,el,size,xs⟩::r) (⟨g',el,size,xs⟩::r'):=.deep hg hp.any hl
theorem Xy {m:Nat}{st:List Row}{c:AV}(h:EY c=true):T4 m st c=c:=by cases c<;>simp[EY,simple,T4,two,U0]at h⊢
theorem KR.spec {m:Nat}{st st0:List Row}(hle :∀row∈st0,∀x∈row.xs,∀c∈x,c.kept=true):∀{i:Nat} {l l':List Row},KR m st i l l'->(∀row∈l,row∈st0)->l.mapIdx (λj=>Fj m st (i+j))=l'/\Ie l'
 | _,_,_,.nil,_=>⟨rfl,λ_ h=>by cases h⟩
 | i,_,_,.deep (r:=r) hg hp hl,hm=>by
  obtain⟨h1,h2⟩:=KR.spec hle hl (λrow h=>hm row (kr _ h));have hlf:=hle _ (hm _ (ld ..));refine⟨?_,?_⟩
  ·rw[List.mapIdx_cons];have e:(λj=>Fj m st (i+(j+1)))=λj=>Fj m st (i+1+j):=by funext j;congr 1;omega
   rw[e,h1];congr 1;subst hg;simp only[Fj,mA];congr 1;refine (kM (g:=λx=>x) λx hx=>?_).trans (lI _);refine (kM (g:=λx=>x) λc hc=>?_).trans (lI _);exact Xy (hp x hx c hc)
  ·intro row hrow;rcases js.1 hrow with rfl|h
   ·exact hlf
   ·exact h2 row h
 | i,_,_,.raw hg hc hp hl,hm=>by
  obtain⟨h1,h2⟩:=KR.spec hle hl (λrow h=>hm row (kr _ h));refine⟨?_,?_⟩
  ·rw[List.mapIdx_cons];have e:(λj=>Fj m st (i+(j+1)))=λj=>Fj m st (i+1+j):=by funext j;congr 1;omega
   rw[e,h1];subst hg;simp only[Fj,mA,kI,lV,hc]
  ·intro row hrow;rcases js.1 hrow with rfl|h
   ·intro x hx c hcx;simp only[jy]at hx;subst hx;exact D0 (jq.1 hp c hcx)
   ·exact h2 row h
theorem Dm {n:Nat}{e:Nat->AV}{st st':List Row}{L:List (Nat×AV)}(hg:KR k st 0 st st')(h:ME (λt=>Abs.rk k st (e t)) L):Wk k ⟨n,e,st⟩ ⟨n,Aa L,st'⟩:=λF os a w hr=>by
 obtain⟨h1,h2⟩:=hg.spec (st0:=st) (NT hr) (λ_ h=>h);simp only[kt]at h1;have h3:=Wk.ef (k:=k) (n:=n) (e:=e) (st:=st) (by rw[h1];exact h2);rw[h1]at h3;exact (h3.trans (Af h)) F os a w hr
end Go.Abs
