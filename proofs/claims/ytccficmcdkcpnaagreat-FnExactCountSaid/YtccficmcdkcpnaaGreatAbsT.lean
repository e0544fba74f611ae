import Derived.Test.YtccficmcdkcpnaaGreatAbsP
set_option linter.all false
namespace Go.Abs
open Go
variable {P : Program} {F : Nat -> Prop} {os : List Own} {s : St} {a : Act} {w : World} {k : Nat}
def kY (m:Nat):AV->Bool
 | .own id _ _|.ptr id _ _ _=>decide (id<m)
 | .fn ..|.agg _|.CW _=>false
 | _=>true
def under (m:Nat):AV->Bool
 | .fn _ cs|.agg cs|.CW cs=>cs.all (kY m)
 | v=>kY m v
section
variable {ops : Array Oper} {Q : Exit -> St -> Prop} {ds : List (Option Tmp)} {r : List Oper} {n : Nat} {e : Nat -> AV} {st st' : List Row} {ty : TypeId} {ps : String} {ed : Array Edge} {d : Option Tmp} {v v' : AV} {gd : Option (Nat × Bool)}
variable {f : FuncId} {ars : Array Operand} {ts : Array TypeId} {args : List AV} {rows0 rows1 rows2 rest : List Row}
end
def CQ (sel:List Nat)(row:Row):Row:={ row with xs:=row.xs.map (·.map (Lj sel)) }
theorem Wk.oL {n:Nat}{e:Nat->AV}{st:List Row}(sel:List Nat)(hk:sel.take k=List.range k)(hnd:sel.Nodup)(hlt :∀i∈sel,i<st.length)(hl:Md ((Ca st sel).map (CQ sel))):
  Wk k ⟨n,e,st⟩ ⟨n,λt=>L0 sel (e t),(Ca st sel).map (CQ sel)⟩:=λF os a w hr=>by
 have hlen:st.length=os.length:=hr.len;have hk' :∀i,i<k->sel[i]?=some i:=λi hi=>by
  have h1:(sel.take k)[i]?=some i:=by rw[hk];simp[hi]
  rw[vN]at h1;simpa [hi] using h1
 have hos1:∀(j id:Nat),sel[j]?=some id->(sel.filterMap (os[·]?))[j]?=os[id]?:=by
  have :∀(l:List Nat),(∀i∈l,i<os.length)->∀(j id:Nat),l[j]?=some id->(l.filterMap (os[·]?))[j]?=os[id]?:=λl=>by
   induction l with
   | nil=>intro _ j id h;simp at h
   | cons i l ih=>
    intro hl j id h;have hi:=hl i (by simp);rw[wu,uQ hi];cases j with
    | zero=>simp only[vC,uO]at h;subst h;simp[uQ hi]
    | succ j=>simp only[vW]at h⊢;exact ih (λx hx=>hl x (by simp[hx])) j id h
  exact this sel (λi hi=>by rw[<- hlen];exact hlt i hi)
 let so:Own->Own:=λo=>{ o with row:=CQ sel o.row }
 let os2:=(sel.filterMap (os[·]?)).map so
 have hl2:(sel.filterMap (os[·]?)).length=sel.length:=by
  have :∀(l:List Nat),(∀i∈l,i<os.length)->(l.filterMap (os[·]?)).length=l.length:=λl=>by
   induction l with
   | nil=>simp
   | cons i l ih=>intro hl;rw[wu,uQ (hl i (by simp))];simp[ih (λx hx=>hl x (by simp[hx]))]
  exact this sel (λi hi=>by rw[<- hlen];exact hlt i hi)
 have AAD:∀(j:Nat) (o:Own),os2[j]?=some o->∃id o0,sel[j]?=some id/\os[id]?=some o0/\o=so o0:=λj o h=>by
  simp only[os2,uP,uR]at h;obtain⟨o0,h0,rfl⟩:=h;have hj:j<sel.length:=by rw[<- hl2];exact (uK.1 h0).1
  refine⟨sel[j],o0,uQ hj,?_,rfl⟩;rw[<- hos1 j _ (uQ hj)];exact h0
 have hren0:∀x v,Ae F w os x v->Ae F w os2 (KJ sel x) v:=λx v h=>by
  have hidx:∀id j,idx sel id=some j->os2[j]?=(os[id]?).map so:=λid j hj=>by
   unfold idx at hj;rw[we]at hj;obtain⟨h1,h2,_⟩:=hj;simp only[os2,uP];rw[hos1 j id (by rw[uQ h1];simpa using h2)]
  cases x with
  | own id g n=>
   simp only[KJ];split
   ·rename_i j hj;simp only[Ae]at h⊢;obtain⟨o,h1,h2,h3,h4⟩:=h;exact⟨so o,by rw[hidx id j hj,h1];rfl,h2,h3,λhg=>by
     obtain⟨a1,a2⟩:=h4 hg;exact⟨by simpa [so,CQ] using a1,by simpa [so,CQ] using a2⟩⟩
   ·simp[Ae]
  | ptr id g i off=>
   simp only[KJ];split
   ·rename_i j hj;simp only[Ae]at h⊢;obtain⟨o,h1,h2,h3,h4⟩:=h;exact⟨so o,by rw[hidx id j hj,h1];rfl,h2,h3,λhg=>by
     obtain⟨a1,a2,a3⟩:=h4 hg;exact⟨by simpa [so,CQ] using a1,a2,a3⟩⟩
   ·simp[Ae]
  | fn f cs=>simp[KJ,Ae]
  | agg cs=>simp[KJ,Ae]
  | CW cs=>simp[KJ,Ae]
  | _=>simp only[KJ,Ae]at h⊢<;>exact h
 have hren1:∀x v,Ae F w os x v->Ae F w os2 (Lj sel x) v:=PQ hren0;have hrenL:∀cs us,Bc F w os cs us->Bc F w os2 (cs.map (Lj sel)) us:=λcs us h=>
  DZ (by simp[BR h]) λi x u hx hu=>by
   simp only[uP,uR]at hx;obtain⟨y,hy,rfl⟩:=hx;obtain⟨u',hu',hr'⟩:=Bo h i y hy;rw[hu']at hu;cases hu;exact hren1 _ _ hr'
 have hren:∀x v,Ae F w os x v->Ae F w os2 (L0 sel x) v:=λx v h=>by
  cases x with
  | fn f cs=>simp only[L0,Ae]at h⊢;obtain⟨us,e,hl⟩:=h;exact⟨us,e,hrenL _ _ hl⟩
  | agg cs=>simp only[L0,Ae]at h⊢;obtain⟨us,e,hl⟩:=h;exact⟨us,e,hrenL _ _ hl⟩
  | CW cs=>simp only[L0,Ae]at h⊢;obtain⟨us,e,hl⟩:=h;exact⟨us,e,hrenL _ _ hl⟩
  | _=>exact hren1 _ _ h
 have hstR:os2.map Own.row=(Ca st sel).map (CQ sel):=by
  have h0:os.map Own.row=st:=hr.st;simp only[os2,Ca,<- h0,wa,yN];congr 1;funext i;simp only[uP];cases os[i]?<;>rfl
 refine⟨F,os2,⟨hstR,λt=>hren _ _ (hr.env t),hr.size,λj o ho=>?_,λi j oi oj b hi hj hbi hbj=>?_,hr.GK,hr.defers⟩,⟨rfl,rfl,rfl,uq _,λ_ h=>h,λ_ _=>rfl,λb _ h1 h2=>⟨rfl,h1,λo ho=>?_⟩,λi o hi ho=>⟨so o,?_,uq _,rfl,λ_=>⟨rfl,rfl,by simp[so,CQ]⟩⟩⟩⟩
 ·have zh:o.row∈(Ca st sel).map (CQ sel):=by rw[<- hstR];exact uw.2 ⟨o,uL ho,rfl⟩
  obtain⟨id,o0,hid,ho0,rfl⟩:=AAD j o ho;have zp:=hr.rows id o0 ho0;refine⟨zp.pos,λx hx=>⟨?_,hl _ zh x hx⟩,λhb=>?_,λb hb=>?_,zp.mo,zp.deep.mapped (Lj sel) (λ_ _ _ _ h=>fB h) rfl rfl rfl rfl⟩
  ·simp only[so,CQ,uw]at hx;obtain⟨y,hy,rfl⟩:=hx;simpa [so,CQ] using (zp.lens y hy).1
  ·obtain⟨h1,h2⟩:=zp.none hb;exact⟨by simp[so,CQ,h1],h2⟩
  ·obtain⟨h1,cur,h2,h3,h4,h5,h6⟩:=zp.some b hb;refine⟨h1,cur,h2,h3,by simpa [so,CQ] using h4,h5,λi x hx j' c hc=>?_⟩;simp only[so,CQ,uP,uR]at hx;obtain⟨y,hy,rfl⟩:=hx;simp only[uP,uR]at hc;obtain⟨c0,hc0,rfl⟩:=hc;obtain⟨u,e1,e2⟩:=h6 i y hy j' c0 hc0;exact⟨u,e1,hren1 _ _ e2⟩
 ·obtain⟨id,o0,hid,ho0,rfl⟩:=AAD i oi hi;obtain⟨id',o0',hid',ho0',rfl⟩:=AAD j oj hj;have he:=hr.inj id id' o0 o0' b ho0 ho0' hbi hbj;subst he;obtain⟨hi1,hi2⟩:=uK.1 hid;obtain⟨hj1,hj2⟩:=uK.1 hid';have hp:=xG.1 hnd;rcases wD i j with h|h|h
  ·exact absurd (hi2.trans hj2.symm) (hp i j hi1 hj1 h)
  ·exact h
  ·exact absurd (hj2.trans hi2.symm) (hp j i hj1 hi1 h)
 ·simp only[os2,uw,wT]at ho;obtain⟨o0,⟨i,_,hi⟩,rfl⟩:=ho;exact h2 o0 (uL hi)
 ·simp only[os2,uP];rw[hos1 i i (hk' i hi),ho];rfl
theorem Zo {n:Nat}{e:Nat->AV}{st st':List Row}{L:List (Nat×AV)}(sel:List Nat)(hk:sel.take k=List.range k)(hnd:sel.Nodup)(hlt:sel.all (·<st.length)=true)
  (hst:(Ca st sel).map (CQ sel)=st') (hl:Md st') (h:ME (λt=>L0 sel (e t)) L):Wk k ⟨n,e,st⟩ ⟨n,AJ L,st'⟩:=by
 subst hst;exact (Wk.oL sel hk hnd (λi hi=>by simpa using uS.1 hlt i hi) hl).trans (FJ h)
inductive SR (sel:List Nat):List Row->List Row->Prop
 | nil:SR sel [] []
 | deep {g size:Nat} {el:TypeId} {xs:List (List AV)} {r r':List Row} (hp:DG xs) (hl:SR sel r r'):SR sel (⟨g,el,size,xs⟩::r) (⟨g,el,size,xs⟩::r')
 | raw {g size:Nat} {el:TypeId} {cs cs':List AV} {r r':List Row} (hc:cs.map (Lj sel)=cs') (hp:cs'.all AV.leaf=true) (hl:SR sel r r'):SR sel (⟨g,el,size,[cs]⟩::r) (⟨g,el,size,[cs']⟩::r')
 | raws {g size:Nat} {el:TypeId} {cs cs':List (List AV)} {r r':List Row} (hc:cs.map (λx=>x.map (Lj sel))=cs') (hp:cs'.all (λx=>x.all AV.leaf)=true) (hl:SR sel r r'):SR sel (⟨g,el,size,cs⟩::r) (⟨g,el,size,cs'⟩::r')
 | hol {g size i:Nat} {el:TypeId} {zs:List (List AV)} {x x':List AV} {r r':List Row} (hp:DG zs) (hz :∀z∈zs,z.all AV.kept=true) (hc:x.map (Lj sel)=x') (hk:x'.all AV.kept=true) (hl:SR sel r r'):SR sel (⟨g,el,size,zs.set i x⟩::r) (⟨g,el,size,zs.set i x'⟩::r')
theorem SR.pure {sel:List Nat}{g size:Nat}{el:TypeId}{xs:List (List AV)}{r r':List Row}(hp:Gm xs)(hl:SR sel r r'):SR sel (⟨g,el,size,xs⟩::r) (⟨g,el,size,xs⟩::r'):=.deep hp.any hl
theorem QZ {sel:List Nat}{c:AV}(h:FI c=true):Lj sel c=c:=by cases c<;>simp[FI,simple,Lj,two,KJ]at h⊢
theorem SR.spec {sel:List Nat}{st0:List Row}(hle :∀row∈st0,∀x∈row.xs,∀c∈x,c.kept=true):∀{l l':List Row},SR sel l l'->(∀row∈l,row∈st0)->l.map (CQ sel)=l'/\Md l'
 | _,_,.nil,_=>⟨rfl,λ_ h=>by cases h⟩
 | _,_,.deep hp hl,hm=>by
  obtain⟨h1,h2⟩:=SR.spec hle hl (λrow h=>hm row (vz _ h));have hlf:=hle _ (hm _ (wo ..));refine⟨?_,?_⟩
  ·simp only[vK,h1];congr 1;simp only[CQ];congr 1;refine (vL (g:=id) λx hx=>?_).trans (wJ _);refine (vL (g:=id) λc hc=>?_).trans (wJ _);exact QZ (hp x hx c hc)
  ·intro row zh;rcases uz.1 zh with rfl|h
   ·exact hlf
   ·exact h2 row h
 | _,_,.raw hc hp hl,hm=>by
  obtain⟨h1,h2⟩:=SR.spec hle hl (λrow h=>hm row (vz _ h));refine⟨?_,?_⟩
  ·simp only[vK,h1,CQ,wW,hc]
  ·intro row zh;rcases uz.1 zh with rfl|h
   ·intro x hx c hcx;simp only[vQ]at hx;subst hx;exact DL (uS.1 hp c hcx)
   ·exact h2 row h
 | _,_,.raws hc hp hl,hm=>by
  obtain⟨h1,h2⟩:=SR.spec hle hl (λrow h=>hm row (vz _ h));refine⟨?_,?_⟩
  ·simp only[vK,h1,CQ,hc]
  ·intro row zh;rcases uz.1 zh with rfl|h
   ·intro x hx c hcx;exact DL (uS.1 (uS.1 hp x hx) c hcx)
   ·exact h2 row h
 | _,_,.hol (zs:=zs) (i:=i) hp hz hc hk hl,hm=>by
  obtain⟨h1,h2⟩:=SR.spec hle hl (λrow h=>hm row (vz _ h));refine⟨?_,?_⟩
  ·simp only[vK,h1,CQ,wb,hc];congr 3;refine (vL (g:=id) λx hx=>?_).trans (wJ _);refine (vL (g:=id) λc hc=>?_).trans (wJ _);exact QZ (hp x hx c hc)
  ·intro row zh;rcases uz.1 zh with rfl|h
   ·intro x hx c hcx;rcases vq hx with hx|rfl
    ·exact uS.1 (hz x hx) c hcx
    ·exact uS.1 hk c hcx
   ·exact h2 row h
theorem T5 {n:Nat}{e:Nat->AV}{st:List Row}(hr:Rel F os ⟨n,e,st⟩ a w):∀row∈st,∀x∈row.xs,∀c∈x,c.kept=true:=λrow zh x hx c hc=>by
 have hst:=hr.st;simp only at hst;rw[<- hst]at zh;obtain⟨o,ho,rfl⟩:=uw.1 zh;obtain⟨i,hi⟩:=vF.1 ho;exact ((hr.rows i o hi).lens x hx).2 c hc
def aO (m:Nat)(st:List Row):AV->AV
 | .own id g n=>if id<m then .own id g n else match st[id]? with
  | some row=>if row.gen=g then .own id 0 n else .F6
  | none=>.F6
 | .ptr id g i off=>if id<m then .ptr id g i off else match st[id]? with
  | some row=>if row.gen=g then .ptr id 0 i off else .F6
  | none=>.F6
 | .fn ..|.agg _|.CW _=>.F6
 | v=>v
def YI (m:Nat)(st:List Row)(x:AV):AV:=two (aO m st) x
theorem qp {m:Nat}{st:List Row}{c:AV}{el s:Nat}{ys:List (List AV)}(h:YI m st c=.dv el s ys):c=.dv el s ys:=by
 refine Yh (X:=aO m st) (λc h=>?_) h;cases c<;>simp only[aO]at h<;>first|exact h|cases h|(repeat' split at h)<;>first|cases h|exact h
def rk (m:Nat)(st:List Row):AV->AV
 | .fn f cs=>.fn f (cs.map (YI m st))
 | .agg cs=>.agg (cs.map (YI m st))
 | .CW cs=>.CW (cs.map (YI m st))
 | v=>YI m st v
def Gd (m:Nat)(st:List Row)(i:Nat)(row:Row):Row:={ row with gen:=if i<m then row.gen else 0,xs:=row.xs.map (·.map (YI m st)) }
theorem Wk.pQ {n:Nat}{e:Nat->AV}{st:List Row}(hl:Md (st.mapIdx (Gd k st))):Wk k ⟨n,e,st⟩ ⟨n,λt=>rk k st (e t),st.mapIdx (Gd k st)⟩:=λF os a w hr=>by
 let so:Nat->Own->Own:=λi o=>{ o with row:=Gd k st i o.row }
 let os2:=os.mapIdx so
 have hst0:os.map Own.row=st:=hr.st;have AAD:∀i,os2[i]?=(os[i]?).map (so i):=λi=>by simp[os2]
 have hs:∀{id:Nat} {o:Own},os[id]?=some o->st[id]?=some o.row:=λ{id o} ho=>by rw[<- hst0,uP,ho];rfl
 have h0' :∀x v,Ae F w os x v->Ae F w os2 (aO k st x) v:=λx v h=>by
  cases x with
  | own id g n'=>
   simp only[Ae]at h;obtain⟨o,ho,hle,hsh,hv⟩:=h;simp only[aO,hs ho];by_cases hk:id<k
   ·rw[uX hk];simp only[Ae];refine⟨so id o,by rw[AAD,ho];rfl,by simp only[so,Gd,hk,vH];exact hle,hsh,λhg=>?_⟩;simp only[so,Gd,hk,vH]at hg;obtain⟨a1,a2⟩:=hv hg;exact⟨by simpa [so,Gd] using a1,by simpa [so,Gd] using a2⟩
   ·rw[uY hk];split
    ·rename_i e;obtain⟨a1,a2⟩:=hv e;simp only[Ae];exact⟨so id o,by rw[AAD,ho];rfl,ue _,hsh,λ_=>⟨by simpa [so,Gd] using a1,by simpa [so,Gd] using a2⟩⟩
    ·simp[Ae]
  | ptr id g i off=>
   simp only[Ae]at h;obtain⟨o,ho,hle,hsh,hv⟩:=h;simp only[aO,hs ho];by_cases hk:id<k
   ·rw[uX hk];simp only[Ae];refine⟨so id o,by rw[AAD,ho];rfl,by simp only[so,Gd,hk,vH];exact hle,hsh,λhg=>?_⟩;simp only[so,Gd,hk,vH]at hg;obtain⟨a1,a2,a3⟩:=hv hg;exact⟨by simpa [so,Gd] using a1,a2,a3⟩
   ·rw[uY hk];split
    ·rename_i e;obtain⟨a1,a2,a3⟩:=hv e;simp only[Ae];exact⟨so id o,by rw[AAD,ho];rfl,ue _,hsh,λ_=>⟨by simpa [so,Gd] using a1,a2,a3⟩⟩
    ·simp[Ae]
  | fn f caps=>simp[aO,Ae]
  | agg cs=>simp[aO,Ae]
  | CW cs=>simp[aO,Ae]
  | _=>simp only[aO,Ae]at h⊢<;>exact h
 have h1:∀x v,Ae F w os x v->Ae F w os2 (YI k st x) v:=PQ h0';have hL:∀cs us,Bc F w os cs us->Bc F w os2 (cs.map (YI k st)) us:=λcs us h=>
  DZ (by simp[BR h]) λi x u hx hu=>by
   simp only[uP,uR]at hx;obtain⟨y,hy,rfl⟩:=hx;obtain⟨u',hu',hr'⟩:=Bo h i y hy;rw[hu']at hu;cases hu;exact h1 _ _ hr'
 have hb:∀x v,Ae F w os x v->Ae F w os2 (rk k st x) v:=λx v h=>by
  cases x with
  | fn f cs=>simp only[rk,Ae]at h⊢;obtain⟨us,e,hl⟩:=h;exact⟨us,e,hL _ _ hl⟩
  | agg cs=>simp only[rk,Ae]at h⊢;obtain⟨us,e,hl⟩:=h;exact⟨us,e,hL _ _ hl⟩
  | CW cs=>simp only[rk,Ae]at h⊢;obtain⟨us,e,hl⟩:=h;exact⟨us,e,hL _ _ hl⟩
  | _=>exact h1 _ _ h
 have hst2:os2.map Own.row=st.mapIdx (Gd k st):=by
  apply xj;intro i;have e1:st[i]?=(os[i]?).map Own.row:=by rw[<- hst0,uP]
  rw[uP,AAD,yF,e1];cases os[i]?<;>rfl
 refine⟨F,os2,⟨hst2,λt=>hb _ _ (hr.env t),hr.size,λi o ho=>?_,λi j oi' oj' b hi hj hbi hbj=>?_,hr.GK,hr.defers⟩,⟨rfl,rfl,rfl,uq _,λ_ h=>h,λ_ _=>rfl,λb _ h1 h2=>⟨rfl,h1,λo ho=>?_⟩,λi o hi ho=>⟨so i o,by rw[AAD,ho];rfl,by simp[so,Gd,hi],rfl,λ_=>⟨rfl,rfl,by simp[so,Gd]⟩⟩⟩⟩
 ·rw[AAD,uR]at ho;obtain⟨o0,ho0,rfl⟩:=ho;have zp:=hr.rows i o0 ho0;have hm:(so i o0).row∈st.mapIdx (Gd k st):=by
   rw[<- hst2];exact uw.2 ⟨so i o0,uL (by rw[AAD,ho0];rfl),rfl⟩
  refine⟨zp.pos,λx hx=>⟨?_,hl _ hm x hx⟩,λhbn=>?_,λb hbb=>?_,zp.mo,zp.deep.mapped (YI k st) (λ_ _ _ _ h=>qp h) rfl rfl rfl rfl⟩
  ·simp only[so,Gd,uw]at hx;obtain⟨y,hy,rfl⟩:=hx;simpa [so,Gd] using (zp.lens y hy).1
  ·obtain⟨h1,h2⟩:=zp.none hbn;exact⟨by simp[so,Gd,h1],h2⟩
  ·obtain⟨g1,cur,h2,h3,h4,h5,h6⟩:=zp.some b hbb;refine⟨g1,cur,h2,h3,by simpa [so,Gd] using h4,h5,λi' x hx j c hc=>?_⟩;simp only[so,Gd,uP,uR]at hx;obtain⟨y,hy,rfl⟩:=hx;simp only[uP,uR]at hc;obtain⟨c0,hc0,rfl⟩:=hc;obtain⟨u,e1,e2⟩:=h6 i' y hy j c0 hc0;exact⟨u,e1,h1 _ _ e2⟩
 ·rw[AAD,uR]at hi hj;obtain⟨o1,ho1,rfl⟩:=hi;obtain⟨o2,ho2,rfl⟩:=hj;exact hr.inj i j o1 o2 b ho1 ho2 hbi hbj
 ·obtain⟨i,hi⟩:=vF.1 ho;rw[AAD,uR]at hi;obtain⟨o0,h0,rfl⟩:=hi;exact h2 o0 (uL h0)
inductive KR (m:Nat) (st:List Row):Nat->List Row->List Row->Prop
 | nil {i:Nat}:KR m st i [] []
 | deep {i g g' size:Nat} {el:TypeId} {xs:List (List AV)} {r r':List Row} (hg:g'=if i<m then g else 0) (hp:DG xs) (hl:KR m st (i+1) r r'):KR m st i (⟨g,el,size,xs⟩::r) (⟨g',el,size,xs⟩::r')
 | raw {i g g' size:Nat} {el:TypeId} {cs cs':List AV} {r r':List Row} (hg:g'=if i<m then g else 0) (hc:cs.map (YI m st)=cs') (hp:cs'.all AV.leaf=true) (hl:KR m st (i+1) r r'):KR m st i (⟨g,el,size,[cs]⟩::r) (⟨g',el,size,[cs']⟩::r')
theorem KR.pure {m:Nat}{st:List Row}{i g g' size:Nat}{el:TypeId}{xs:List (List AV)}{r r':List Row}(hg:g'=if i<m then g else 0)(hp:Gm xs)(hl:KR m st (i+1) r r'):KR m st i (⟨g,el,size,xs⟩::r) (⟨g',el,size,xs⟩::r'):=.deep hg hp.any hl
theorem eE {m:Nat}{st:List Row}{c:AV}(h:FI c=true):YI m st c=c:=by cases c<;>simp[FI,simple,YI,two,aO]at h⊢
theorem KR.spec {m:Nat}{st st0:List Row}(hle :∀row∈st0,∀x∈row.xs,∀c∈x,c.kept=true):∀{i:Nat} {l l':List Row},KR m st i l l'->(∀row∈l,row∈st0)->l.mapIdx (λj=>Gd m st (i+j))=l'/\Md l'
 | _,_,_,.nil,_=>⟨rfl,λ_ h=>by cases h⟩
 | i,_,_,.deep (r:=r) hg hp hl,hm=>by
  obtain⟨h1,h2⟩:=KR.spec hle hl (λrow h=>hm row (vz _ h));have hlf:=hle _ (hm _ (wo ..));refine⟨?_,?_⟩
  ·rw[List.mapIdx_cons];have e:(λj=>Gd m st (i+(j+1)))=λj=>Gd m st (i+1+j):=by funext j;congr 1;omega
   rw[e,h1];congr 1;subst hg;simp only[Gd,xN];congr 1;refine (vL (g:=λx=>x) λx hx=>?_).trans (wJ _);refine (vL (g:=λx=>x) λc hc=>?_).trans (wJ _);exact eE (hp x hx c hc)
  ·intro row zh;rcases uz.1 zh with rfl|h
   ·exact hlf
   ·exact h2 row h
 | i,_,_,.raw hg hc hp hl,hm=>by
  obtain⟨h1,h2⟩:=KR.spec hle hl (λrow h=>hm row (vz _ h));refine⟨?_,?_⟩
  ·rw[List.mapIdx_cons];have e:(λj=>Gd m st (i+(j+1)))=λj=>Gd m st (i+1+j):=by funext j;congr 1;omega
   rw[e,h1];subst hg;simp only[Gd,xN,vK,wW,hc]
  ·intro row zh;rcases uz.1 zh with rfl|h
   ·intro x hx c hcx;simp only[vQ]at hx;subst hx;exact DL (uS.1 hp c hcx)
   ·exact h2 row h
theorem EO {n:Nat}{e:Nat->AV}{st st':List Row}{L:List (Nat×AV)}(hg:KR k st 0 st st')(h:ME (λt=>Abs.rk k st (e t)) L):Wk k ⟨n,e,st⟩ ⟨n,AJ L,st'⟩:=λF os a w hr=>by
 obtain⟨h1,h2⟩:=hg.spec (st0:=st) (T5 hr) (λ_ h=>h);simp only[vd]at h1;have h3:=Wk.pQ (k:=k) (n:=n) (e:=e) (st:=st) (by rw[h1];exact h2);rw[h1]at h3;exact (h3.trans (FJ h)) F os a w hr
end Go.Abs
