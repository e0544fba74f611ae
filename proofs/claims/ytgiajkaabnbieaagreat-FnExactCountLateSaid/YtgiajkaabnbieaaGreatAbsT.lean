import Derived.Test.YtgiajkaabnbieaaGreatAbsP
set_option linter.all false
namespace Go.Abs
open Go
variable {P : Program} {F : Nat -> Prop} {os : List Own} {s : St} {a : Act} {w : World} {k : Nat}
def cM (m:Nat):AV->Bool
 | .own id _ _|.ptr id _ _ _=>decide (id<m)
 | .fn ..|.agg _|.DX _=>false
 | _=>true
def under (m:Nat):AV->Bool
 | .fn _ cs|.agg cs|.DX cs=>cs.all (cM m)
 | v=>cM m v
section
variable {ops : Array Oper} {Q : Exit -> St -> Prop} {ds : List (Option Tmp)} {r : List Oper} {n : Nat} {e : Nat -> AV} {st st' : List Row} {ty : TypeId} {ps : String} {ed : Array Edge} {d : Option Tmp} {v v' : AV} {gd : Option (Nat × Bool)}
variable {f : FuncId} {sm : Array Operand} {ts : Array TypeId} {args : List AV} {rows0 rows1 rows2 rest : List Row}
end
def CR (sel:List Nat)(row:Row):Row:={ row with xs:=row.xs.map (·.map (Ku sel)) }
theorem Wk.fq {n:Nat}{e:Nat->AV}{st:List Row}(sel:List Nat)(hk:sel.take k=List.range k)(sy:sel.Nodup)(rJ :∀i∈sel,i<st.length)(hl:KQ ((Cr st sel).map (CR sel))):
  Wk k ⟨n,e,st⟩ ⟨n,λt=>Ke sel (e t),(Cr st sel).map (CR sel)⟩:=λF os a w hr=>by
 have hlen:st.length=os.length:=hr.len;have hk' :∀i,i<k->sel[i]?=some i:=λi hi=>by
  have h1:(sel.take k)[i]?=some i:=by rw[hk];simp[hi]
  rw[mi]at h1;simpa [hi] using h1
 have te:∀(j id:Nat),sel[j]?=some id->(sel.filterMap (os[·]?))[j]?=os[id]?:=by
  have :∀(l:List Nat),(∀i∈l,i<os.length)->∀(j id:Nat),l[j]?=some id->(l.filterMap (os[·]?))[j]?=os[id]?:=λl=>by
   induction l with
   | nil=>intro _ j id h;simp at h
   | cons i l ih=>
    intro hl j id h;have hi:=hl i (by simp);rw[oM,mH hi];cases j with
    | zero=>simp only[me,mE]at h;subst h;simp[mH hi]
    | succ j=>simp only[mz]at h⊢;exact ih (λx hx=>hl x (by simp[hx])) j id h
  exact this sel (λi hi=>by rw[<- hlen];exact rJ i hi)
 let so:Own->Own:=λo=>{ o with row:=CR sel o.row }
 let os2:=(sel.filterMap (os[·]?)).map so
 have uK:(sel.filterMap (os[·]?)).length=sel.length:=by
  have :∀(l:List Nat),(∀i∈l,i<os.length)->(l.filterMap (os[·]?)).length=l.length:=λl=>by
   induction l with
   | nil=>simp
   | cons i l ih=>intro hl;rw[oM,mH (hl i (by simp))];simp[ih (λx hx=>hl x (by simp[hx]))]
  exact this sel (λi hi=>by rw[<- hlen];exact rJ i hi)
 have rD:∀(j:Nat) (o:Own),os2[j]?=some o->∃id o0,sel[j]?=some id/\os[id]?=some o0/\o=so o0:=λj o h=>by
  simp only[os2,mG,mK]at h;obtain⟨o0,h0,rfl⟩:=h;have hj:j<sel.length:=by rw[<- uK];exact (mC.1 h0).1
  refine⟨sel[j],o0,mH hj,?_,rfl⟩;rw[<- te j _ (mH hj)];exact h0
 have wY:∀x v,Ae F w os x v->Ae F w os2 (It sel x) v:=λx v h=>by
  have vx:∀id j,idx sel id=some j->os2[j]?=(os[id]?).map so:=λid j hj=>by
   unfold idx at hj;rw[oF]at hj;obtain⟨h1,h2,_⟩:=hj;simp only[os2,mG];rw[te j id (by rw[mH h1];simpa using h2)]
  cases x with
  | own id g n=>
   simp only[It];split
   ·rename_i j hj;simp only[Ae]at h⊢;obtain⟨o,h1,h2,h3,h4⟩:=h;exact⟨so o,by rw[vx id j hj,h1];rfl,h2,h3,λhg=>by
     obtain⟨a1,a2⟩:=h4 hg;exact⟨by simpa [so,CR] using a1,by simpa [so,CR] using a2⟩⟩
   ·simp[Ae]
  | ptr id g i off=>
   simp only[It];split
   ·rename_i j hj;simp only[Ae]at h⊢;obtain⟨o,h1,h2,h3,h4⟩:=h;exact⟨so o,by rw[vx id j hj,h1];rfl,h2,h3,λhg=>by
     obtain⟨a1,a2,a3⟩:=h4 hg;exact⟨by simpa [so,CR] using a1,a2,a3⟩⟩
   ·simp[Ae]
  | fn f cs=>simp[It,Ae]
  | agg cs=>simp[It,Ae]
  | DX cs=>simp[It,Ae]
  | _=>simp only[It,Ae]at h⊢<;>exact h
 have th:∀x v,Ae F w os x v->Ae F w os2 (Ku sel x) v:=NN wY;have tj:∀cs us,Ba F w os cs us->Ba F w os2 (cs.map (Ku sel)) us:=λcs us h=>
  Ds (by simp[BJ h]) λi x u hx hu=>by
   simp only[mG,mK]at hx;obtain⟨y,hy,rfl⟩:=hx;obtain⟨u',sa,sx⟩:=CD h i y hy;rw[sa]at hu;cases hu;exact th _ _ sx
 have zX:∀x v,Ae F w os x v->Ae F w os2 (Ke sel x) v:=λx v h=>by
  cases x with
  | fn f cs=>simp only[Ke,Ae]at h⊢;obtain⟨us,e,hl⟩:=h;exact⟨us,e,tj _ _ hl⟩
  | agg cs=>simp only[Ke,Ae]at h⊢;obtain⟨us,e,hl⟩:=h;exact⟨us,e,tj _ _ hl⟩
  | DX cs=>simp only[Ke,Ae]at h⊢;obtain⟨us,e,hl⟩:=h;exact⟨us,e,tj _ _ hl⟩
  | _=>exact th _ _ h
 have vT:os2.map Own.row=(Cr st sel).map (CR sel):=by
  have h0:os.map Own.row=st:=hr.st;simp only[os2,Cr,<- h0,ny,pa];congr 1;funext i;simp only[mG];cases os[i]?<;>rfl
 refine⟨F,os2,⟨vT,λt=>zX _ _ (hr.env t),hr.size,λj o ho=>?_,λi j oi oj b hi hj sS sj=>?_,hr.F6,hr.defers⟩,⟨rfl,rfl,rfl,mS _,λ_ h=>h,λ_ _=>rfl,λb _ h1 h2=>⟨rfl,h1,λo ho=>?_⟩,λi o hi ho=>⟨so o,?_,mS _,rfl,λ_=>⟨rfl,rfl,by simp[so,CR]⟩⟩⟩⟩
 ·have qo:o.row∈(Cr st sel).map (CR sel):=by rw[<- vT];exact mU.2 ⟨o,mB ho,rfl⟩
  obtain⟨id,o0,tv,ho0,rfl⟩:=rD j o ho;have qu:=hr.rows id o0 ho0;refine⟨qu.pos,λx hx=>⟨?_,hl _ qo x hx⟩,λhb=>?_,λb hb=>?_,qu.mo,qu.deep.mapped (Ku sel) (λ_ _ _ _ h=>ZR h) rfl rfl rfl rfl⟩
  ·simp only[so,CR,mU]at hx;obtain⟨y,hy,rfl⟩:=hx;simpa [so,CR] using (qu.lens y hy).1
  ·obtain⟨h1,h2⟩:=qu.none hb;exact⟨by simp[so,CR,h1],h2⟩
  ·obtain⟨h1,cur,h2,h3,h4,h5,h6⟩:=qu.some b hb;refine⟨h1,cur,h2,h3,by simpa [so,CR] using h4,h5,λi x hx j' c hc=>?_⟩;simp only[so,CR,mG,mK]at hx;obtain⟨y,hy,rfl⟩:=hx;simp only[mG,mK]at hc;obtain⟨c0,tK,rfl⟩:=hc;obtain⟨u,e1,e2⟩:=h6 i y hy j' c0 tK;exact⟨u,e1,th _ _ e2⟩
 ·obtain⟨id,o0,tv,ho0,rfl⟩:=rD i oi hi;obtain⟨sH,o0',hid',ho0',rfl⟩:=rD j oj hj;have he:=hr.inj id sH o0 o0' b ho0 ho0' sS sj;subst he;obtain⟨xM,vv⟩:=mC.1 tv;obtain⟨vS,vA⟩:=mC.1 hid';have hp:=pD.1 sy;rcases ng i j with h|h|h
  ·exact absurd (vv.trans vA.symm) (hp i j xM vS h)
  ·exact h
  ·exact absurd (vA.trans vv.symm) (hp j i vS xM h)
 ·simp only[os2,mU,nr]at ho;obtain⟨o0,⟨i,_,hi⟩,rfl⟩:=ho;exact h2 o0 (mB hi)
 ·simp only[os2,mG];rw[te i i (hk' i hi),ho];rfl
theorem WR {n:Nat}{e:Nat->AV}{st st':List Row}{L:List (Nat×AV)}(sel:List Nat)(hk:sel.take k=List.range k)(sy:sel.Nodup)(rJ:sel.all (·<st.length)=true)
  (rH:(Cr st sel).map (CR sel)=st') (hl:KQ st') (h:ME (λt=>Ke sel (e t)) L):Wk k ⟨n,e,st⟩ ⟨n,AN L,st'⟩:=by
 subst rH;exact (Wk.fq sel hk sy (λi hi=>by simpa using mL.1 rJ i hi) hl).trans (Ao h)
inductive SR (sel:List Nat):List Row->List Row->Prop
 | nil:SR sel [] []
 | deep {g size:Nat} {el:TypeId} {xs:List (List AV)} {r r':List Row} (hp:DF xs) (hl:SR sel r r'):SR sel (⟨g,el,size,xs⟩::r) (⟨g,el,size,xs⟩::r')
 | raw {g size:Nat} {el:TypeId} {cs cs':List AV} {r r':List Row} (hc:cs.map (Ku sel)=cs') (hp:cs'.all AV.leaf=true) (hl:SR sel r r'):SR sel (⟨g,el,size,[cs]⟩::r) (⟨g,el,size,[cs']⟩::r')
 | hol {g size i:Nat} {el:TypeId} {zs:List (List AV)} {x x':List AV} {r r':List Row} (hp:DF zs) (hz :∀z∈zs,z.all AV.kept=true) (hc:x.map (Ku sel)=x') (hk:x'.all AV.kept=true) (hl:SR sel r r'):SR sel (⟨g,el,size,zs.set i x⟩::r) (⟨g,el,size,zs.set i x'⟩::r')
theorem SR.pure {sel:List Nat}{g size:Nat}{el:TypeId}{xs:List (List AV)}{r r':List Row}(hp:G1 xs)(hl:SR sel r r'):SR sel (⟨g,el,size,xs⟩::r) (⟨g,el,size,xs⟩::r'):=.deep hp.any hl
theorem OC {sel:List Nat}{c:AV}(h:Em c=true):Ku sel c=c:=by cases c<;>simp[Em,simple,Ku,two,It]at h⊢
theorem SR.spec {sel:List Nat}{st0:List Row}(hle :∀row∈st0,∀x∈row.xs,∀c∈x,c.kept=true):∀{l l':List Row},SR sel l l'->(∀row∈l,row∈st0)->l.map (CR sel)=l'/\KQ l'
 | _,_,.nil,_=>⟨rfl,λ_ h=>by cases h⟩
 | _,_,.deep hp hl,hm=>by
  obtain⟨h1,h2⟩:=SR.spec hle hl (λrow h=>hm row (nf _ h));have td:=hle _ (hm _ (oJ ..));refine⟨?_,?_⟩
  ·simp only[mg,h1];congr 1;simp only[CR];congr 1;refine (mj (g:=id) λx hx=>?_).trans (nq _);refine (mj (g:=id) λc hc=>?_).trans (nq _);exact OC (hp x hx c hc)
  ·intro row qo;rcases mc.1 qo with rfl|h
   ·exact td
   ·exact h2 row h
 | _,_,.raw hc hp hl,hm=>by
  obtain⟨h1,h2⟩:=SR.spec hle hl (λrow h=>hm row (nf _ h));refine⟨?_,?_⟩
  ·simp only[mg,h1,CR,oI,hc]
  ·intro row qo;rcases mc.1 qo with rfl|h
   ·intro x hx c xP;simp only[mv]at hx;subst hx;exact Dr (mL.1 hp c xP)
   ·exact h2 row h
 | _,_,.hol (zs:=zs) (i:=i) hp hz hc hk hl,hm=>by
  obtain⟨h1,h2⟩:=SR.spec hle hl (λrow h=>hm row (nf _ h));refine⟨?_,?_⟩
  ·simp only[mg,h1,CR,nt,hc];congr 3;refine (mj (g:=id) λx hx=>?_).trans (nq _);refine (mj (g:=id) λc hc=>?_).trans (nq _);exact OC (hp x hx c hc)
  ·intro row qo;rcases mc.1 qo with rfl|h
   ·intro x hx c xP;rcases nW hx with hx|rfl
    ·exact mL.1 (hz x hx) c xP
    ·exact mL.1 hk c xP
   ·exact h2 row h
theorem Qk {n:Nat}{e:Nat->AV}{st:List Row}(hr:Rel F os ⟨n,e,st⟩ a w):∀row∈st,∀x∈row.xs,∀c∈x,c.kept=true:=λrow qo x hx c hc=>by
 have rH:=hr.st;simp only at rH;rw[<- rH]at qo;obtain⟨o,ho,rfl⟩:=mU.1 qo;obtain⟨i,hi⟩:=ma.1 ho;exact ((hr.rows i o hi).lens x hx).2 c hc
def WW (m:Nat)(st:List Row):AV->AV
 | .own id g n=>if id<m then .own id g n else match st[id]? with
  | some row=>if row.gen=g then .own id 0 n else .FN
  | none=>.FN
 | .ptr id g i off=>if id<m then .ptr id g i off else match st[id]? with
  | some row=>if row.gen=g then .ptr id 0 i off else .FN
  | none=>.FN
 | .fn ..|.agg _|.DX _=>.FN
 | v=>v
def Uv (m:Nat)(st:List Row)(x:AV):AV:=two (WW m st) x
theorem iW {m:Nat}{st:List Row}{c:AV}{el s:Nat}{ys:List (List AV)}(h:Uv m st c=.dv el s ys):c=.dv el s ys:=by
 refine VK (X:=WW m st) (λc h=>?_) h;cases c<;>simp only[WW]at h<;>first|exact h|cases h|(repeat' split at h)<;>first|cases h|exact h
def rk (m:Nat)(st:List Row):AV->AV
 | .fn f cs=>.fn f (cs.map (Uv m st))
 | .agg cs=>.agg (cs.map (Uv m st))
 | .DX cs=>.DX (cs.map (Uv m st))
 | v=>Uv m st v
def Fl (m:Nat)(st:List Row)(i:Nat)(row:Row):Row:={ row with gen:=if i<m then row.gen else 0,xs:=row.xs.map (·.map (Uv m st)) }
theorem Wk.jM {n:Nat}{e:Nat->AV}{st:List Row}(hl:KQ (st.mapIdx (Fl k st))):Wk k ⟨n,e,st⟩ ⟨n,λt=>rk k st (e t),st.mapIdx (Fl k st)⟩:=λF os a w hr=>by
 let so:Nat->Own->Own:=λi o=>{ o with row:=Fl k st i o.row }
 let os2:=os.mapIdx so
 have hst0:os.map Own.row=st:=hr.st;have rD:∀i,os2[i]?=(os[i]?).map (so i):=λi=>by simp[os2]
 have hs:∀{id:Nat} {o:Own},os[id]?=some o->st[id]?=some o.row:=λ{id o} ho=>by rw[<- hst0,mG,ho];rfl
 have xQ :∀x v,Ae F w os x v->Ae F w os2 (WW k st x) v:=λx v h=>by
  cases x with
  | own id g n'=>
   simp only[Ae]at h;obtain⟨o,ho,hle,hsh,hv⟩:=h;simp only[WW,hs ho];by_cases hk:id<k
   ·rw[mI hk];simp only[Ae];refine⟨so id o,by rw[rD,ho];rfl,by simp only[so,Fl,hk,mm];exact hle,hsh,λhg=>?_⟩;simp only[so,Fl,hk,mm]at hg;obtain⟨a1,a2⟩:=hv hg;exact⟨by simpa [so,Fl] using a1,by simpa [so,Fl] using a2⟩
   ·rw[mJ hk];split
    ·rename_i e;obtain⟨a1,a2⟩:=hv e;simp only[Ae];exact⟨so id o,by rw[rD,ho];rfl,mV _,hsh,λ_=>⟨by simpa [so,Fl] using a1,by simpa [so,Fl] using a2⟩⟩
    ·simp[Ae]
  | ptr id g i off=>
   simp only[Ae]at h;obtain⟨o,ho,hle,hsh,hv⟩:=h;simp only[WW,hs ho];by_cases hk:id<k
   ·rw[mI hk];simp only[Ae];refine⟨so id o,by rw[rD,ho];rfl,by simp only[so,Fl,hk,mm];exact hle,hsh,λhg=>?_⟩;simp only[so,Fl,hk,mm]at hg;obtain⟨a1,a2,a3⟩:=hv hg;exact⟨by simpa [so,Fl] using a1,a2,a3⟩
   ·rw[mJ hk];split
    ·rename_i e;obtain⟨a1,a2,a3⟩:=hv e;simp only[Ae];exact⟨so id o,by rw[rD,ho];rfl,mV _,hsh,λ_=>⟨by simpa [so,Fl] using a1,a2,a3⟩⟩
    ·simp[Ae]
  | fn f rp=>simp[WW,Ae]
  | agg cs=>simp[WW,Ae]
  | DX cs=>simp[WW,Ae]
  | _=>simp only[WW,Ae]at h⊢<;>exact h
 have h1:∀x v,Ae F w os x v->Ae F w os2 (Uv k st x) v:=NN xQ;have hL:∀cs us,Ba F w os cs us->Ba F w os2 (cs.map (Uv k st)) us:=λcs us h=>
  Ds (by simp[BJ h]) λi x u hx hu=>by
   simp only[mG,mK]at hx;obtain⟨y,hy,rfl⟩:=hx;obtain⟨u',sa,sx⟩:=CD h i y hy;rw[sa]at hu;cases hu;exact h1 _ _ sx
 have hb:∀x v,Ae F w os x v->Ae F w os2 (rk k st x) v:=λx v h=>by
  cases x with
  | fn f cs=>simp only[rk,Ae]at h⊢;obtain⟨us,e,hl⟩:=h;exact⟨us,e,hL _ _ hl⟩
  | agg cs=>simp only[rk,Ae]at h⊢;obtain⟨us,e,hl⟩:=h;exact⟨us,e,hL _ _ hl⟩
  | DX cs=>simp only[rk,Ae]at h⊢;obtain⟨us,e,hl⟩:=h;exact⟨us,e,hL _ _ hl⟩
  | _=>exact h1 _ _ h
 have hst2:os2.map Own.row=st.mapIdx (Fl k st):=by
  apply pJ;intro i;have e1:st[i]?=(os[i]?).map Own.row:=by rw[<- hst0,mG]
  rw[mG,rD,pV,e1];cases os[i]?<;>rfl
 refine⟨F,os2,⟨hst2,λt=>hb _ _ (hr.env t),hr.size,λi o ho=>?_,λi j oi' oj' b hi hj sS sj=>?_,hr.F6,hr.defers⟩,⟨rfl,rfl,rfl,mS _,λ_ h=>h,λ_ _=>rfl,λb _ h1 h2=>⟨rfl,h1,λo ho=>?_⟩,λi o hi ho=>⟨so i o,by rw[rD,ho];rfl,by simp[so,Fl,hi],rfl,λ_=>⟨rfl,rfl,by simp[so,Fl]⟩⟩⟩⟩
 ·rw[rD,mK]at ho;obtain⟨o0,ho0,rfl⟩:=ho;have qu:=hr.rows i o0 ho0;have hm:(so i o0).row∈st.mapIdx (Fl k st):=by
   rw[<- hst2];exact mU.2 ⟨so i o0,mB (by rw[rD,ho0];rfl),rfl⟩
  refine⟨qu.pos,λx hx=>⟨?_,hl _ hm x hx⟩,λwI=>?_,λb hbb=>?_,qu.mo,qu.deep.mapped (Uv k st) (λ_ _ _ _ h=>iW h) rfl rfl rfl rfl⟩
  ·simp only[so,Fl,mU]at hx;obtain⟨y,hy,rfl⟩:=hx;simpa [so,Fl] using (qu.lens y hy).1
  ·obtain⟨h1,h2⟩:=qu.none wI;exact⟨by simp[so,Fl,h1],h2⟩
  ·obtain⟨g1,cur,h2,h3,h4,h5,h6⟩:=qu.some b hbb;refine⟨g1,cur,h2,h3,by simpa [so,Fl] using h4,h5,λi' x hx j c hc=>?_⟩;simp only[so,Fl,mG,mK]at hx;obtain⟨y,hy,rfl⟩:=hx;simp only[mG,mK]at hc;obtain⟨c0,tK,rfl⟩:=hc;obtain⟨u,e1,e2⟩:=h6 i' y hy j c0 tK;exact⟨u,e1,h1 _ _ e2⟩
 ·rw[rD,mK]at hi hj;obtain⟨o1,xg,rfl⟩:=hi;obtain⟨o2,vG,rfl⟩:=hj;exact hr.inj i j o1 o2 b xg vG sS sj
 ·obtain⟨i,hi⟩:=ma.1 ho;rw[rD,mK]at hi;obtain⟨o0,h0,rfl⟩:=hi;exact h2 o0 (mB h0)
inductive KR (m:Nat) (st:List Row):Nat->List Row->List Row->Prop
 | nil {i:Nat}:KR m st i [] []
 | deep {i g g' size:Nat} {el:TypeId} {xs:List (List AV)} {r r':List Row} (hg:g'=if i<m then g else 0) (hp:DF xs) (hl:KR m st (i+1) r r'):KR m st i (⟨g,el,size,xs⟩::r) (⟨g',el,size,xs⟩::r')
 | raw {i g g' size:Nat} {el:TypeId} {cs cs':List AV} {r r':List Row} (hg:g'=if i<m then g else 0) (hc:cs.map (Uv m st)=cs') (hp:cs'.all AV.leaf=true) (hl:KR m st (i+1) r r'):KR m st i (⟨g,el,size,[cs]⟩::r) (⟨g',el,size,[cs']⟩::r')
theorem KR.pure {m:Nat}{st:List Row}{i g g' size:Nat}{el:TypeId}{xs:List (List AV)}{r r':List Row}(hg:g'=if i<m then g else 0)(hp:G1 xs)(hl:KR m st (i+1) r r'):KR m st i (⟨g,el,size,xs⟩::r) (⟨g',el,size,xs⟩::r'):=.deep hg hp.any hl
theorem Y2 {m:Nat}{st:List Row}{c:AV}(h:Em c=true):Uv m st c=c:=by cases c<;>simp[Em,simple,Uv,two,WW]at h⊢
theorem KR.spec {m:Nat}{st st0:List Row}(hle :∀row∈st0,∀x∈row.xs,∀c∈x,c.kept=true):∀{i:Nat} {l l':List Row},KR m st i l l'->(∀row∈l,row∈st0)->l.mapIdx (λj=>Fl m st (i+j))=l'/\KQ l'
 | _,_,_,.nil,_=>⟨rfl,λ_ h=>by cases h⟩
 | i,_,_,.deep (r:=r) hg hp hl,hm=>by
  obtain⟨h1,h2⟩:=KR.spec hle hl (λrow h=>hm row (nf _ h));have td:=hle _ (hm _ (oJ ..));refine⟨?_,?_⟩
  ·rw[List.mapIdx_cons];have e:(λj=>Fl m st (i+(j+1)))=λj=>Fl m st (i+1+j):=by funext j;congr 1;omega
   rw[e,h1];congr 1;subst hg;simp only[Fl,oc];congr 1;refine (mj (g:=λx=>x) λx hx=>?_).trans (nq _);refine (mj (g:=λx=>x) λc hc=>?_).trans (nq _);exact Y2 (hp x hx c hc)
  ·intro row qo;rcases mc.1 qo with rfl|h
   ·exact td
   ·exact h2 row h
 | i,_,_,.raw hg hc hp hl,hm=>by
  obtain⟨h1,h2⟩:=KR.spec hle hl (λrow h=>hm row (nf _ h));refine⟨?_,?_⟩
  ·rw[List.mapIdx_cons];have e:(λj=>Fl m st (i+(j+1)))=λj=>Fl m st (i+1+j):=by funext j;congr 1;omega
   rw[e,h1];subst hg;simp only[Fl,oc,mg,oI,hc]
  ·intro row qo;rcases mc.1 qo with rfl|h
   ·intro x hx c xP;simp only[mv]at hx;subst hx;exact Dr (mL.1 hp c xP)
   ·exact h2 row h
theorem QO {n:Nat}{e:Nat->AV}{st st':List Row}{L:List (Nat×AV)}(hg:KR k st 0 st st')(h:ME (λt=>Abs.rk k st (e t)) L):Wk k ⟨n,e,st⟩ ⟨n,AN L,st'⟩:=λF os a w hr=>by
 obtain⟨h1,h2⟩:=hg.spec (st0:=st) (Qk hr) (λ_ h=>h);simp only[nS]at h1;have h3:=Wk.jM (k:=k) (n:=n) (e:=e) (st:=st) (by rw[h1];exact h2);rw[h1]at h3;exact (h3.trans (Ao h)) F os a w hr
end Go.Abs
