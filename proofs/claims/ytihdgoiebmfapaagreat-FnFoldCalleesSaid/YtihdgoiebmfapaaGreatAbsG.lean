import Derived.Test.YtihdgoiebmfapaaGreatAbsF
set_option linter.all false
namespace Go.Abs
open Go
variable {P : Program} {F : Nat -> Prop} {os : List Own} {s : St} {a : Act} {w : World} {k : Nat}
def To (o:Option AV)(d:Int):Option Int:=
 match o with
 | none=>some d
 | some (.int _ j)=>some j
 | _=>none
def U4 (P:Program)(st:List Row)(t:TypeId)(x:AV)(lo hi mx:Option AV)(K:AV->List Row->Prop):Prop:=
 Fl (Ds P t) λei=>match mx with
  | some (.int _ m)=>m=0/\lo=none/\(match hi with|some (.int _ j)=>j=0|_=>False)/\(match x with|.sl _|.zc=>K .zc st|.own id g _=>Fl st[id]? λrow=>row.gen=g/\K .zc st|_=>False)
  | some _=>False
  | none=>match x with
   | .own id g n=>Fl st[id]? λrow=>row.gen=g/\n=row.xs.length/\To lo 0=some 0/\Fl (To hi n) λj=>0<=j/\j<=n/\K (.own id (g+1) j.toNat) (st.set id { row with gen:=g+1,xs:=row.xs.take j.toNat })
   | .sl xs=>Fl (To lo 0) λl=>Fl (To hi xs.length) λh=>0<=l/\l<=h/\h<=xs.length/\(∀x∈xs,x.length=ei.size)/\K (.sl ((xs.take h.toNat).drop l.toNat)) st
   | .zc=>Fl (To lo 0) λl=>Fl (To hi 0) λh=>l=0/\h=0/\K .zc st
   | _=>False
theorem O5 {t e:TypeId}{inf:TypeInfo}(hu:P.underlying t=some (.slice e))(hi:P.info? e=some inf)(ad:Option Addr)(n cap l h:Nat)(lo tD:Option Value)
  (vu:(lo=none/\l=0)∨∃kk,lo=some (.int kk l)) (xx:(tD=none/\h=n)∨∃kk,tD=some (.int kk h)) (hl:l<=h) (hc:h<=cap) :
  (Instr.sliceAt t (.slice ad n cap) lo tD none).run P w=.ok (.slice (if cap=l then ad else ad.map (·.add (l*inf.size))) (h-l) (cap-l)) w:=by
 have e1:∀kk,(Instr.sliceBound (.int kk (h:Int)) cap (.sliceAcap)).run P w=.ok h w:=λkk=>by simp[Instr.sliceBound,asIntOf,hc]
 have e2:∀kk,(Instr.sliceBound (.int kk (l:Int)) h (.sliceB)).run P w=.ok l w:=λkk=>by simp[Instr.sliceBound,asIntOf,hl]
 rcases vu with ⟨rfl,rfl⟩|⟨kl,rfl⟩<;>rcases xx with ⟨rfl,rfl⟩|⟨kh,rfl⟩ <;>
  simp[Instr.sliceAt,me hu,Instr.slice,Instr.sliceBounds,sizeOf,typeInfo,hi,e1,e2]
def Su (F:Nat->Prop)(w:World)(os:List Own):Option AV->Option Value->Prop
 | none,none=>True
 | some x,some u=>Ae F w os x u
 | _,_=>False
theorem N6 {o:Option AV}{uo:Option Value}{d j:Int}(h:To o d=some j)(hr:Su F w os o uo):(uo=none/\o=none/\j=d)∨∃kk,uo=some (.int kk j):=by
 unfold To at h;split at h
 ·simp only[lX]at h;cases uo with
  | none=>exact .inl ⟨rfl,rfl,h.symm⟩
  | some u=>exact hr.elim
 ·simp only[lX]at h;subst h;cases uo with
  | none=>exact hr.elim
  | some u=>simp only[Su,Ae]at hr;exact .inr ⟨_,by rw[hr]⟩
 ·cases h
theorem ab {t:TypeId}{x:AV}{ux:Value}{lo hi mx:Option AV}{xW xX umx:Option Value}{K:AV->List Row->Prop}(hr:Rel F os s a w)(h:U4 P s.st t x lo hi mx K)(hx:Ae F w os x ux)
  (vu:Su F w os lo xW) (xx:Su F w os hi xX) (hmx:Su F w os mx umx):H9 P k F os s a w (Instr.sliceAt t ux xW xX umx) K:=by
 obtain⟨ei,he,h⟩:=BP h;obtain⟨inf,z,hu,tD,_,_,rQ,rC,_⟩:=IS he;cases mx with
 | some m=>
  cases m with
  | int km m=>
   obtain⟨rfl,rfl,hh,h9⟩:=h;cases hi with
   | none=>exact hh.elim
   | some hv=>
    cases hv with
    | int kh j=>
     simp only at hh;subst hh;cases xW with
     | some _=>exact vu.elim
     | none=>
      cases xX with
      | none=>exact xx.elim
      | some uh=>
       cases umx with
       | none=>exact hmx.elim
       | some um=>
        simp only[Su,Ae]at xx hmx;subst xx;subst hmx;have rB:∀ad n c,(Instr.sliceAt t (.slice ad n c) none (some (.int kh 0)) (some (.int km 0))).run P w=.ok (.slice ad 0 0) w:=λad n c=>by
         simp[Instr.sliceAt,me hu,Instr.slice,Instr.sliceBounds,Instr.sliceBound,asIntOf,sizeOf,typeInfo,tD]
        have vr:∀ad n c,K .zc s.st->H9 P k F os s a w (Instr.sliceAt t (.slice ad n c) none (some (.int kh 0)) (some (.int km 0))) K:=λad n c hk=>
         ⟨_,_,_,_,os,hk,rB ad n c,hr,by simp[Ae],Ext.refl _ _ _ _⟩
        cases x with
        | sl xs=>simp only[Ae]at hx;obtain⟨ad,cap,rfl,_⟩:=hx;exact vr _ _ _ h9
        | zc=>simp only[Ae]at hx;obtain⟨ad,rfl⟩:=hx;exact vr _ _ _ h9
        | own id g n=>
         obtain⟨row,qc,hg,hk⟩:=BP h9;simp only[Ae]at hx;obtain⟨o,ho,_,⟨ad,l,c,rfl⟩,_⟩:=hx;exact vr _ _ _ hk
        | _=>exact h9.elim
    | _=>exact hh.elim
  | _=>exact h.elim
 | none=>
  cases umx with
  | some _=>exact hmx.elim
  | none=>
   cases x with
   | own id g n=>
    obtain⟨row,qc,hg,xV,xY,h⟩:=BP h;obtain⟨j,hj,h0,wP,hk⟩:=BP h;obtain⟨o,ho,rfl⟩:=hr.row qc;obtain⟨J,rfl⟩:=mS h0;simp only[nY]at hk;simp only[Ae]at hx;obtain⟨o',rH,tz,_,hx⟩:=hx;rw[ho]at rH;cases rH;obtain⟨hnl,hx⟩:=hx hg;simp only[MM xV]at hx;have qf:=hr.rows id o ho;have h1:=N6 (F:=F) (w:=w) (os:=os) (uo:=xW) xY vu;have h2:=N6 (F:=F) (w:=w) (os:=os) (uo:=xX) hj xx;have tl:∀o':Own,(os.set id o')[id]?=some o':=λo'=>lp (lV.1 ho).1;have sR:=hr.Pt (k:=k) (o':={ o with row:={ o.row with gen:=g+1,xs:=o.row.xs.take J } }) ho (w':=w) (Hl.refl w _) (by simp[hg]) rfl (λe=>by simp[hg]at e) (λg hg=>.inl hg) (λqk=>by
     refine⟨qf.pos,λy hy=>qf.lens y (mq hy),λhn=>?_,λb rO=>?_,qf.mo,qf.deep.keep rfl (λ_ h=>h) rfl (λ_ _=>rfl) (λi x j e s ys hx hc=>by
      simp only[mJ]at hx;split at hx
      ·exact⟨x,hx,hc⟩
      ·cases hx)⟩
     ·have:=qf.none hn;simp[this.1,this.2]
     ·obtain⟨h1,cur,h2,h3,h4,h5,h6⟩:=qf.some b rO;refine⟨h1,cur,h2,h3,by simp;omega,h5,λi y hy j c hc=>?_⟩;simp only[mJ]at hy;split at hy
      ·obtain⟨u,e1,e2⟩:=h6 i y hy j c hc;exact⟨u,e1,qk _ _ e2⟩
      ·cases hy)
    have rB:∀ad cap,n<=cap->(Instr.sliceAt t (.slice ad n cap) xW xX none).run P w=.ok (.slice ad J cap) w:=λad cap tj=>by
     have:=O5 (P:=P) (w:=w) hu tD ad n cap 0 J xW xX (by rcases h1 with ⟨e,_,_⟩|⟨kk,e⟩;exact .inl ⟨e,rfl⟩;exact .inr ⟨kk,by simpa using e⟩)
      (by rcases h2 with ⟨e,_,e2⟩|⟨kk,e⟩;exact .inl ⟨e,by omega⟩;exact .inr ⟨kk,e⟩) (mB _) (by omega)
     rw[this];cases ad with
     | none=>simp
     | some ad=>simp[Addr.add]
    rcases hx with ⟨vJ,ad,rfl⟩|⟨b,Js,rfl⟩
    ·have vT:=qf.none vJ;simp only[vT.1,nD,pS]at hnl;subst hnl;have hJ:J=0:=by omega
     subst hJ;refine⟨_,_,_,_,_,hk,rB _ _ (ll _),sR.1,?_,sR.2.1⟩;simp only[Ae];exact⟨_,tl _,ll _,⟨_,_,_,rfl⟩,λ_=>⟨mB _,.inl ⟨vJ,_,rfl⟩⟩⟩
    ·obtain⟨_,_,_,_,h4,_⟩:=qf.some b Js;refine⟨_,_,_,_,_,hk,rB _ _ (by omega),sR.1,?_,sR.2.1⟩;simp only[Ae];exact⟨_,tl _,ll _,⟨_,_,_,rfl⟩,λ_=>⟨by simp;omega,.inr ⟨b,Js,(MM (o:=⟨⟨g+1,o.row.elem,o.row.size,o.row.xs.take J⟩,o.Fk,o.cap,o.more⟩) (by simp;omega)).symm⟩⟩⟩
   | sl xs=>
    obtain⟨l,hl,h⟩:=BP h;obtain⟨h',hh,h0,hlh,hhn,wO,hk⟩:=BP h;obtain⟨L,rfl⟩:=mS h0;obtain⟨H,rfl⟩:=mS (Int.le_trans h0 hlh);simp only[nY]at hk;have h1:=N6 (F:=F) (w:=w) (os:=os) (uo:=xW) hl vu;have h2:=N6 (F:=F) (w:=w) (os:=os) (uo:=xX) hh xx;simp only[Ae]at hx;obtain⟨ad,cap,rfl,tj,rE⟩:=hx;have rB:=O5 (P:=P) (w:=w) hu tD ad xs.length cap L H xW xX (by rcases h1 with ⟨e,_,e2⟩|⟨kk,e⟩;exact .inl ⟨e,by omega⟩;exact .inr ⟨kk,e⟩)
     (by rcases h2 with ⟨e,_,e2⟩|⟨kk,e⟩;exact .inl ⟨e,by omega⟩;exact .inr ⟨kk,e⟩) (by omega) (by omega)
    refine⟨_,_,_,_,os,hk,rB,hr,?_,Ext.refl _ _ _ _⟩;simp only[Ae];have hlen:((xs.take H).drop L).length=H-L:=by simp;omega
    refine⟨_,_,by rw[hlen],by omega,λwm=>?_⟩;have qw:L<H:=by
     rcases nb L H with h|h
     ·exact h
     ·exact absurd (mY (by omega)) wm
    obtain⟨b,o,size,rfl,hb,hss,sA⟩:=rE (by intro e;subst e;simp at hhn;omega);have hL:L<xs.length:=by omega
    have Gt:size=inf.size:=by rw[<- rC,<- wO _ (oD hL)];exact (hss _ (oD hL)).symm
    subst Gt;refine⟨b,o+L*inf.size,inf.size,?_,hb,λx hx=>hss x (mq (nR hx)),Lj (λx hx=>hss x (mq (nR hx))) λi x hx=>?_⟩
    ·rw[la (by omega)];simp[DK]
    ·rw[mU,mJ]at hx;split at hx
     ·have:=IT hss sA _ x hx;rwa [mM,<- nS]at this
     ·cases hx
   | zc=>
    obtain⟨l,hl,h⟩:=BP h;obtain⟨h',hh,rfl,rfl,hk⟩:=BP h;have h1:=N6 (F:=F) (w:=w) (os:=os) (uo:=xW) hl vu;have h2:=N6 (F:=F) (w:=w) (os:=os) (uo:=xX) hh xx;simp only[Ae]at hx;obtain⟨ad,rfl⟩:=hx;have rB:=O5 (P:=P) (w:=w) hu tD ad 0 0 0 0 xW xX (by rcases h1 with ⟨e,_,e2⟩|⟨kk,e⟩;exact .inl ⟨e,rfl⟩;exact .inr ⟨kk,e⟩)
     (by rcases h2 with ⟨e,_,e2⟩|⟨kk,e⟩;exact .inl ⟨e,rfl⟩;exact .inr ⟨kk,e⟩) (by omega) (by omega)
    exact⟨_,_,_,_,os,hk,rB,hr,by simp[Ae],Ext.refl _ _ _ _⟩
   | _=>exact h.elim
def Mg (place:Nat->Option (Nat×Nat)):List AV->List (Nat×AV)->Option (List AV)
 | cells,[]=>some cells
 | cells,(i,v)::r=>match place i with
  | none=>none
  | some (off,sz)=>match Kb v with
   | none=>none
   | some cs=>if cs.length=sz/\off+sz<=cells.length then Mg place (HG cells off cs) r else none
def J7 (P:Program)(t:TypeId):Option (List (Nat×Nat)):=
 match P.underlying t with
 | some (.struct fs)=>some (fs.toList.map λf=>(f.offset,P.cellsOf f.type))
 | _=>none
def Im (P:Program)(t:TypeId):Bool:=
 match P.underlying t with
 | some (.struct fs)=>fs.all λf=>(P.info? f.type).isSome
 | _=>false
def Y2 (P:Program)(t:TypeId)(parts:List (Nat×AV))(K:AV->Prop):Prop:=
 Im P t=true/\Fl (J7 P t) λfs=>Fl (ID P t) λz=>Fl (Mg (fs[·]?) z parts) λcs=>K (.agg cs)
def chunk (size:Nat):Nat->List AV->List (List AV)
 | 0,_=>[]
 | n+1,cs=>cs.take size::chunk size n (cs.drop size)
def O4 (P:Program)(st:List Row)(t:TypeId)(len:Nat)(parts:List (Nat×AV))(K:AV->List Row->Prop):Prop:=
 Fl (Ds P t) λei=>len*ei.size<=16777216/\Fl (Mg (λi=>some (i*ei.size,ei.size)) ((List.replicate len ei.zero).flatten) parts) λcs=>
  K (.own st.length 0 len) (st++[⟨0,ei.e,ei.size,chunk ei.size len cs⟩])
theorem Y3 {cells cs:List AV}{us vs:List Value}{off:Nat}(h1:Bs F w os cells us)(h2:Bs F w os cs vs)(hle:off+cs.length<=cells.length):
  Bs F w os (HG cells off cs) (us.take off++vs++us.drop (off+vs.length)):=by
 have l1:=BZ h1;have l2:=BZ h2;refine Db (by simp[HG];omega) λi x u hx hu=>?_;rw[QF _ _ _ _ (by omega)]at hx;have sK:(us.take off++vs++us.drop (off+vs.length))[i]?=if i<off then us[i]? else if i<off+vs.length then vs[i-off]? else us[i]?:=by
  have:=KM (cur:=us.toArray) (us:=vs) (p:=off) (j:=i) (by simp;omega);simpa using this
 rw[sK]at hu;rw[l2]at hu;split at hx
 ·rename_i hi;rw[ld hi]at hu;obtain⟨u',e1,e2⟩:=CO h1 i x hx;rw[e1]at hu;cases hu;exact e2
 ·rename_i hi;rw[la hi]at hu;split at hx
  ·rename_i xy;rw[ld xy]at hu;obtain⟨u',e1,e2⟩:=CO h2 _ x hx;rw[e1]at hu;cases hu;exact e2
  ·rename_i xy;rw[la xy]at hu;obtain⟨u',e1,e2⟩:=CO h1 i x hx;rw[e1]at hu;cases hu;exact e2
theorem YB (off:Nat):∀(vs:List Value) (j:Nat) (us:List Value),off+j+vs.length<=us.length->
  ((vs.zipIdx j).foldl (λ(cs:Array Value) (c:Value×Nat)=>cs.setIfInBounds (off+c.2) c.1) us.toArray)=(us.take (off+j)++vs++us.drop (off+j+vs.length)).toArray
 | [],j,us,_=>by simp
 | v::vs,j,us,h=>by
  simp only[mN]at h;simp only[List.zipIdx_cons,List.foldl_cons,List.setIfInBounds_toArray];rw[YB off vs (j+1) (us.set (off+j) v) (by simp;omega)];congr 1;have e:=list_seg_step us (off+j) v vs (by omega);simpa [nS] using e
theorem T5 (place:Nat->Option (Nat×Nat)):∀(parts:List (Nat×AV)) (uparts:List (Nat×Value)) (cells sx:List AV) (us:List Value),uparts.map (·.1)=parts.map (·.1)->
  (∀(i:Nat) p up,parts[i]?=some p->uparts[i]?=some up->Ae F w os p.2 up.2)->Bs F w os cells us->Mg place cells parts=some sx->
  ∃tM:List Value,Instr.fill place us.toArray uparts=some tM.toArray/\Bs F w os sx tM/\tM.length=us.length/\((∀c∈cells,c.leaf=true)->∀c∈sx,c.leaf=true)
 | [],up,cells,sx,us,hm,_,hc,h=>by
  have:up=[]:=by simpa using hm
  subst this;simp only[Mg,lX]at h;subst h;exact⟨us,rfl,hc,rfl,λh=>h⟩
 | (i,v)::r,[],_,_,_,hm,_,_,_=>by simp at hm
 | (i,v)::r,(i',u)::ur,cells,sx,us,hm,hp,hc,h=>by
  simp only[mF,oI]at hm;obtain⟨rfl,hm⟩:=hm;have hv:Ae F w os v u:=hp 0 (i',v) (i',u) rfl rfl;simp only[Mg]at h;split at h
  ·cases h
  rename_i off sz hpl;split at h
  ·cases h
  rename_i cs sa;split at h
  ·rename_i yV;obtain⟨uU,rM⟩:=Pg sa hv;have hl:=BZ uU;have xT:=BZ hc;simp only[nt]at hl;obtain⟨tM,e1,e2,e3,e4⟩:=T5 place r ur (HG cells off cs) sx (us.take off++u.cells.toList++us.drop (off+u.cells.toList.length)) hm
    (λj p up h1 h2=>hp (j+1) p up (by simpa using h1) (by simpa using h2)) (Y3 hc uU (by omega)) h
   refine⟨tM,?_,e2,?_,λvK=>e4 λc tn=>?_⟩
   ·simp only[Instr.fill,hpl];rw[la (by simp;omega)];rw[<- e1];congr 1;have:=YB off u.cells.toList 0 us (by simp;omega);simp only[nw]at this;rw[<- this,<- Array.foldl_toList,Array.toList_zipIdx]
   ·rw[e3];simp;omega
   ·unfold HG at tn;simp only[lz]at tn;rcases tn with (tn|tn)|tn
    ·exact vK c (mq tn)
    ·exact rM c tn
    ·exact vK c (nR tn)
  ·cases h
theorem QG {α β:Type}(g:α->Sem β)(f:α->β):∀(l:List α),(∀x∈l,(g x).run P w=.ok (f x) w)->(l.mapM g).run P w=.ok (l.map f) w
 | [],_=>by simp
 | x::l,h=>by
  have ih:=QG g f l (λy hy=>h y (by simp[hy]));simp[og,h x (by simp),ih]
theorem Ub {α β:Type}(g:α->Sem β)(f:α->β)(xs:Array α)(h :∀x∈xs,(g x).run P w=.ok (f x) w):(xs.mapM g).run P w=.ok (xs.map f) w:=by
 have h1:=QG (P:=P) (w:=w) g f xs.toList (λx hx=>h x (by simpa using hx));rw[Array.mapM_eq_mapM_toList,Sem.run_map,h1];have:(List.map f xs.toList).toArray=Array.map f xs:=by apply oM;simp
 simp[this]
theorem bX {t:TypeId}{parts:List (Nat×AV)}{uparts:Array (Nat×Value)}{K:AV->Prop}(h:Y2 P t parts K)(hm:uparts.toList.map (·.1)=parts.map (·.1))
  (hp :∀(i:Nat) p up,parts[i]?=some p->uparts.toList[i]?=some up->Ae F w os p.2 up.2):Yields P F w os (Instr.build t uparts) K:=by
 obtain⟨rp,h⟩:=h;obtain⟨fs,hfs,h⟩:=BP h;obtain⟨z,hz,h⟩:=BP h;obtain⟨cs,sa,hk⟩:=BP h;obtain⟨inf,zv,hi,hzv,rfl,hl,_⟩:=UM hz;unfold J7 at hfs;split at hfs
 case h_2=>cases hfs
 rename_i Lc hu;simp only[lX]at hfs;subst hfs;unfold Im at rp;simp only[hu]at rp;obtain⟨tM,e1,e2,_⟩:=T5 (F:=F) (w:=w) (os:=os) _ parts uparts.toList _ cs zv.cells.toList hm hp (Oc F w os _) sa;refine⟨_,.agg tM.toArray,hk,?_,by simp only[Ae];exact⟨tM,rfl,e2⟩⟩;have hmap:=Ub (P:=P) (w:=w) (λf:Field=>(do pure (f.offset,<- sizeOf f.type):Sem (Nat×Nat))) (λf=>(f.offset,P.cellsOf f.type)) Lc (λf hf=>by
  have h1:=Array.all_eq_true_iff_forall_mem.1 rp f hf;obtain⟨fi,hfi⟩:=Option.isSome_iff_exists.1 h1;simp[sizeOf,typeInfo,hfi,Program.cellsOf])
 have zI:(λ(i:Nat)=>(Lc.map λf=>(f.offset,P.cellsOf f.type))[i]?)=λ(i:Nat)=>(Lc.toList.map λf=>(f.offset,P.cellsOf f.type))[i]?:=by
  funext i;simp
 simp only[oN]at e1;simp only[Instr.build,mW,zeroValue,typeInfo,run_program,mT,hi,mm,hzv,me hu,hmap];rw[zI,e1];simp
theorem WQ {size:Nat}:∀{n:Nat} {cs:List AV},cs.length=n*size->(chunk size n cs).length=n/\(∀x∈chunk size n cs,x.length=size)/\
  ∀(i:Nat) x,(chunk size n cs)[i]?=some x->∀(j:Nat) c,x[j]?=some c->cs[i*size+j]?=some c
 | 0,cs,h=>by simp[chunk]
 | n+1,cs,h=>by
  have hl:(cs.drop size).length=n*size:=by rw[oE,h,mM];omega
  obtain⟨h1,h2,h3⟩:=WQ hl;have h0:size<=cs.length:=by rw[h,mM];omega
  refine⟨by simp[chunk,h1],λx hx=>?_,λi x hx j c hc=>?_⟩
  ·simp only[chunk,lk]at hx;rcases hx with rfl|hx
   ·simp;omega
   ·exact h2 x hx
  ·cases i with
   | zero=>
    simp only[chunk,mI,lX]at hx;subst hx;rw[mJ]at hc;split at hc
    ·simpa using hc
    ·cases hc
   | succ i=>
    simp only[chunk,mQ]at hx;have:=h3 i x hx j c hc;rw[mU]at this;rw[<- this];congr 1;rw[mM];omega
theorem O8 {t:TypeId}{len:Nat}{parts:List (Nat×AV)}{uparts:Array (Nat×Value)}{K:AV->List Row->Prop}(hr:Rel F os s a w)(h:O4 P s.st t len parts K)(hm:uparts.toList.map (·.1)=parts.map (·.1))
  (hp :∀(i:Nat) p up,parts[i]?=some p->uparts.toList[i]?=some up->Ae F w os p.2 up.2):H9 P k F os s a w (Instr.buildSlice t len uparts) K:=by
 obtain⟨ei,he,h⟩:=BP h;obtain⟨inf,z,hu,hi,hz,tP,rQ,rC,hby,hzero,hzl⟩:=IS he;obtain⟨hle,h⟩:=h;obtain⟨cs,sa,hk⟩:=BP h;have yW:ei.zero.length=ei.size:=by rw[hzero,rC,<- tP];simp
 have hz0:Bs F w os ((List.replicate len ei.zero).flatten) (madeCells z.cells (len*ei.size)).toList:=by
  refine Db (by simp[madeCells,yW]) λi x u hx sK=>?_;have rv:i<len*ei.size:=by have:=(lV.1 sK).1;simpa [madeCells] using this
  have hpos':0<ei.size:=by omega
  have tN:ei.zero[i % ei.size]?=some x:=by
   rw[<- hx];have uI:∀(n i:Nat),i<n*ei.size->((List.replicate n ei.zero).flatten)[i]?=ei.zero[i % ei.size]?:=λn=>by
    induction n with
    | zero=>intro i hi;simp at hi
    | succ n ih=>
     intro i hi;rw[List.replicate_succ,List.flatten_cons];rw[mM]at hi;by_cases qw:i<ei.size
     ·rw[lj (by omega),oQ qw]
     ·rw[ln (by omega),yW,ih _ (by omega)];congr 1;rw[Nat.mod_eq_sub_mod (by omega:i ≥ ei.size)]
   exact (uI len i rv).symm
  have uq:i % ei.size<z.cells.size:=by rw[tP,<- rC];exact Nat.mod_lt _ hpos'
  have sw:u=z.cells[i % ei.size]:=by
   have yX:i % z.cells.size<z.cells.size:=by rw[tP,<- rC];rw[tP,<- rC]at uq;exact uq
   simp[madeCells,rv]at sK;rw[<- sK];have:i % z.cells.size=i % ei.size:=by rw[tP,rC]
   simp[this,uq]
  subst sw;rw[hzero]at tN;simp only[lW,nk,mw uq,mZ,lX]at tN;subst tN;exact MI F w os _
 obtain⟨tM,e1,e2,e3,e4⟩:=T5 (F:=F) (w:=w) (os:=os) _ parts uparts.toList _ cs _ hm hp hz0 sa;have uJ:tM.length=len*ei.size:=by rw[e3];simp[madeCells]
 have vK:cs.length=len*ei.size:=by rw[<- BZ e2,uJ]
 obtain⟨c1,c2,c3⟩:=WQ vK;have rM:∀c∈cs,c.leaf=true:=e4 (λc hc=>by
  simp only[List.mem_flatten,pN]at hc;obtain⟨l,⟨_,rfl⟩,hc⟩:=hc;exact hzl c hc)
 have:=hr.Oa (k:=k) (.inl rfl) (cur:=tM.toArray) (e:=ei.e) (size:=ei.size) (cap:=len) (xs:=chunk ei.size len cs) (by omega) (λx hx=>⟨c2 x hx,λc hc=>by
   obtain⟨i,tD⟩:=lv.1 hx;obtain⟨j,hj⟩:=lv.1 hc;exact rM c (lT (c3 i x tD j c hj))⟩) (by simpa using uJ) (by omega) (by
    simp only[maxLen];have:len<=len*ei.size:=Nat.le_mul_of_pos_right _ (by omega);omega) (λi x hx j c hc=>by
   obtain⟨u,f1,f2⟩:=CO e2 _ _ (c3 i x hx j c hc);exact⟨u,by simpa using f1,f2⟩)
 refine⟨_,_,.slice (some ⟨w.heap.size,0,none⟩) len len,_,_,hk,?_,this.1,?_,this.2.1⟩
 ·have qw:¬ (16777216<len*inf.size):=by rw[<- rC];omega
  by_cases h0:len*inf.size=0
  ·have hlen0:len=0:=by rcases Nat.mul_eq_zero.1 h0 with h|h<;>omega
   subst hlen0;simp only[pJ]at uJ;have:tM=[]:=mY uJ;subst this;have xZ:Instr.fill (λi=>some (i*inf.size,inf.size)) (Array.map (λ_=>(default:Value)) (Array.range 0)) uparts.toList=some #[]:=by
    rw[<- rC];have:(Array.map (λ_=>(default:Value)) (Array.range 0))=(madeCells z.cells (0*ei.size)):=by simp[madeCells]
    rw[this];simpa using e1
   simp[Instr.buildSlice,me hu,sizeOf,typeInfo,hi,newRow,xZ]
  ·simp only[madeCells,oN]at e1;rw[rC]at e1;simp[Instr.buildSlice,me hu,sizeOf,typeInfo,zeroValue,hi,hz,newRow,qw,h0,e1]
 ·simp only[Ae];exact⟨_,by rw[hr.len];exact J0 _ _,ll _,⟨_,_,_,rfl⟩,λ_=>⟨by simp only;omega,.inr ⟨_,rfl,(MM (o:=⟨⟨0,ei.e,ei.size,chunk ei.size len cs⟩,some w.heap.size,len,Fe⟩) (by simp only;omega)).symm⟩⟩⟩
end Go.Abs
