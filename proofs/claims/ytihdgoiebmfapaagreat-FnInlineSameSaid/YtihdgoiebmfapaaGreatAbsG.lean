import Derived.Test.YtihdgoiebmfapaaGreatAbsF
set_option linter.all false
namespace Go.Abs
open Go
variable {P : Program} {F : Nat -> Prop} {os : List Own} {s : St} {a : Act} {w : World} {k : Nat}
def VL (o:Option AV)(d:Int):Option Int:=
 match o with
 |none=>some d
 |some (.int _ j)=>some j
 |_=>none
def Wv (P:Program)(st:List Row)(t:TypeId)(x:AV)(lo hi mx:Option AV)(K:AV->List Row->Prop):Prop:=
 GK (DB P t) λei=>match mx with
  |some (.int _ m)=>m=0/\lo=none/\(match hi with|some (.int _ j)=>j=0|_=>False)/\(match x with|.sl _|.zc=>K .zc st|.own id g _=>GK st[id]? λrow=>row.gen=g/\K .zc st|_=>False)
  |some _=>False
  |none=>match x with
   |.own id g n=>GK st[id]? λrow=>row.gen=g/\n=row.xs.length/\VL lo 0=some 0/\GK (VL hi n) λj=>0<=j/\j<=n/\K (.own id (g+1) j.toNat) (st.set id { row with gen:=g+1,xs:=row.xs.take j.toNat })
   |.sl xs=>GK (VL lo 0) λl=>GK (VL hi xs.length) λh=>0<=l/\l<=h/\h<=xs.length/\(∀x∈xs,x.length=ei.size)/\K (.sl ((xs.take h.toNat).drop l.toNat)) st
   |.zc=>GK (VL lo 0) λl=>GK (VL hi 0) λh=>l=0/\h=0/\K .zc st
   |_=>False
theorem Mu {t e:TypeId}{inf:TypeInfo}(hu:P.underlying t=some (.slice e))(hi:P.info? e=some inf)(ad:Option Addr)(n cap l h:Nat)(lo xI:Option Value)
  (yR:(lo=none/\l=0)∨∃kk,lo=some (.int kk l)) (hhi:(xI=none/\h=n)∨∃kk,xI=some (.int kk h)) (hl:l<=h) (hc:h<=cap) :
  (Instr.sliceAt t (.slice ad n cap) lo xI none).run P w=.ok (.slice (if cap=l then ad else ad.map (·.add (l*inf.size))) (h-l) (cap-l)) w:=by
 have e1:∀kk,(Instr.sliceBound (.int kk (h:Int)) cap (.sliceAcap)).run P w=.ok h w:=λkk=>by simp[Instr.sliceBound,asIntOf,hc]
 have e2:∀kk,(Instr.sliceBound (.int kk (l:Int)) h (.sliceB)).run P w=.ok l w:=λkk=>by simp[Instr.sliceBound,asIntOf,hl]
 rcases yR with ⟨rfl,rfl⟩|⟨kl,rfl⟩<;>rcases hhi with ⟨rfl,rfl⟩|⟨kh,rfl⟩ <;>
  simp[Instr.sliceAt,qQ hu,Instr.slice,Instr.sliceBounds,sizeOf,typeInfo,hi,e1,e2]
def TR (F:Nat->Prop)(w:World)(os:List Own):Option AV->Option Value->Prop
 |none,none=>True
 |some x,some u=>Ab F w os x u
 |_,_=>False
theorem O2 {o:Option AV}{uo:Option Value}{d j:Int}(h:VL o d=some j)(hr:TR F w os o uo):(uo=none/\o=none/\j=d)∨∃kk,uo=some (.int kk j):=by
 unfold VL at h;split at h
 .simp only[pC]at h;cases uo with
  |none=>exact .inl ⟨rfl,rfl,h.symm⟩
  |some u=>exact hr.elim
 .simp only[pC]at h;subst h;cases uo with
  |none=>exact hr.elim
  |some u=>simp only[TR,Ab]at hr;exact .inr ⟨_,by rw[hr]⟩
 .cases h
theorem dX {t:TypeId}{x:AV}{ux:Value}{lo hi mx:Option AV}{ulo uhi umx:Option Value}{K:AV->List Row->Prop}(hr:Rel F os s a w)(h:Wv P s.st t x lo hi mx K)(hx:Ab F w os x ux)
  (yR:TR F w os lo ulo) (hhi:TR F w os hi uhi) (hmx:TR F w os mx umx):Ig P k F os s a w (Instr.sliceAt t ux ulo uhi umx) K:=by
 obtain⟨ei,he,h⟩:=BN h;obtain⟨inf,z,hu,xI,_,_,uz,ue,_⟩:=HP he;cases mx with
 |some m=>
  cases m with
  |int km m=>
   obtain⟨rfl,rfl,hh,h9⟩:=h;cases hi with
   |none=>exact hh.elim
   |some hv=>
    cases hv with
    |int kh j=>
     simp only at hh;subst hh;cases ulo with
     |some _=>exact yR.elim
     |none=>
      cases uhi with
      |none=>exact hhi.elim
      |some uh=>
       cases umx with
       |none=>exact hmx.elim
       |some um=>
        simp only[TR,Ab]at hhi hmx;subst hhi;subst hmx;have uP:∀ad n c,(Instr.sliceAt t (.slice ad n c) none (some (.int kh 0)) (some (.int km 0))).run P w=.ok (.slice ad 0 0) w:=λad n c=>by
         simp[Instr.sliceAt,qQ hu,Instr.slice,Instr.sliceBounds,Instr.sliceBound,asIntOf,sizeOf,typeInfo,xI]
        have hfin:∀ad n c,K .zc s.st->Ig P k F os s a w (Instr.sliceAt t (.slice ad n c) none (some (.int kh 0)) (some (.int km 0))) K:=λad n c hk=>
         ⟨_,_,_,_,os,hk,uP ad n c,hr,by simp[Ab],Ext.refl _ _ _ _⟩
        cases x with
        |sl xs=>simp only[Ab]at hx;obtain⟨ad,cap,rfl,_⟩:=hx;exact hfin _ _ _ h9
        |zc=>simp only[Ab]at hx;obtain⟨ad,rfl⟩:=hx;exact hfin _ _ _ h9
        |own id g n=>
         obtain⟨row,tv,hg,hk⟩:=BN h9;simp only[Ab]at hx;obtain⟨o,ho,_,⟨ad,l,c,rfl⟩,_⟩:=hx;exact hfin _ _ _ hk
        |_=>exact h9.elim
    |_=>exact hh.elim
  |_=>exact h.elim
 |none=>
  cases umx with
  |some _=>exact hmx.elim
  |none=>
   cases x with
   |own id g n=>
    obtain⟨row,tv,hg,hnw,hl0,h⟩:=BN h;obtain⟨j,hj,h0,hjn,hk⟩:=BN h;obtain⟨o,ho,rfl⟩:=hr.row tv;obtain⟨J,rfl⟩:=pb h0;simp only[qP]at hk;simp only[Ab]at hx;obtain⟨o',uw,xX,_,hx⟩:=hx;rw[ho]at uw;cases uw;obtain⟨hnl,hx⟩:=hx hg;simp only[NF hnw]at hx;have tz:=hr.rows id o ho;have h1:=O2 (F:=F) (w:=w) (os:=os) (uo:=ulo) hl0 yR;have h2:=O2 (F:=F) (w:=w) (os:=os) (uo:=uhi) hj hhi;have wI:∀o':Own,(os.set id o')[id]?=some o':=λo'=>pO (pA.1 ho).1;have wP:=hr.LM (k:=k) (o':={ o with row:={ o.row with gen:=g+1,xs:=o.row.xs.take J } }) ho (w':=w) (HA.refl w _) (by simp[hg]) rfl (λe=>by simp[hg]at e) (λg hg=>.inl hg) (λuG=>by
     refine⟨tz.pos,λy hy=>tz.lens y (qc hy),λhn=>?_,λb vF=>?_,tz.mo,tz.deep.keep rfl (λ_ h=>h) rfl (λ_ _=>rfl) (λi x j e s ys hx hc=>by
      simp only[pn]at hx;split at hx
      .exact⟨x,hx,hc⟩
      .cases hx)⟩
     .have:=tz.none hn;simp[this.1,this.2]
     .obtain⟨h1,cur,h2,h3,h4,h5,h6⟩:=tz.some b vF;refine⟨h1,cur,h2,h3,by simp;omega,h5,λi y hy j c hc=>?_⟩;simp only[pn]at hy;split at hy
      .obtain⟨u,e1,e2⟩:=h6 i y hy j c hc;exact⟨u,e1,uG _ _ e2⟩
      .cases hy)
    have uP:∀ad cap,n<=cap->(Instr.sliceAt t (.slice ad n cap) ulo uhi none).run P w=.ok (.slice ad J cap) w:=λad cap xM=>by
     have:=Mu (P:=P) (w:=w) hu xI ad n cap 0 J ulo uhi (by rcases h1 with ⟨e,_,_⟩|⟨kk,e⟩;exact .inl ⟨e,rfl⟩;exact .inr ⟨kk,by simpa using e⟩)
      (by rcases h2 with ⟨e,_,e2⟩|⟨kk,e⟩;exact .inl ⟨e,by omega⟩;exact .inr ⟨kk,e⟩) (pT _) (by omega)
     rw[this];cases ad with
     |none=>simp
     |some ad=>simp[Addr.add]
    rcases hx with ⟨zI,ad,rfl⟩|⟨b,Ip,rfl⟩
    .have zS:=tz.none zI;simp only[zS.1,qi,sw]at hnl;subst hnl;have hJ:J=0:=by omega
     subst hJ;refine⟨_,_,_,_,_,hk,uP _ _ (pL _),wP.1,?_,wP.2.1⟩;simp only[Ab];exact⟨_,wI _,pL _,⟨_,_,_,rfl⟩,λ_=>⟨pT _,.inl ⟨zI,_,rfl⟩⟩⟩
    .obtain⟨_,_,_,_,h4,_⟩:=tz.some b Ip;refine⟨_,_,_,_,_,hk,uP _ _ (by omega),wP.1,?_,wP.2.1⟩;simp only[Ab];exact⟨_,wI _,pL _,⟨_,_,_,rfl⟩,λ_=>⟨by simp;omega,.inr ⟨b,Ip,(NF (o:=⟨⟨g+1,o.row.elem,o.row.size,o.row.xs.take J⟩,o.GA,o.cap,o.more⟩) (by simp;omega)).symm⟩⟩⟩
   |sl xs=>
    obtain⟨l,hl,h⟩:=BN h;obtain⟨h',hh,h0,hlh,hhn,hel,hk⟩:=BN h;obtain⟨L,rfl⟩:=pb h0;obtain⟨H,rfl⟩:=pb (Int.le_trans h0 hlh);simp only[qP]at hk;have h1:=O2 (F:=F) (w:=w) (os:=os) (uo:=ulo) hl yR;have h2:=O2 (F:=F) (w:=w) (os:=os) (uo:=uhi) hh hhi;simp only[Ab]at hx;obtain⟨ad,cap,rfl,xM,uq⟩:=hx;have uP:=Mu (P:=P) (w:=w) hu xI ad xs.length cap L H ulo uhi (by rcases h1 with ⟨e,_,e2⟩|⟨kk,e⟩;exact .inl ⟨e,by omega⟩;exact .inr ⟨kk,e⟩)
     (by rcases h2 with ⟨e,_,e2⟩|⟨kk,e⟩;exact .inl ⟨e,by omega⟩;exact .inr ⟨kk,e⟩) (by omega) (by omega)
    refine⟨_,_,_,_,os,hk,uP,hr,?_,Ext.refl _ _ _ _⟩;simp only[Ab];have hlen:((xs.take H).drop L).length=H-L:=by simp;omega
    refine⟨_,_,by rw[hlen],by omega,λhne'=>?_⟩;have uU:L<H:=by
     rcases rG L H with h|h
     .exact h
     .exact absurd (qM (by omega)) hne'
    obtain⟨b,o,size,rfl,hb,hss,vn⟩:=uq (by intro e;subst e;simp at hhn;omega);have hL:L<xs.length:=by omega
    have E8:size=inf.size:=by rw[<- ue,<- hel _ (ra hL)];exact (hss _ (ra hL)).symm
    subst E8;refine⟨b,o+L*inf.size,inf.size,?_,hb,λx hx=>hss x (qc (qz hx)),MP (λx hx=>hss x (qc (qz hx))) λi x hx=>?_⟩
    .rw[pJ (by omega)];simp[Ce]
    .rw[qH,pn]at hx;split at hx
     .have:=Iv hss vn _ x hx;rwa [pt,<- qd]at this
     .cases hx
   |zc=>
    obtain⟨l,hl,h⟩:=BN h;obtain⟨h',hh,rfl,rfl,hk⟩:=BN h;have h1:=O2 (F:=F) (w:=w) (os:=os) (uo:=ulo) hl yR;have h2:=O2 (F:=F) (w:=w) (os:=os) (uo:=uhi) hh hhi;simp only[Ab]at hx;obtain⟨ad,rfl⟩:=hx;have uP:=Mu (P:=P) (w:=w) hu xI ad 0 0 0 0 ulo uhi (by rcases h1 with ⟨e,_,e2⟩|⟨kk,e⟩;exact .inl ⟨e,rfl⟩;exact .inr ⟨kk,e⟩)
     (by rcases h2 with ⟨e,_,e2⟩|⟨kk,e⟩;exact .inl ⟨e,rfl⟩;exact .inr ⟨kk,e⟩) (by omega) (by omega)
    exact⟨_,_,_,_,os,hk,uP,hr,by simp[Ab],Ext.refl _ _ _ _⟩
   |_=>exact h.elim
def Md (place:Nat->Option (Nat×Nat)):List AV->List (Nat×AV)->Option (List AV)
 |cells,[]=>some cells
 |cells,(i,v)::r=>match place i with
  |none=>none
  |some (off,sz)=>match J9 v with
   |none=>none
   |some cs=>if cs.length=sz/\off+sz<=cells.length then Md place (HL cells off cs) r else none
def Kl (P:Program)(t:TypeId):Option (List (Nat×Nat)):=
 match P.underlying t with
 |some (.struct fs)=>some (fs.toList.map λf=>(f.offset,P.cellsOf f.type))
 |_=>none
def I6 (P:Program)(t:TypeId):Bool:=
 match P.underlying t with
 |some (.struct fs)=>fs.all λf=>(P.info? f.type).isSome
 |_=>false
def ay (P:Program)(t:TypeId)(parts:List (Nat×AV))(K:AV->Prop):Prop:=
 I6 P t=true/\GK (Kl P t) λfs=>GK (IK P t) λz=>GK (Md (fs[·]?) z parts) λcs=>K (.agg cs)
def chunk (size:Nat):Nat->List AV->List (List AV)
 |0,_=>[]
 |n+1,cs=>cs.take size::chunk size n (cs.drop size)
def Pc (P:Program)(st:List Row)(t:TypeId)(len:Nat)(parts:List (Nat×AV))(K:AV->List Row->Prop):Prop:=
 GK (DB P t) λei=>len*ei.size<=16777216/\GK (Md (λi=>some (i*ei.size,ei.size)) ((List.replicate len ei.zero).flatten) parts) λcs=>
  K (.own st.length 0 len) (st++[⟨0,ei.e,ei.size,chunk ei.size len cs⟩])
theorem Zz {cells cs:List AV}{us vs:List Value}{off:Nat}(h1:Br F w os cells us)(h2:Br F w os cs vs)(hle:off+cs.length<=cells.length):
  Br F w os (HL cells off cs) (us.take off++vs++us.drop (off+vs.length)):=by
 have l1:=BX h1;have l2:=BX h2;refine Db (by simp[HL];omega) λi x u hx hu=>?_;rw[Q4 _ _ _ _ (by omega)]at hx;have vo:(us.take off++vs++us.drop (off+vs.length))[i]?=if i<off then us[i]? else if i<off+vs.length then vs[i-off]? else us[i]?:=by
  have:=LA (cur:=us.toArray) (us:=vs) (p:=off) (j:=i) (by simp;omega);simpa using this
 rw[vo]at hu;rw[l2]at hu;split at hx
 .rename_i hi;rw[pI hi]at hu;obtain⟨u',e1,e2⟩:=CH h1 i x hx;rw[e1]at hu;cases hu;exact e2
 .rename_i hi;rw[pJ hi]at hu;split at hx
  .rename_i hi2;rw[pI hi2]at hu;obtain⟨u',e1,e2⟩:=CH h2 _ x hx;rw[e1]at hu;cases hu;exact e2
  .rename_i hi2;rw[pJ hi2]at hu;obtain⟨u',e1,e2⟩:=CH h1 i x hx;rw[e1]at hu;cases hu;exact e2
theorem ZO (off:Nat):∀(vs:List Value) (j:Nat) (us:List Value),off+j+vs.length<=us.length->
  ((vs.zipIdx j).foldl (λ(cs:Array Value) (c:Value×Nat)=>cs.setIfInBounds (off+c.2) c.1) us.toArray)=(us.take (off+j)++vs++us.drop (off+j+vs.length)).toArray
 | [],j,us,_=>by simp
 |v::vs,j,us,h=>by
  simp only[po]at h;simp only[List.zipIdx_cons,List.foldl_cons,List.setIfInBounds_toArray];rw[ZO off vs (j+1) (us.set (off+j) v) (by simp;omega)];congr 1;have e:=list_seg_step us (off+j) v vs (by omega);simpa [qd] using e
theorem VA (place:Nat->Option (Nat×Nat)):∀(parts:List (Nat×AV)) (uparts:List (Nat×Value)) (cells xC:List AV) (us:List Value),uparts.map (·.1)=parts.map (·.1)->
  (∀(i:Nat) p up,parts[i]?=some p->uparts[i]?=some up->Ab F w os p.2 up.2)->Br F w os cells us->Md place cells parts=some xC->
  ∃xR:List Value,Instr.fill place us.toArray uparts=some xR.toArray/\Br F w os xC xR/\xR.length=us.length/\((∀c∈cells,c.leaf=true)->∀c∈xC,c.leaf=true)
 | [],up,cells,xC,us,hm,_,hc,h=>by
  have:up=[]:=by simpa using hm
  subst this;simp only[Md,pC]at h;subst h;exact⟨us,rfl,hc,rfl,λh=>h⟩
 |(i,v)::r,[],_,_,_,hm,_,_,_=>by simp at hm
 |(i,v)::r,(i',u)::ur,cells,xC,us,hm,hp,hc,h=>by
  simp only[pc,rp]at hm;obtain⟨rfl,hm⟩:=hm;have hv:Ab F w os v u:=hp 0 (i',v) (i',u) rfl rfl;simp only[Md]at h;split at h
  .cases h
  rename_i off sz hpl;split at h
  .cases h
  rename_i cs vq;split at h
  .rename_i hif;obtain⟨ye,vE⟩:=Qd vq hv;have hl:=BX ye;have hlc:=BX hc;simp only[rO]at hl;obtain⟨xR,e1,e2,e3,e4⟩:=VA place r ur (HL cells off cs) xC (us.take off++u.cells.toList++us.drop (off+u.cells.toList.length)) hm
    (λj p up h1 h2=>hp (j+1) p up (by simpa using h1) (by simpa using h2)) (Zz hc ye (by omega)) h
   refine⟨xR,?_,e2,?_,λxZ=>e4 λc yA=>?_⟩
   .simp only[Instr.fill,hpl];rw[pJ (by simp;omega)];rw[<- e1];congr 1;have:=ZO off u.cells.toList 0 us (by simp;omega);simp only[qo]at this;rw[<- this,<- Array.foldl_toList,Array.toList_zipIdx]
   .rw[e3];simp;omega
   .unfold HL at yA;simp only[pX]at yA;rcases yA with (yA|yA)|yA
    .exact xZ c (qc yA)
    .exact vE c yA
    .exact xZ c (qz yA)
  .cases h
theorem QO {α β:Type}(g:α->Sem β)(f:α->β):∀(l:List α),(∀x∈l,(g x).run P w=.ok (f x) w)->(l.mapM g).run P w=.ok (l.map f) w
 | [],_=>by simp
 |x::l,h=>by
  have ih:=QO g f l (λy hy=>h y (by simp[hy]));simp[sS,h x (by simp),ih]
theorem WY {α β:Type}(g:α->Sem β)(f:α->β)(xs:Array α)(h :∀x∈xs,(g x).run P w=.ok (f x) w):(xs.mapM g).run P w=.ok (xs.map f) w:=by
 have h1:=QO (P:=P) (w:=w) g f xs.toList (λx hx=>h x (by simpa using hx));rw[Array.mapM_eq_mapM_toList,Sem.run_map,h1];have:(List.map f xs.toList).toArray=Array.map f xs:=by apply rv;simp
 simp[this]
theorem eb {t:TypeId}{parts:List (Nat×AV)}{uparts:Array (Nat×Value)}{K:AV->Prop}(h:ay P t parts K)(hm:uparts.toList.map (·.1)=parts.map (·.1))
  (hp :∀(i:Nat) p up,parts[i]?=some p->uparts.toList[i]?=some up->Ab F w os p.2 up.2):Yields P F w os (Instr.build t uparts) K:=by
 obtain⟨vd,h⟩:=h;obtain⟨fs,hfs,h⟩:=BN h;obtain⟨z,hz,h⟩:=BN h;obtain⟨cs,vq,hk⟩:=BN h;obtain⟨inf,zv,hi,hzv,rfl,hl,_⟩:=V3 hz;unfold Kl at hfs;split at hfs
 case h_2=>cases hfs
 rename_i Nc hu;simp only[pC]at hfs;subst hfs;unfold I6 at vd;simp only[hu]at vd;obtain⟨xR,e1,e2,_⟩:=VA (F:=F) (w:=w) (os:=os) _ parts uparts.toList _ cs zv.cells.toList hm hp (PU F w os _) vq;refine⟨_,.agg xR.toArray,hk,?_,by simp only[Ab];exact⟨xR,rfl,e2⟩⟩;have hmap:=WY (P:=P) (w:=w) (λf:Field=>(do pure (f.offset,<- sizeOf f.type):Sem (Nat×Nat))) (λf=>(f.offset,P.cellsOf f.type)) Nc (λf hf=>by
  have h1:=Array.all_eq_true_iff_forall_mem.1 vd f hf;obtain⟨fi,hfi⟩:=Option.isSome_iff_exists.1 h1;simp[sizeOf,typeInfo,hfi,Program.cellsOf])
 have hplace:(λ(i:Nat)=>(Nc.map λf=>(f.offset,P.cellsOf f.type))[i]?)=λ(i:Nat)=>(Nc.toList.map λf=>(f.offset,P.cellsOf f.type))[i]?:=by
  funext i;simp
 simp only[ry]at e1;simp only[Instr.build,qG,zeroValue,typeInfo,run_program,qD,hi,qV,hzv,qQ hu,hmap];rw[hplace,e1];simp
theorem W8 {size:Nat}:∀{n:Nat} {cs:List AV},cs.length=n*size->(chunk size n cs).length=n/\(∀x∈chunk size n cs,x.length=size)/\
  ∀(i:Nat) x,(chunk size n cs)[i]?=some x->∀(j:Nat) c,x[j]?=some c->cs[i*size+j]?=some c
 |0,cs,h=>by simp[chunk]
 |n+1,cs,h=>by
  have hl:(cs.drop size).length=n*size:=by rw[rb,h,pt];omega
  obtain⟨h1,h2,h3⟩:=W8 hl;have h0:size<=cs.length:=by rw[h,pt];omega
  refine⟨by simp[chunk,h1],λx hx=>?_,λi x hx j c hc=>?_⟩
  .simp only[chunk,pK]at hx;rcases hx with rfl|hx
   .simp;omega
   .exact h2 x hx
  .cases i with
   |zero=>
    simp only[chunk,ph,pC]at hx;subst hx;rw[pn]at hc;split at hc
    .simpa using hc
    .cases hc
   |succ i=>
    simp only[chunk,py]at hx;have:=h3 i x hx j c hc;rw[qH]at this;rw[<- this];congr 1;rw[pt];omega
theorem Px {t:TypeId}{len:Nat}{parts:List (Nat×AV)}{uparts:Array (Nat×Value)}{K:AV->List Row->Prop}(hr:Rel F os s a w)(h:Pc P s.st t len parts K)(hm:uparts.toList.map (·.1)=parts.map (·.1))
  (hp :∀(i:Nat) p up,parts[i]?=some p->uparts.toList[i]?=some up->Ab F w os p.2 up.2):Ig P k F os s a w (Instr.buildSlice t len uparts) K:=by
 obtain⟨ei,he,h⟩:=BN h;obtain⟨inf,z,hu,hi,hz,wb,uz,ue,hby,hzero,hzl⟩:=HP he;obtain⟨hle,h⟩:=h;obtain⟨cs,vq,hk⟩:=BN h;have hzlen:ei.zero.length=ei.size:=by rw[hzero,ue,<- wb];simp
 have hz0:Br F w os ((List.replicate len ei.zero).flatten) (madeCells z.cells (len*ei.size)).toList:=by
  refine Db (by simp[madeCells,hzlen]) λi x u hx vo=>?_;have vk:i<len*ei.size:=by have:=(pA.1 vo).1;simpa [madeCells] using this
  have hpos':0<ei.size:=by omega
  have xS:ei.zero[i % ei.size]?=some x:=by
   rw[<- hx];have yP:∀(n i:Nat),i<n*ei.size->((List.replicate n ei.zero).flatten)[i]?=ei.zero[i % ei.size]?:=λn=>by
    induction n with
    |zero=>intro i hi;simp at hi
    |succ n ih=>
     intro i hi;rw[List.replicate_succ,List.flatten_cons];rw[pt]at hi;by_cases uU:i<ei.size
     .rw[pM (by omega),sB uU]
     .rw[pN (by omega),hzlen,ih _ (by omega)];congr 1;rw[Nat.mod_eq_sub_mod (by omega:i ≥ ei.size)]
   exact (yP len i vk).symm
  have yy:i % ei.size<z.cells.size:=by rw[wb,<- ue];exact Nat.mod_lt _ hpos'
  have xB:u=z.cells[i % ei.size]:=by
   have hmm:i % z.cells.size<z.cells.size:=by rw[wb,<- ue];rw[wb,<- ue]at yy;exact yy
   simp[madeCells,vk]at vo;rw[<- vo];have:i % z.cells.size=i % ei.size:=by rw[wb,ue]
   simp[this,yy]
  subst xB;rw[hzero]at xS;simp only[pB,qw,qh yy,qF,pC]at xS;subst xS;exact Mt F w os _
 obtain⟨xR,e1,e2,e3,e4⟩:=VA (F:=F) (w:=w) (os:=os) _ parts uparts.toList _ cs _ hm hp hz0 vq;have yQ:xR.length=len*ei.size:=by rw[e3];simp[madeCells]
 have xZ:cs.length=len*ei.size:=by rw[<- BX e2,yQ]
 obtain⟨c1,c2,c3⟩:=W8 xZ;have vE:∀c∈cs,c.leaf=true:=e4 (λc hc=>by
  simp only[List.mem_flatten,List.mem_replicate]at hc;obtain⟨l,⟨_,rfl⟩,hc⟩:=hc;exact hzl c hc)
 have:=hr.PN (k:=k) (.inl rfl) (cur:=xR.toArray) (e:=ei.e) (size:=ei.size) (cap:=len) (xs:=chunk ei.size len cs) (by omega) (λx hx=>⟨c2 x hx,λc hc=>by
   obtain⟨i,xI⟩:=pY.1 hx;obtain⟨j,hj⟩:=pY.1 hc;exact vE c (ov (c3 i x xI j c hj))⟩) (by simpa using yQ) (by omega) (by
    simp only[maxLen];have:len<=len*ei.size:=Nat.le_mul_of_pos_right _ (by omega);omega) (λi x hx j c hc=>by
   obtain⟨u,f1,f2⟩:=CH e2 _ _ (c3 i x hx j c hc);exact⟨u,by simpa using f1,f2⟩)
 refine⟨_,_,.slice (some ⟨w.heap.size,0,none⟩) len len,_,_,hk,?_,this.1,?_,this.2.1⟩
 .have uU:¬ (16777216<len*inf.size):=by rw[<- ue];omega
  by_cases h0:len*inf.size=0
  .have hlen0:len=0:=by rcases Nat.mul_eq_zero.1 h0 with h|h<;>omega
   subst hlen0;simp only[sC]at yQ;have:xR=[]:=qM yQ;subst this;have e1':Instr.fill (λi=>some (i*inf.size,inf.size)) (Array.map (λ_=>(default:Value)) (Array.range 0)) uparts.toList=some #[]:=by
    rw[<- ue];have:(Array.map (λ_=>(default:Value)) (Array.range 0))=(madeCells z.cells (0*ei.size)):=by simp[madeCells]
    rw[this];simpa using e1
   simp[Instr.buildSlice,qQ hu,sizeOf,typeInfo,hi,newRow,e1']
  .simp only[madeCells,ry]at e1;rw[ue]at e1;simp[Instr.buildSlice,qQ hu,sizeOf,typeInfo,zeroValue,hi,hz,newRow,uU,h0,e1]
 .simp only[Ab];exact⟨_,by rw[hr.len];exact J1 _ _,pL _,⟨_,_,_,rfl⟩,λ_=>⟨by simp only;omega,.inr ⟨_,rfl,(NF (o:=⟨⟨0,ei.e,ei.size,chunk ei.size len cs⟩,some w.heap.size,len,GF⟩) (by simp only;omega)).symm⟩⟩⟩
end Go.Abs
