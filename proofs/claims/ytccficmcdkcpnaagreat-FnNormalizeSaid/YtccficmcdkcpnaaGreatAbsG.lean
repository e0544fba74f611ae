import Derived.Test.YtccficmcdkcpnaaGreatAbsF
set_option linter.all false
namespace Go.Abs
open Go
variable {P : Program} {F : Nat -> Prop} {os : List Own} {s : St} {a : Act} {w : World} {k : Nat}
def Vi (o:Option AV)(d:Int):Option Int:=
 match o with
 | none=>some d
 | some (.int _ j)=>some j
 | _=>none
def W1 (P:Program)(st:List Row)(t:TypeId)(x:AV)(lo hi mx:Option AV)(K:AV->List Row->Prop):Prop:=
 Gb (DR P t) λei=>match mx with
  | some (.int _ m)=>m=0/\lo=none/\(match hi with|some (.int _ j)=>j=0|_=>False)/\(match x with|.sl _|.zc=>K .zc st|.own id g _=>Gb st[id]? λrow=>row.gen=g/\K .zc st|_=>False)
  | some _=>False
  | none=>match x with
   | .own id g n=>Gb st[id]? λrow=>row.gen=g/\n=row.xs.length/\Vi lo 0=some 0/\Gb (Vi hi n) λj=>0<=j/\j<=n/\K (.own id (g+1) j.toNat) (st.set id { row with gen:=g+1,xs:=row.xs.take j.toNat })
   | .sl xs=>Gb (Vi lo 0) λl=>Gb (Vi hi xs.length) λh=>0<=l/\l<=h/\h<=xs.length/\(∀x∈xs,x.length=ei.size)/\K (.sl ((xs.take h.toNat).drop l.toNat)) st
   | .zc=>Gb (Vi lo 0) λl=>Gb (Vi hi 0) λh=>l=0/\h=0/\K .zc st
   | _=>False
theorem Q7 {t e:TypeId}{inf:TypeInfo}(hu:P.underlying t=some (.slice e))(hi:P.info? e=some inf)(ad:Option Addr)(n cap l h:Nat)(lo xj:Option Value)
  (hlo:(lo=none/\l=0)∨∃kk,lo=some (.int kk l)) (hhi:(xj=none/\h=n)∨∃kk,xj=some (.int kk h)) (hl:l<=h) (hc:h<=cap) :
  (Instr.sliceAt t (.slice ad n cap) lo xj none).run P w=.ok (.slice (if cap=l then ad else ad.map (·.add (l*inf.size))) (h-l) (cap-l)) w:=by
 have e1:∀kk,(Instr.sliceBound (.int kk (h:Int)) cap (.sliceAcap)).run P w=.ok h w:=λkk=>by simp[Instr.sliceBound,asIntOf,hc]
 have e2:∀kk,(Instr.sliceBound (.int kk (l:Int)) h (.sliceB)).run P w=.ok l w:=λkk=>by simp[Instr.sliceBound,asIntOf,hl]
 rcases hlo with ⟨rfl,rfl⟩|⟨kl,rfl⟩<;>rcases hhi with ⟨rfl,rfl⟩|⟨kh,rfl⟩ <;>
  simp[Instr.sliceAt,rD hu,Instr.slice,Instr.sliceBounds,sizeOf,typeInfo,hi,e1,e2]
def UW (F:Nat->Prop)(w:World)(os:List Own):Option AV->Option Value->Prop
 | none,none=>True
 | some x,some u=>Ac F w os x u
 | _,_=>False
theorem P2 {o:Option AV}{uo:Option Value}{d j:Int}(h:Vi o d=some j)(hr:UW F w os o uo):(uo=none/\o=none/\j=d)∨∃kk,uo=some (.int kk j):=by
 unfold Vi at h;split at h
 ·simp only[pz]at h;cases uo with
  | none=>exact .inl ⟨rfl,rfl,h.symm⟩
  | some u=>exact hr.elim
 ·simp only[pz]at h;subst h;cases uo with
  | none=>exact hr.elim
  | some u=>simp only[UW,Ac]at hr;exact .inr ⟨_,by rw[hr]⟩
 ·cases h
theorem fU {t:TypeId}{x:AV}{ux:Value}{lo hi mx:Option AV}{ulo uhi umx:Option Value}{K:AV->List Row->Prop}(hr:Rel F os s a w)(h:W1 P s.st t x lo hi mx K)(hx:Ac F w os x ux)
  (hlo:UW F w os lo ulo) (hhi:UW F w os hi uhi) (hmx:UW F w os mx umx):Iu P k F os s a w (Instr.sliceAt t ux ulo uhi umx) K:=by
 obtain⟨ei,he,h⟩:=BN h;obtain⟨inf,z,hu,xj,_,_,ve,vY,_⟩:=Ii he;cases mx with
 | some m=>
  cases m with
  | int km m=>
   obtain⟨rfl,rfl,hh,h9⟩:=h;cases hi with
   | none=>exact hh.elim
   | some hv=>
    cases hv with
    | int kh j=>
     simp only at hh;subst hh;cases ulo with
     | some _=>exact hlo.elim
     | none=>
      cases uhi with
      | none=>exact hhi.elim
      | some uh=>
       cases umx with
       | none=>exact hmx.elim
       | some um=>
        simp only[UW,Ac]at hhi hmx;subst hhi;subst hmx;have vT:∀ad n c,(Instr.sliceAt t (.slice ad n c) none (some (.int kh 0)) (some (.int km 0))).run P w=.ok (.slice ad 0 0) w:=λad n c=>by
         simp[Instr.sliceAt,rD hu,Instr.slice,Instr.sliceBounds,Instr.sliceBound,asIntOf,sizeOf,typeInfo,xj]
        have hfin:∀ad n c,K .zc s.st->Iu P k F os s a w (Instr.sliceAt t (.slice ad n c) none (some (.int kh 0)) (some (.int km 0))) K:=λad n c hk=>
         ⟨_,_,_,_,os,hk,vT ad n c,hr,by simp[Ac],Ext.refl _ _ _ _⟩
        cases x with
        | sl xs=>simp only[Ac]at hx;obtain⟨ad,cap,rfl,_⟩:=hx;exact hfin _ _ _ h9
        | zc=>simp only[Ac]at hx;obtain⟨ad,rfl⟩:=hx;exact hfin _ _ _ h9
        | own id g n=>
         obtain⟨row,uj,hg,hk⟩:=BN h9;simp only[Ac]at hx;obtain⟨o,ho,_,⟨ad,l,c,rfl⟩,_⟩:=hx;exact hfin _ _ _ hk
        | _=>exact h9.elim
    | _=>exact hh.elim
  | _=>exact h.elim
 | none=>
  cases umx with
  | some _=>exact hmx.elim
  | none=>
   cases x with
   | own id g n=>
    obtain⟨row,uj,hg,hnw,hl0,h⟩:=BN h;obtain⟨j,hj,h0,hjn,hk⟩:=BN h;obtain⟨o,ho,rfl⟩:=hr.row uj;obtain⟨J,rfl⟩:=qu h0;simp only[rv]at hk;simp only[Ac]at hx;obtain⟨o',vc,yn,_,hx⟩:=hx;rw[ho]at vc;cases vc;obtain⟨hnl,hx⟩:=hx hg;simp only[OM hnw]at hx;have vF:=hr.rows id o ho;have h1:=P2 (F:=F) (w:=w) (os:=os) (uo:=ulo) hl0 hlo;have h2:=P2 (F:=F) (w:=w) (os:=os) (uo:=uhi) hj hhi;have yX:∀o':Own,(os.set id o')[id]?=some o':=λo'=>qI (px.1 ho).1;have xG:=hr.SM (k:=k) (o':={ o with row:={ o.row with gen:=g+1,xs:=o.row.xs.take J } }) ho (w':=w) (Iy.refl w _) (by simp[hg]) rfl (λe=>by simp[hg]at e) (λg hg=>.inl hg) (λvL=>by
     refine⟨vF.pos,λy hy=>vF.lens y (rO hy),λhn=>?_,λb vy=>?_,vF.mo,vF.deep.keep rfl (λ_ h=>h) rfl (λ_ _=>rfl) (λi x j e s ys hx hc=>by
      simp only[ql]at hx;split at hx
      ·exact⟨x,hx,hc⟩
      ·cases hx)⟩
     ·have:=vF.none hn;simp[this.1,this.2]
     ·obtain⟨h1,cur,h2,h3,h4,h5,h6⟩:=vF.some b vy;refine⟨h1,cur,h2,h3,by simp;omega,h5,λi y hy j c hc=>?_⟩;simp only[ql]at hy;split at hy
      ·obtain⟨u,e1,e2⟩:=h6 i y hy j c hc;exact⟨u,e1,vL _ _ e2⟩
      ·cases hy)
    have vT:∀ad cap,n<=cap->(Instr.sliceAt t (.slice ad n cap) ulo uhi none).run P w=.ok (.slice ad J cap) w:=λad cap yU=>by
     have:=Q7 (P:=P) (w:=w) hu xj ad n cap 0 J ulo uhi (by rcases h1 with ⟨e,_,_⟩|⟨kk,e⟩;exact .inl ⟨e,rfl⟩;exact .inr ⟨kk,by simpa using e⟩)
      (by rcases h2 with ⟨e,_,e2⟩|⟨kk,e⟩;exact .inl ⟨e,by omega⟩;exact .inr ⟨kk,e⟩) (qd _) (by omega)
     rw[this];cases ad with
     | none=>simp
     | some ad=>simp[Addr.add]
    rcases hx with ⟨zj,ad,rfl⟩|⟨b,LU,rfl⟩
    ·have hn0:=vF.none zj;simp only[hn0.1,qt,tY]at hnl;subst hnl;have hJ:J=0:=by omega
     subst hJ;refine⟨_,_,_,_,_,hk,vT _ _ (qU _),xG.1,?_,xG.2.1⟩;simp only[Ac];exact⟨_,yX _,qU _,⟨_,_,_,rfl⟩,λ_=>⟨qd _,.inl ⟨zj,_,rfl⟩⟩⟩
    ·obtain⟨_,_,_,_,h4,_⟩:=vF.some b LU;refine⟨_,_,_,_,_,hk,vT _ _ (by omega),xG.1,?_,xG.2.1⟩;simp only[Ac];exact⟨_,yX _,qU _,⟨_,_,_,rfl⟩,λ_=>⟨by simp;omega,.inr ⟨b,LU,(OM (o:=⟨⟨g+1,o.row.elem,o.row.size,o.row.xs.take J⟩,o.GB,o.cap,o.more⟩) (by simp;omega)).symm⟩⟩⟩
   | sl xs=>
    obtain⟨l,hl,h⟩:=BN h;obtain⟨h',hh,h0,hlh,hhn,hel,hk⟩:=BN h;obtain⟨L,rfl⟩:=qu h0;obtain⟨H,rfl⟩:=qu (Int.le_trans h0 hlh);simp only[rv]at hk;have h1:=P2 (F:=F) (w:=w) (os:=os) (uo:=ulo) hl hlo;have h2:=P2 (F:=F) (w:=w) (os:=os) (uo:=uhi) hh hhi;simp only[Ac]at hx;obtain⟨ad,cap,rfl,yU,vZ⟩:=hx;have vT:=Q7 (P:=P) (w:=w) hu xj ad xs.length cap L H ulo uhi (by rcases h1 with ⟨e,_,e2⟩|⟨kk,e⟩;exact .inl ⟨e,by omega⟩;exact .inr ⟨kk,e⟩)
     (by rcases h2 with ⟨e,_,e2⟩|⟨kk,e⟩;exact .inl ⟨e,by omega⟩;exact .inr ⟨kk,e⟩) (by omega) (by omega)
    refine⟨_,_,_,_,os,hk,vT,hr,?_,Ext.refl _ _ _ _⟩;simp only[Ac];have hlen:((xs.take H).drop L).length=H-L:=by simp;omega
    refine⟨_,_,by rw[hlen],by omega,λhne'=>?_⟩;have vS:L<H:=by
     rcases rn L H with h|h
     ·exact h
     ·exact absurd (qV (by omega)) hne'
    obtain⟨b,o,size,rfl,hb,hss,wV⟩:=vZ (by intro e;subst e;simp at hhn;omega);have hL:L<xs.length:=by omega
    have Hm:size=inf.size:=by rw[<- vY,<- hel _ (sR hL)];exact (hss _ (sR hL)).symm
    subst Hm;refine⟨b,o+L*inf.size,inf.size,?_,hb,λx hx=>hss x (rO (re hx)),L8 (λx hx=>hss x (rO (re hx))) λi x hx=>?_⟩
    ·rw[qG (by omega)];simp[Db]
    ·rw[qy,ql]at hx;split at hx
     ·have:=Mb hss wV _ x hx;rwa [qn,<- rF]at this
     ·cases hx
   | zc=>
    obtain⟨l,hl,h⟩:=BN h;obtain⟨h',hh,rfl,rfl,hk⟩:=BN h;have h1:=P2 (F:=F) (w:=w) (os:=os) (uo:=ulo) hl hlo;have h2:=P2 (F:=F) (w:=w) (os:=os) (uo:=uhi) hh hhi;simp only[Ac]at hx;obtain⟨ad,rfl⟩:=hx;have vT:=Q7 (P:=P) (w:=w) hu xj ad 0 0 0 0 ulo uhi (by rcases h1 with ⟨e,_,e2⟩|⟨kk,e⟩;exact .inl ⟨e,rfl⟩;exact .inr ⟨kk,e⟩)
     (by rcases h2 with ⟨e,_,e2⟩|⟨kk,e⟩;exact .inl ⟨e,rfl⟩;exact .inr ⟨kk,e⟩) (by omega) (by omega)
    exact⟨_,_,_,_,os,hk,vT,hr,by simp[Ac],Ext.refl _ _ _ _⟩
   | _=>exact h.elim
def NF (place:Nat->Option (Nat×Nat)):List AV->List (Nat×AV)->Option (List AV)
 | cells,[]=>some cells
 | cells,(i,v)::r=>match place i with
  | none=>none
  | some (off,sz)=>match Lo v with
   | none=>none
   | some cs=>if cs.length=sz/\off+sz<=cells.length then NF place (IK cells off cs) r else none
def Ig (P:Program)(t:TypeId):Option (List (Nat×Nat)):=
 match P.underlying t with
 | some (.struct fs)=>some (fs.toList.map λf=>(f.offset,P.cellsOf f.type))
 | _=>none
def HM (P:Program)(t:TypeId):Bool:=
 match P.underlying t with
 | some (.struct fs)=>fs.all λf=>(P.info? f.type).isSome
 | _=>false
def bH (P:Program)(t:TypeId)(parts:List (Nat×AV))(K:AV->Prop):Prop:=
 HM P t=true/\Gb (Ig P t) λfs=>Gb (HN P t) λz=>Gb (NF (fs[·]?) z parts) λcs=>K (.agg cs)
def chunk (size:Nat):Nat->List AV->List (List AV)
 | 0,_=>[]
 | n+1,cs=>cs.take size::chunk size n (cs.drop size)
def Qp (P:Program)(st:List Row)(t:TypeId)(len:Nat)(parts:List (Nat×AV))(K:AV->List Row->Prop):Prop:=
 Gb (DR P t) λei=>len*ei.size<=16777216/\Gb (NF (λi=>some (i*ei.size,ei.size)) ((List.replicate len ei.zero).flatten) parts) λcs=>
  K (.own st.length 0 len) (st++[⟨0,ei.e,ei.size,chunk ei.size len cs⟩])
theorem bC {cells cs:List AV}{us vs:List Value}{off:Nat}(h1:Bw F w os cells us)(h2:Bw F w os cs vs)(hle:off+cs.length<=cells.length):
  Bw F w os (IK cells off cs) (us.take off++vs++us.drop (off+vs.length)):=by
 have l1:=BW h1;have l2:=BW h2;refine Df (by simp[IK];omega) λi x u hx hu=>?_;rw[Rs _ _ _ _ (by omega)]at hx;have xB:(us.take off++vs++us.drop (off+vs.length))[i]?=if i<off then us[i]? else if i<off+vs.length then vs[i-off]? else us[i]?:=by
  have:=MG (cur:=us.toArray) (us:=vs) (p:=off) (j:=i) (by simp;omega);simpa using this
 rw[xB]at hu;rw[l2]at hu;split at hx
 ·rename_i hi;rw[qF hi]at hu;obtain⟨u',e1,e2⟩:=CJ h1 i x hx;rw[e1]at hu;cases hu;exact e2
 ·rename_i hi;rw[qG hi]at hu;split at hx
  ·rename_i hi2;rw[qF hi2]at hu;obtain⟨u',e1,e2⟩:=CJ h2 _ x hx;rw[e1]at hu;cases hu;exact e2
  ·rename_i hi2;rw[qG hi2]at hu;obtain⟨u',e1,e2⟩:=CJ h1 i x hx;rw[e1]at hu;cases hu;exact e2
theorem Z1 (off:Nat):∀(vs:List Value) (j:Nat) (us:List Value),off+j+vs.length<=us.length->
  ((vs.zipIdx j).foldl (λ(cs:Array Value) (c:Value×Nat)=>cs.setIfInBounds (off+c.2) c.1) us.toArray)=(us.take (off+j)++vs++us.drop (off+j+vs.length)).toArray
 | [],j,us,_=>by simp
 | v::vs,j,us,h=>by
  simp only[qa]at h;simp only[List.zipIdx_cons,List.foldl_cons,List.setIfInBounds_toArray];rw[Z1 off vs (j+1) (us.set (off+j) v) (by simp;omega)];congr 1;have e:=list_seg_step us (off+j) v vs (by omega);simpa [rF] using e
theorem VY (place:Nat->Option (Nat×Nat)):∀(parts:List (Nat×AV)) (uparts:List (Nat×Value)) (cells xZ:List AV) (us:List Value),uparts.map (·.1)=parts.map (·.1)->
  (∀(i:Nat) p up,parts[i]?=some p->uparts[i]?=some up->Ac F w os p.2 up.2)->Bw F w os cells us->NF place cells parts=some xZ->
  ∃yO:List Value,Instr.fill place us.toArray uparts=some yO.toArray/\Bw F w os xZ yO/\yO.length=us.length/\((∀c∈cells,c.leaf=true)->∀c∈xZ,c.leaf=true)
 | [],up,cells,xZ,us,hm,_,hc,h=>by
  have:up=[]:=by simpa using hm
  subst this;simp only[NF,pz]at h;subst h;exact⟨us,rfl,hc,rfl,λh=>h⟩
 | (i,v)::r,[],_,_,_,hm,_,_,_=>by simp at hm
 | (i,v)::r,(i',u)::ur,cells,xZ,us,hm,hp,hc,h=>by
  simp only[qj,sT]at hm;obtain⟨rfl,hm⟩:=hm;have hv:Ac F w os v u:=hp 0 (i',v) (i',u) rfl rfl;simp only[NF]at h;split at h
  ·cases h
  rename_i off sz zD;split at h
  ·cases h
  rename_i cs xV;split at h
  ·rename_i hif;obtain⟨hrl,vm⟩:=SQ xV hv;have hl:=BW hrl;have hlc:=BW hc;simp only[sG]at hl;obtain⟨yO,e1,e2,e3,e4⟩:=VY place r ur (IK cells off cs) xZ (us.take off++u.cells.toList++us.drop (off+u.cells.toList.length)) hm
    (λj p up h1 h2=>hp (j+1) p up (by simpa using h1) (by simpa using h2)) (bC hc hrl (by omega)) h
   refine⟨yO,?_,e2,?_,λyp=>e4 λc yY=>?_⟩
   ·simp only[Instr.fill,zD];rw[qG (by simp;omega)];rw[<- e1];congr 1;have:=Z1 off u.cells.toList 0 us (by simp;omega);simp only[tC]at this;rw[<- this,<- Array.foldl_toList,Array.toList_zipIdx]
   ·rw[e3];simp;omega
   ·unfold IK at yY;simp only[qb]at yY;rcases yY with (yY|yY)|yY
    ·exact yp c (rO yY)
    ·exact vm c yY
    ·exact yp c (re yY)
  ·cases h
theorem R6 {α β:Type}(g:α->Sem β)(f:α->β):∀(l:List α),(∀x∈l,(g x).run P w=.ok (f x) w)->(l.mapM g).run P w=.ok (l.map f) w
 | [],_=>by simp
 | x::l,h=>by
  have ih:=R6 g f l (λy hy=>h y (by simp[hy]));simp[tB,h x (by simp),ih]
theorem Wj {α β:Type}(g:α->Sem β)(f:α->β)(xs:Array α)(h :∀x∈xs,(g x).run P w=.ok (f x) w):(xs.mapM g).run P w=.ok (xs.map f) w:=by
 have h1:=R6 (P:=P) (w:=w) g f xs.toList (λx hx=>h x (by simpa using hx));rw[Array.mapM_eq_mapM_toList,Sem.run_map,h1];have:(List.map f xs.toList).toArray=Array.map f xs:=by apply sQ;simp
 simp[this]
theorem eA {t:TypeId}{parts:List (Nat×AV)}{uparts:Array (Nat×Value)}{K:AV->Prop}(h:bH P t parts K)(hm:uparts.toList.map (·.1)=parts.map (·.1))
  (hp :∀(i:Nat) p up,parts[i]?=some p->uparts.toList[i]?=some up->Ac F w os p.2 up.2):Yields P F w os (Instr.build t uparts) K:=by
 obtain⟨wY,h⟩:=h;obtain⟨fs,hfs,h⟩:=BN h;obtain⟨z,hz,h⟩:=BN h;obtain⟨cs,xV,hk⟩:=BN h;obtain⟨inf,zv,hi,hzv,rfl,hl,_⟩:=WN hz;unfold Ig at hfs;split at hfs
 case h_2=>cases hfs
 rename_i N7 hu;simp only[pz]at hfs;subst hfs;unfold HM at wY;simp only[hu]at wY;obtain⟨yO,e1,e2,_⟩:=VY (F:=F) (w:=w) (os:=os) _ parts uparts.toList _ cs zv.cells.toList hm hp (Qy F w os _) xV;refine⟨_,.agg yO.toArray,hk,?_,by simp only[Ac];exact⟨yO,rfl,e2⟩⟩;have hmap:=Wj (P:=P) (w:=w) (λf:Field=>(do pure (f.offset,<- sizeOf f.type):Sem (Nat×Nat))) (λf=>(f.offset,P.cellsOf f.type)) N7 (λf hf=>by
  have h1:=Array.all_eq_true_iff_forall_mem.1 wY f hf;obtain⟨fi,hfi⟩:=Option.isSome_iff_exists.1 h1;simp[sizeOf,typeInfo,hfi,Program.cellsOf])
 have hplace:(λ(i:Nat)=>(N7.map λf=>(f.offset,P.cellsOf f.type))[i]?)=λ(i:Nat)=>(N7.toList.map λf=>(f.offset,P.cellsOf f.type))[i]?:=by
  funext i;simp
 simp only[sZ]at e1;simp only[Instr.build,qs,zeroValue,typeInfo,run_program,qp,hi,rH,hzv,rD hu,hmap];rw[hplace,e1];simp
theorem Yf {size:Nat}:∀{n:Nat} {cs:List AV},cs.length=n*size->(chunk size n cs).length=n/\(∀x∈chunk size n cs,x.length=size)/\
  ∀(i:Nat) x,(chunk size n cs)[i]?=some x->∀(j:Nat) c,x[j]?=some c->cs[i*size+j]?=some c
 | 0,cs,h=>by simp[chunk]
 | n+1,cs,h=>by
  have hl:(cs.drop size).length=n*size:=by rw[sB,h,qn];omega
  obtain⟨h1,h2,h3⟩:=Yf hl;have h0:size<=cs.length:=by rw[h,qn];omega
  refine⟨by simp[chunk,h1],λx hx=>?_,λi x hx j c hc=>?_⟩
  ·simp only[chunk,qH]at hx;rcases hx with rfl|hx
   ·simp;omega
   ·exact h2 x hx
  ·cases i with
   | zero=>
    simp only[chunk,qg,pz]at hx;subst hx;rw[ql]at hc;split at hc
    ·simpa using hc
    ·cases hc
   | succ i=>
    simp only[chunk,qq]at hx;have:=h3 i x hx j c hc;rw[qy]at this;rw[<- this];congr 1;rw[qn];omega
theorem Np {t:TypeId}{len:Nat}{parts:List (Nat×AV)}{uparts:Array (Nat×Value)}{K:AV->List Row->Prop}(hr:Rel F os s a w)(h:Qp P s.st t len parts K)(hm:uparts.toList.map (·.1)=parts.map (·.1))
  (hp :∀(i:Nat) p up,parts[i]?=some p->uparts.toList[i]?=some up->Ac F w os p.2 up.2):Iu P k F os s a w (Instr.buildSlice t len uparts) K:=by
 obtain⟨ei,he,h⟩:=BN h;obtain⟨inf,z,hu,hi,hz,xh,ve,vY,hby,hzero,hzl⟩:=Ii he;obtain⟨hle,h⟩:=h;obtain⟨cs,xV,hk⟩:=BN h;have hzlen:ei.zero.length=ei.size:=by rw[hzero,vY,<- xh];simp
 have hz0:Bw F w os ((List.replicate len ei.zero).flatten) (madeCells z.cells (len*ei.size)).toList:=by
  refine Df (by simp[madeCells,hzlen]) λi x u hx xB=>?_;have wz:i<len*ei.size:=by have:=(px.1 xB).1;simpa [madeCells] using this
  have hpos':0<ei.size:=by omega
  have ym:ei.zero[i % ei.size]?=some x:=by
   rw[<- hx];have yP:∀(n i:Nat),i<n*ei.size->((List.replicate n ei.zero).flatten)[i]?=ei.zero[i % ei.size]?:=λn=>by
    induction n with
    | zero=>intro i hi;simp at hi
    | succ n ih=>
     intro i hi;rw[List.replicate_succ,List.flatten_cons];rw[qn]at hi;by_cases vS:i<ei.size
     ·rw[qK (by omega),sf vS]
     ·rw[qS (by omega),hzlen,ih _ (by omega)];congr 1;rw[Nat.mod_eq_sub_mod (by omega:i ≥ ei.size)]
   exact (yP len i wz).symm
  have zT:i % ei.size<z.cells.size:=by rw[xh,<- vY];exact Nat.mod_lt _ hpos'
  have xg:u=z.cells[i % ei.size]:=by
   have hmm:i % z.cells.size<z.cells.size:=by rw[xh,<- vY];rw[xh,<- vY]at zT;exact zT
   simp[madeCells,wz]at xB;rw[<- xB];have:i % z.cells.size=i % ei.size:=by rw[xh,vY]
   simp[this,zT]
  subst xg;rw[hzero]at ym;simp only[qA,ry,rU zT,qx,pz]at ym;subst ym;exact OI F w os _
 obtain⟨yO,e1,e2,e3,e4⟩:=VY (F:=F) (w:=w) (os:=os) _ parts uparts.toList _ cs _ hm hp hz0 xV;have zC:yO.length=len*ei.size:=by rw[e3];simp[madeCells]
 have yp:cs.length=len*ei.size:=by rw[<- BW e2,zC]
 obtain⟨c1,c2,c3⟩:=Yf yp;have vm:∀c∈cs,c.leaf=true:=e4 (λc hc=>by
  simp only[List.mem_flatten,List.mem_replicate]at hc;obtain⟨l,⟨_,rfl⟩,hc⟩:=hc;exact hzl c hc)
 have:=hr.Pa (k:=k) (.inl rfl) (cur:=yO.toArray) (e:=ei.e) (size:=ei.size) (cap:=len) (xs:=chunk ei.size len cs) (by omega) (λx hx=>⟨c2 x hx,λc hc=>by
   obtain⟨i,xj⟩:=qf.1 hx;obtain⟨j,hj⟩:=qf.1 hc;exact vm c (pt (c3 i x xj j c hj))⟩) (by simpa using zC) (by omega) (by
    simp only[maxLen];have:len<=len*ei.size:=Nat.le_mul_of_pos_right _ (by omega);omega) (λi x hx j c hc=>by
   obtain⟨u,f1,f2⟩:=CJ e2 _ _ (c3 i x hx j c hc);exact⟨u,by simpa using f1,f2⟩)
 refine⟨_,_,.slice (some ⟨w.heap.size,0,none⟩) len len,_,_,hk,?_,this.1,?_,this.2.1⟩
 ·have vS:¬ (16777216<len*inf.size):=by rw[<- vY];omega
  by_cases h0:len*inf.size=0
  ·have hlen0:len=0:=by rcases Nat.mul_eq_zero.1 h0 with h|h<;>omega
   subst hlen0;simp only[tP]at zC;have:yO=[]:=qV zC;subst this;have e1':Instr.fill (λi=>some (i*inf.size,inf.size)) (Array.map (λ_=>(default:Value)) (Array.range 0)) uparts.toList=some #[]:=by
    rw[<- vY];have:(Array.map (λ_=>(default:Value)) (Array.range 0))=(madeCells z.cells (0*ei.size)):=by simp[madeCells]
    rw[this];simpa using e1
   simp[Instr.buildSlice,rD hu,sizeOf,typeInfo,hi,newRow,e1']
  ·simp only[madeCells,sZ]at e1;rw[vY]at e1;simp[Instr.buildSlice,rD hu,sizeOf,typeInfo,zeroValue,hi,hz,newRow,vS,h0,e1]
 ·simp only[Ac];exact⟨_,by rw[hr.len];exact KU _ _,qU _,⟨_,_,_,rfl⟩,λ_=>⟨by simp only;omega,.inr ⟨_,rfl,(OM (o:=⟨⟨0,ei.e,ei.size,chunk ei.size len cs⟩,some w.heap.size,len,Ga⟩) (by simp only;omega)).symm⟩⟩⟩
end Go.Abs
