import Derived.Test.YtgiajkaabnbieaaGreatAbsF
set_option linter.all false
namespace Go.Abs
open Go
variable {P : Program} {F : Nat -> Prop} {os : List Own} {s : St} {a : Act} {w : World} {k : Nat}
def TR (o:Option AV)(d:Int):Option Int:=
 match o with
 | none=>some d
 | some (.int _ j)=>some j
 | _=>none
def VF (P:Program)(st:List Row)(t:TypeId)(x:AV)(lo hi mx:Option AV)(K:AV->List Row->Prop):Prop:=
 Fk (Cj P t) λei=>match mx with
  | some (.int _ m)=>m=0/\lo=none/\(match hi with|some (.int _ j)=>j=0|_=>False)/\(match x with|.sl _|.zc=>K .zc st|.own id g _=>Fk st[id]? λrow=>row.gen=g/\K .zc st|_=>False)
  | some _=>False
  | none=>match x with
   | .own id g n=>Fk st[id]? λrow=>row.gen=g/\n=row.xs.length/\TR lo 0=some 0/\Fk (TR hi n) λj=>0<=j/\j<=n/\K (.own id (g+1) j.toNat) (st.set id { row with gen:=g+1,xs:=row.xs.take j.toNat })
   | .sl xs=>Fk (TR lo 0) λl=>Fk (TR hi xs.length) λh=>0<=l/\l<=h/\h<=xs.length/\(∀x∈xs,x.length=ei.size)/\K (.sl ((xs.take h.toNat).drop l.toNat)) st
   | .zc=>Fk (TR lo 0) λl=>Fk (TR hi 0) λh=>l=0/\h=0/\K .zc st
   | _=>False
theorem Ow {t e:TypeId}{inf:TypeInfo}(hu:P.underlying t=some (.slice e))(hi:P.info? e=some inf)(ad:Option Addr)(n cap l h:Nat)(lo tO:Option Value)
  (wJ:(lo=none/\l=0)∨∃kk,lo=some (.int kk l)) (xY:(tO=none/\h=n)∨∃kk,tO=some (.int kk h)) (hl:l<=h) (hc:h<=cap) :
  (Instr.sliceAt t (.slice ad n cap) lo tO none).run P w=.ok (.slice (if cap=l then ad else ad.map (·.add (l*inf.size))) (h-l) (cap-l)) w:=by
 have e1:∀kk,(Instr.sliceBound (.int kk (h:Int)) cap (.sliceAcap)).run P w=.ok h w:=λkk=>by simp[Instr.sliceBound,asIntOf,hc]
 have e2:∀kk,(Instr.sliceBound (.int kk (l:Int)) h (.sliceB)).run P w=.ok l w:=λkk=>by simp[Instr.sliceBound,asIntOf,hl]
 rcases wJ with ⟨rfl,rfl⟩|⟨kl,rfl⟩<;>rcases xY with ⟨rfl,rfl⟩|⟨kh,rfl⟩ <;>
  simp[Instr.sliceAt,nR hu,Instr.slice,Instr.sliceBounds,sizeOf,typeInfo,hi,e1,e2]
def Sf (F:Nat->Prop)(w:World)(os:List Own):Option AV->Option Value->Prop
 | none,none=>True
 | some x,some u=>Ae F w os x u
 | _,_=>False
theorem Ol {o:Option AV}{uo:Option Value}{d j:Int}(h:TR o d=some j)(hr:Sf F w os o uo):(uo=none/\o=none/\j=d)∨∃kk,uo=some (.int kk j):=by
 unfold TR at h;split at h
 ·simp only[mE]at h;cases uo with
  | none=>exact .inl ⟨rfl,rfl,h.symm⟩
  | some u=>exact hr.elim
 ·simp only[mE]at h;subst h;cases uo with
  | none=>exact hr.elim
  | some u=>simp only[Sf,Ae]at hr;exact .inr ⟨_,by rw[hr]⟩
 ·cases h
theorem aw {t:TypeId}{x:AV}{ux:Value}{lo hi mx:Option AV}{xJ xK umx:Option Value}{K:AV->List Row->Prop}(hr:Rel F os s a w)(h:VF P s.st t x lo hi mx K)(hx:Ae F w os x ux)
  (wJ:Sf F w os lo xJ) (xY:Sf F w os hi xK) (vh:Sf F w os mx umx):HG P k F os s a w (Instr.sliceAt t ux xJ xK umx) K:=by
 obtain⟨ei,he,h⟩:=Ax h;obtain⟨inf,z,hu,tO,_,_,ru,rP,_⟩:=IY he;cases mx with
 | some m=>
  cases m with
  | int km m=>
   obtain⟨rfl,rfl,hh,h9⟩:=h;cases hi with
   | none=>exact hh.elim
   | some hv=>
    cases hv with
    | int kh j=>
     simp only at hh;subst hh;cases xJ with
     | some _=>exact wJ.elim
     | none=>
      cases xK with
      | none=>exact xY.elim
      | some uh=>
       cases umx with
       | none=>exact vh.elim
       | some um=>
        simp only[Sf,Ae]at xY vh;subst xY;subst vh;have rO:∀ad n c,(Instr.sliceAt t (.slice ad n c) none (some (.int kh 0)) (some (.int km 0))).run P w=.ok (.slice ad 0 0) w:=λad n c=>by
         simp[Instr.sliceAt,nR hu,Instr.slice,Instr.sliceBounds,Instr.sliceBound,asIntOf,sizeOf,typeInfo,tO]
        have vu:∀ad n c,K .zc s.st->HG P k F os s a w (Instr.sliceAt t (.slice ad n c) none (some (.int kh 0)) (some (.int km 0))) K:=λad n c hk=>
         ⟨_,_,_,_,os,hk,rO ad n c,hr,by simp[Ae],Ext.refl _ _ _ _⟩
        cases x with
        | sl xs=>simp only[Ae]at hx;obtain⟨ad,cap,rfl,_⟩:=hx;exact vu _ _ _ h9
        | zc=>simp only[Ae]at hx;obtain⟨ad,rfl⟩:=hx;exact vu _ _ _ h9
        | own id g n=>
         obtain⟨row,qo,hg,hk⟩:=Ax h9;simp only[Ae]at hx;obtain⟨o,ho,_,⟨ad,l,c,rfl⟩,_⟩:=hx;exact vu _ _ _ hk
        | _=>exact h9.elim
    | _=>exact hh.elim
  | _=>exact h.elim
 | none=>
  cases umx with
  | some _=>exact vh.elim
  | none=>
   cases x with
   | own id g n=>
    obtain⟨row,qo,hg,xH,hl0,h⟩:=Ax h;obtain⟨j,hj,h0,hjn,hk⟩:=Ax h;obtain⟨o,ho,rfl⟩:=hr.row qo;obtain⟨J,rfl⟩:=nU h0;simp only[nj]at hk;simp only[Ae]at hx;obtain⟨o',rW,tV,_,hx⟩:=hx;rw[ho]at rW;cases rW;obtain⟨hnl,hx⟩:=hx hg;simp only[Lb xH]at hx;have qu:=hr.rows id o ho;have h1:=Ol (F:=F) (w:=w) (os:=os) (uo:=xJ) hl0 wJ;have h2:=Ol (F:=F) (w:=w) (os:=os) (uo:=xK) hj xY;have uU:∀o':Own,(os.set id o')[id]?=some o':=λo'=>mN (mC.1 ho).1;have si:=hr.Ok (k:=k) (o':={ o with row:={ o.row with gen:=g+1,xs:=o.row.xs.take J } }) ho (w':=w) (G7.refl w _) (by simp[hg]) rfl (λe=>by simp[hg]at e) (λg hg=>.inl hg) (λrC=>by
     refine⟨qu.pos,λy hy=>qu.lens y (ns hy),λhn=>?_,λb rZ=>?_,qu.mo,qu.deep.keep rfl (λ_ h=>h) rfl (λ_ _=>rfl) (λi x j e s ys hx hc=>by
      simp only[mi]at hx;split at hx
      ·exact⟨x,hx,hc⟩
      ·cases hx)⟩
     ·have:=qu.none hn;simp[this.1,this.2]
     ·obtain⟨h1,cur,h2,h3,h4,h5,h6⟩:=qu.some b rZ;refine⟨h1,cur,h2,h3,by simp;omega,h5,λi y hy j c hc=>?_⟩;simp only[mi]at hy;split at hy
      ·obtain⟨u,e1,e2⟩:=h6 i y hy j c hc;exact⟨u,e1,rC _ _ e2⟩
      ·cases hy)
    have rO:∀ad cap,n<=cap->(Instr.sliceAt t (.slice ad n cap) xJ xK none).run P w=.ok (.slice ad J cap) w:=λad cap vQ=>by
     have:=Ow (P:=P) (w:=w) hu tO ad n cap 0 J xJ xK (by rcases h1 with ⟨e,_,_⟩|⟨kk,e⟩;exact .inl ⟨e,rfl⟩;exact .inr ⟨kk,by simpa using e⟩)
      (by rcases h2 with ⟨e,_,e2⟩|⟨kk,e⟩;exact .inl ⟨e,by omega⟩;exact .inr ⟨kk,e⟩) (mV _) (by omega)
     rw[this];cases ad with
     | none=>simp
     | some ad=>simp[Addr.add]
    rcases hx with ⟨wI,ad,rfl⟩|⟨b,La,rfl⟩
    ·have hn0:=qu.none wI;simp only[hn0.1,nN,pg]at hnl;subst hnl;have hJ:J=0:=by omega
     subst hJ;refine⟨_,_,_,_,_,hk,rO _ _ (mS _),si.1,?_,si.2.1⟩;simp only[Ae];exact⟨_,uU _,mS _,⟨_,_,_,rfl⟩,λ_=>⟨mV _,.inl ⟨wI,_,rfl⟩⟩⟩
    ·obtain⟨_,_,_,_,h4,_⟩:=qu.some b La;refine⟨_,_,_,_,_,hk,rO _ _ (by omega),si.1,?_,si.2.1⟩;simp only[Ae];exact⟨_,uU _,mS _,⟨_,_,_,rfl⟩,λ_=>⟨by simp;omega,.inr ⟨b,La,(Lb (o:=⟨⟨g+1,o.row.elem,o.row.size,o.row.xs.take J⟩,o.DM,o.cap,o.more⟩) (by simp;omega)).symm⟩⟩⟩
   | sl xs=>
    obtain⟨l,hl,h⟩:=Ax h;obtain⟨h',hh,h0,hlh,hhn,yS,hk⟩:=Ax h;obtain⟨L,rfl⟩:=nU h0;obtain⟨H,rfl⟩:=nU (Int.le_trans h0 hlh);simp only[nj]at hk;have h1:=Ol (F:=F) (w:=w) (os:=os) (uo:=xJ) hl wJ;have h2:=Ol (F:=F) (w:=w) (os:=os) (uo:=xK) hh xY;simp only[Ae]at hx;obtain⟨ad,cap,rfl,vQ,rV⟩:=hx;have rO:=Ow (P:=P) (w:=w) hu tO ad xs.length cap L H xJ xK (by rcases h1 with ⟨e,_,e2⟩|⟨kk,e⟩;exact .inl ⟨e,by omega⟩;exact .inr ⟨kk,e⟩)
     (by rcases h2 with ⟨e,_,e2⟩|⟨kk,e⟩;exact .inl ⟨e,by omega⟩;exact .inr ⟨kk,e⟩) (by omega) (by omega)
    refine⟨_,_,_,_,os,hk,rO,hr,?_,Ext.refl _ _ _ _⟩;simp only[Ae];have hlen:((xs.take H).drop L).length=H-L:=by simp;omega
    refine⟨_,_,by rw[hlen],by omega,λwS=>?_⟩;have rJ:L<H:=by
     rcases oO L H with h|h
     ·exact h
     ·exact absurd (mh (by omega)) wS
    obtain⟨b,o,size,rfl,hb,hss,sM⟩:=rV (by intro e;subst e;simp at hhn;omega);have hL:L<xs.length:=by omega
    have Gl:size=inf.size:=by rw[<- rP,<- yS _ (ob hL)];exact (hss _ (ob hL)).symm
    subst Gl;refine⟨b,o+L*inf.size,inf.size,?_,hb,λx hx=>hss x (ns (oD hx)),Jc (λx hx=>hss x (ns (oD hx))) λi x hx=>?_⟩
    ·rw[mJ (by omega)];simp[Ct]
    ·rw[nP,mi]at hx;split at hx
     ·have:=Kn hss sM _ x hx;rwa [nJ,<- nx]at this
     ·cases hx
   | zc=>
    obtain⟨l,hl,h⟩:=Ax h;obtain⟨h',hh,rfl,rfl,hk⟩:=Ax h;have h1:=Ol (F:=F) (w:=w) (os:=os) (uo:=xJ) hl wJ;have h2:=Ol (F:=F) (w:=w) (os:=os) (uo:=xK) hh xY;simp only[Ae]at hx;obtain⟨ad,rfl⟩:=hx;have rO:=Ow (P:=P) (w:=w) hu tO ad 0 0 0 0 xJ xK (by rcases h1 with ⟨e,_,e2⟩|⟨kk,e⟩;exact .inl ⟨e,rfl⟩;exact .inr ⟨kk,e⟩)
     (by rcases h2 with ⟨e,_,e2⟩|⟨kk,e⟩;exact .inl ⟨e,rfl⟩;exact .inr ⟨kk,e⟩) (by omega) (by omega)
    exact⟨_,_,_,_,os,hk,rO,hr,by simp[Ae],Ext.refl _ _ _ _⟩
   | _=>exact h.elim
def OF (place:Nat->Option (Nat×Nat)):List AV->List (Nat×AV)->Option (List AV)
 | cells,[]=>some cells
 | cells,(i,v)::r=>match place i with
  | none=>none
  | some (off,sz)=>match Lr v with
   | none=>none
   | some cs=>if cs.length=sz/\off+sz<=cells.length then OF place (HW cells off cs) r else none
def Jo (P:Program)(t:TypeId):Option (List (Nat×Nat)):=
 match P.underlying t with
 | some (.struct fs)=>some (fs.toList.map λf=>(f.offset,P.cellsOf f.type))
 | _=>none
def Hu (P:Program)(t:TypeId):Bool:=
 match P.underlying t with
 | some (.struct fs)=>fs.all λf=>(P.info? f.type).isSome
 | _=>false
def Yt (P:Program)(t:TypeId)(parts:List (Nat×AV))(K:AV->Prop):Prop:=
 Hu P t=true/\Fk (Jo P t) λfs=>Fk (H0 P t) λz=>Fk (OF (fs[·]?) z parts) λcs=>K (.agg cs)
def chunk (size:Nat):Nat->List AV->List (List AV)
 | 0,_=>[]
 | n+1,cs=>cs.take size::chunk size n (cs.drop size)
def O1 (P:Program)(st:List Row)(t:TypeId)(len:Nat)(parts:List (Nat×AV))(K:AV->List Row->Prop):Prop:=
 Fk (Cj P t) λei=>len*ei.size<=16777216/\Fk (OF (λi=>some (i*ei.size,ei.size)) ((List.replicate len ei.zero).flatten) parts) λcs=>
  K (.own st.length 0 len) (st++[⟨0,ei.e,ei.size,chunk ei.size len cs⟩])
theorem Y0 {cells cs:List AV}{us vs:List Value}{off:Nat}(h1:Ba F w os cells us)(h2:Ba F w os cs vs)(hle:off+cs.length<=cells.length):
  Ba F w os (HW cells off cs) (us.take off++vs++us.drop (off+vs.length)):=by
 have l1:=BJ h1;have l2:=BJ h2;refine Ds (by simp[HW];omega) λi x u hx hu=>?_;rw[P0 _ _ _ _ (by omega)]at hx;have sa:(us.take off++vs++us.drop (off+vs.length))[i]?=if i<off then us[i]? else if i<off+vs.length then vs[i-off]? else us[i]?:=by
  have:=MK (cur:=us.toArray) (us:=vs) (p:=off) (j:=i) (by simp;omega);simpa using this
 rw[sa]at hu;rw[l2]at hu;split at hx
 ·rename_i hi;rw[mI hi]at hu;obtain⟨u',e1,e2⟩:=CD h1 i x hx;rw[e1]at hu;cases hu;exact e2
 ·rename_i hi;rw[mJ hi]at hu;split at hx
  ·rename_i vv;rw[mI vv]at hu;obtain⟨u',e1,e2⟩:=CD h2 _ x hx;rw[e1]at hu;cases hu;exact e2
  ·rename_i vv;rw[mJ vv]at hu;obtain⟨u',e1,e2⟩:=CD h1 i x hx;rw[e1]at hu;cases hu;exact e2
theorem Xj (off:Nat):∀(vs:List Value) (j:Nat) (us:List Value),off+j+vs.length<=us.length->
  ((vs.zipIdx j).foldl (λ(cs:Array Value) (c:Value×Nat)=>cs.setIfInBounds (off+c.2) c.1) us.toArray)=(us.take (off+j)++vs++us.drop (off+j+vs.length)).toArray
 | [],j,us,_=>by simp
 | v::vs,j,us,h=>by
  simp only[mf]at h;simp only[List.zipIdx_cons,List.foldl_cons,List.setIfInBounds_toArray];rw[Xj off vs (j+1) (us.set (off+j) v) (by simp;omega)];congr 1;have e:=list_seg_step us (off+j) v vs (by omega);simpa [nx] using e
theorem TQ (place:Nat->Option (Nat×Nat)):∀(parts:List (Nat×AV)) (uparts:List (Nat×Value)) (cells tP:List AV) (us:List Value),uparts.map (·.1)=parts.map (·.1)->
  (∀(i:Nat) p up,parts[i]?=some p->uparts[i]?=some up->Ae F w os p.2 up.2)->Ba F w os cells us->OF place cells parts=some tP->
  ∃tq:List Value,Instr.fill place us.toArray uparts=some tq.toArray/\Ba F w os tP tq/\tq.length=us.length/\((∀c∈cells,c.leaf=true)->∀c∈tP,c.leaf=true)
 | [],up,cells,tP,us,hm,_,hc,h=>by
  have:up=[]:=by simpa using hm
  subst this;simp only[OF,mE]at h;subst h;exact⟨us,rfl,hc,rfl,λh=>h⟩
 | (i,v)::r,[],_,_,_,hm,_,_,_=>by simp at hm
 | (i,v)::r,(i',u)::ur,cells,tP,us,hm,hp,hc,h=>by
  simp only[mg,py]at hm;obtain⟨rfl,hm⟩:=hm;have hv:Ae F w os v u:=hp 0 (i',v) (i',u) rfl rfl;simp only[OF]at h;split at h
  ·cases h
  rename_i off sz uq;split at h
  ·cases h
  rename_i cs sQ;split at h
  ·rename_i hif;obtain⟨uS,ri⟩:=P6 sQ hv;have hl:=BJ uS;have zG:=BJ hc;simp only[nX]at hl;obtain⟨tq,e1,e2,e3,e4⟩:=TQ place r ur (HW cells off cs) tP (us.take off++u.cells.toList++us.drop (off+u.cells.toList.length)) hm
    (λj p up h1 h2=>hp (j+1) p up (by simpa using h1) (by simpa using h2)) (Y0 hc uS (by omega)) h
   refine⟨tq,?_,e2,?_,λuI=>e4 λc vM=>?_⟩
   ·simp only[Instr.fill,uq];rw[mJ (by simp;omega)];rw[<- e1];congr 1;have:=Xj off u.cells.toList 0 us (by simp;omega);simp only[oc]at this;rw[<- this,<- Array.foldl_toList,Array.toList_zipIdx]
   ·rw[e3];simp;omega
   ·unfold HW at vM;simp only[my]at vM;rcases vM with (vM|vM)|vM
    ·exact uI c (ns vM)
    ·exact ri c vM
    ·exact uI c (oD vM)
  ·cases h
theorem QJ {α β:Type}(g:α->Sem β)(f:α->β):∀(l:List α),(∀x∈l,(g x).run P w=.ok (f x) w)->(l.mapM g).run P w=.ok (l.map f) w
 | [],_=>by simp
 | x::l,h=>by
  have ih:=QJ g f l (λy hy=>h y (by simp[hy]));simp[pK,h x (by simp),ih]
theorem Ug {α β:Type}(g:α->Sem β)(f:α->β)(xs:Array α)(h :∀x∈xs,(g x).run P w=.ok (f x) w):(xs.mapM g).run P w=.ok (xs.map f) w:=by
 have h1:=QJ (P:=P) (w:=w) g f xs.toList (λx hx=>h x (by simpa using hx));rw[Array.mapM_eq_mapM_toList,Sem.run_map,h1];have:(List.map f xs.toList).toArray=Array.map f xs:=by apply ot;simp
 simp[this]
theorem az {t:TypeId}{parts:List (Nat×AV)}{uparts:Array (Nat×Value)}{K:AV->Prop}(h:Yt P t parts K)(hm:uparts.toList.map (·.1)=parts.map (·.1))
  (hp :∀(i:Nat) p up,parts[i]?=some p->uparts.toList[i]?=some up->Ae F w os p.2 up.2):Yields P F w os (Instr.build t uparts) K:=by
 obtain⟨sR,h⟩:=h;obtain⟨fs,hfs,h⟩:=Ax h;obtain⟨z,hz,h⟩:=Ax h;obtain⟨cs,sQ,hk⟩:=Ax h;obtain⟨inf,zv,hi,hzv,rfl,hl,_⟩:=UR hz;unfold Jo at hfs;split at hfs
 case h_2=>cases hfs
 rename_i Od hu;simp only[mE]at hfs;subst hfs;unfold Hu at sR;simp only[hu]at sR;obtain⟨tq,e1,e2,_⟩:=TQ (F:=F) (w:=w) (os:=os) _ parts uparts.toList _ cs zv.cells.toList hm hp (O3 F w os _) sQ;refine⟨_,.agg tq.toArray,hk,?_,by simp only[Ae];exact⟨tq,rfl,e2⟩⟩;have hmap:=Ug (P:=P) (w:=w) (λf:Field=>(do pure (f.offset,<- sizeOf f.type):Sem (Nat×Nat))) (λf=>(f.offset,P.cellsOf f.type)) Od (λf hf=>by
  have h1:=Array.all_eq_true_iff_forall_mem.1 sR f hf;obtain⟨fi,xZ⟩:=Option.isSome_iff_exists.1 h1;simp[sizeOf,typeInfo,xZ,Program.cellsOf])
 have zN:(λ(i:Nat)=>(Od.map λf=>(f.offset,P.cellsOf f.type))[i]?)=λ(i:Nat)=>(Od.toList.map λf=>(f.offset,P.cellsOf f.type))[i]?:=by
  funext i;simp
 simp only[ou]at e1;simp only[Instr.build,nA,zeroValue,typeInfo,run_program,mw,hi,nY,hzv,nR hu,hmap];rw[zN,e1];simp
theorem VX {size:Nat}:∀{n:Nat} {cs:List AV},cs.length=n*size->(chunk size n cs).length=n/\(∀x∈chunk size n cs,x.length=size)/\
  ∀(i:Nat) x,(chunk size n cs)[i]?=some x->∀(j:Nat) c,x[j]?=some c->cs[i*size+j]?=some c
 | 0,cs,h=>by simp[chunk]
 | n+1,cs,h=>by
  have hl:(cs.drop size).length=n*size:=by rw[pQ,h,nJ];omega
  obtain⟨h1,h2,h3⟩:=VX hl;have h0:size<=cs.length:=by rw[h,nJ];omega
  refine⟨by simp[chunk,h1],λx hx=>?_,λi x hx j c hc=>?_⟩
  ·simp only[chunk,mc]at hx;rcases hx with rfl|hx
   ·simp;omega
   ·exact h2 x hx
  ·cases i with
   | zero=>
    simp only[chunk,me,mE]at hx;subst hx;rw[mi]at hc;split at hc
    ·simpa using hc
    ·cases hc
   | succ i=>
    simp only[chunk,mz]at hx;have:=h3 i x hx j c hc;rw[nP]at this;rw[<- this];congr 1;rw[nJ];omega
theorem MZ {t:TypeId}{len:Nat}{parts:List (Nat×AV)}{uparts:Array (Nat×Value)}{K:AV->List Row->Prop}(hr:Rel F os s a w)(h:O1 P s.st t len parts K)(hm:uparts.toList.map (·.1)=parts.map (·.1))
  (hp :∀(i:Nat) p up,parts[i]?=some p->uparts.toList[i]?=some up->Ae F w os p.2 up.2):HG P k F os s a w (Instr.buildSlice t len uparts) K:=by
 obtain⟨ei,he,h⟩:=Ax h;obtain⟨inf,z,hu,hi,hz,sq,ru,rP,hby,hzero,hzl⟩:=IY he;obtain⟨hle,h⟩:=h;obtain⟨cs,sQ,hk⟩:=Ax h;have yW:ei.zero.length=ei.size:=by rw[hzero,rP,<- sq];simp
 have hz0:Ba F w os ((List.replicate len ei.zero).flatten) (madeCells z.cells (len*ei.size)).toList:=by
  refine Ds (by simp[madeCells,yW]) λi x u hx sa=>?_;have tM:i<len*ei.size:=by have:=(mC.1 sa).1;simpa [madeCells] using this
  have hpos':0<ei.size:=by omega
  have tR:ei.zero[i % ei.size]?=some x:=by
   rw[<- hx];have xI:∀(n i:Nat),i<n*ei.size->((List.replicate n ei.zero).flatten)[i]?=ei.zero[i % ei.size]?:=λn=>by
    induction n with
    | zero=>intro i hi;simp at hi
    | succ n ih=>
     intro i hi;rw[List.replicate_succ,List.flatten_cons];rw[nJ]at hi;by_cases rJ:i<ei.size
     ·rw[mM (by omega),pS rJ]
     ·rw[mP (by omega),yW,ih _ (by omega)];congr 1;rw[Nat.mod_eq_sub_mod (by omega:i ≥ ei.size)]
   exact (xI len i tM).symm
  have tw:i % ei.size<z.cells.size:=by rw[sq,<- rP];exact Nat.mod_lt _ hpos'
  have tU:u=z.cells[i % ei.size]:=by
   have vi:i % z.cells.size<z.cells.size:=by rw[sq,<- rP];rw[sq,<- rP]at tw;exact tw
   simp[madeCells,tM]at sa;rw[<- sa];have:i % z.cells.size=i % ei.size:=by rw[sq,rP]
   simp[this,tw]
  subst tU;rw[hzero]at tR;simp only[mG,na,nM tw,nC,mE]at tR;subst tR;exact Kk F w os _
 obtain⟨tq,e1,e2,e3,e4⟩:=TQ (F:=F) (w:=w) (os:=os) _ parts uparts.toList _ cs _ hm hp hz0 sQ;have vr:tq.length=len*ei.size:=by rw[e3];simp[madeCells]
 have uI:cs.length=len*ei.size:=by rw[<- BJ e2,vr]
 obtain⟨c1,c2,c3⟩:=VX uI;have ri:∀c∈cs,c.leaf=true:=e4 (λc hc=>by
  simp only[List.mem_flatten,oT]at hc;obtain⟨l,⟨_,rfl⟩,hc⟩:=hc;exact hzl c hc)
 have:=hr.Qb (k:=k) (.inl rfl) (cur:=tq.toArray) (e:=ei.e) (size:=ei.size) (cap:=len) (xs:=chunk ei.size len cs) (by omega) (λx hx=>⟨c2 x hx,λc hc=>by
   obtain⟨i,tO⟩:=ma.1 hx;obtain⟨j,hj⟩:=ma.1 hc;exact ri c (mB (c3 i x tO j c hj))⟩) (by simpa using vr) (by omega) (by
    simp only[maxLen];have:len<=len*ei.size:=Nat.le_mul_of_pos_right _ (by omega);omega) (λi x hx j c hc=>by
   obtain⟨u,f1,f2⟩:=CD e2 _ _ (c3 i x hx j c hc);exact⟨u,by simpa using f1,f2⟩)
 refine⟨_,_,.slice (some ⟨w.heap.size,0,none⟩) len len,_,_,hk,?_,this.1,?_,this.2.1⟩
 ·have rJ:¬ (16777216<len*inf.size):=by rw[<- rP];omega
  by_cases h0:len*inf.size=0
  ·have hlen0:len=0:=by rcases Nat.mul_eq_zero.1 h0 with h|h<;>omega
   subst hlen0;simp only[pB]at vr;have:tq=[]:=mh vr;subst this;have xb:Instr.fill (λi=>some (i*inf.size,inf.size)) (Array.map (λ_=>(default:Value)) (Array.range 0)) uparts.toList=some #[]:=by
    rw[<- rP];have:(Array.map (λ_=>(default:Value)) (Array.range 0))=(madeCells z.cells (0*ei.size)):=by simp[madeCells]
    rw[this];simpa using e1
   simp[Instr.buildSlice,nR hu,sizeOf,typeInfo,hi,newRow,xb]
  ·simp only[madeCells,ou]at e1;rw[rP]at e1;simp[Instr.buildSlice,nR hu,sizeOf,typeInfo,zeroValue,hi,hz,newRow,rJ,h0,e1]
 ·simp only[Ae];exact⟨_,by rw[hr.len];exact Je _ _,mS _,⟨_,_,_,rfl⟩,λ_=>⟨by simp only;omega,.inr ⟨_,rfl,(Lb (o:=⟨⟨0,ei.e,ei.size,chunk ei.size len cs⟩,some w.heap.size,len,Fj⟩) (by simp only;omega)).symm⟩⟩⟩
end Go.Abs
