import Derived.Test.YtccficmcdkcpnaaGreatAbsF
set_option linter.all false
namespace Go.Abs
open Go
variable {P : Program} {F : Nat -> Prop} {os : List Own} {s : St} {a : Act} {w : World} {k : Nat}
def S5 (o:Option AV)(d:Int):Option Int:=
 match o with
 | none=>some d
 | some (.int _ j)=>some j
 | _=>none
def Ug (P:Program)(st:List Row)(t:TypeId)(x:AV)(lo hi mx:Option AV)(K:AV->List Row->Prop):Prop:=
 FD (CH P t) λei=>match mx with
  | some (.int _ m)=>m=0/\lo=none/\(match hi with|some (.int _ j)=>j=0|_=>False)/\(match x with|.sl _|.zc=>K .zc st|.own id g _=>FD st[id]? λrow=>row.gen=g/\K .zc st|_=>False)
  | some _=>False
  | none=>match x with
   | .own id g n=>FD st[id]? λrow=>row.gen=g/\n=row.xs.length/\S5 lo 0=some 0/\FD (S5 hi n) λj=>0<=j/\j<=n/\K (.own id (g+1) j.toNat) (st.set id { row with gen:=g+1,xs:=row.xs.take j.toNat })
   | .sl xs=>FD (S5 lo 0) λl=>FD (S5 hi xs.length) λh=>0<=l/\l<=h/\h<=xs.length/\(∀x∈xs,x.length=ei.size)/\K (.sl ((xs.take h.toNat).drop l.toNat)) st
   | .zc=>FD (S5 lo 0) λl=>FD (S5 hi 0) λh=>l=0/\h=0/\K .zc st
   | _=>False
theorem N7 {t e:TypeId}{inf:TypeInfo}(hu:P.underlying t=some (.slice e))(hi:P.info? e=some inf)(ad:Option Addr)(n cap l h:Nat)(lo tz:Option Value)
  (yu:(lo=none/\l=0)∨∃kk,lo=some (.int kk l)) (xY:(tz=none/\h=n)∨∃kk,tz=some (.int kk h)) (hl:l<=h) (hc:h<=cap) :
  (Instr.sliceAt t (.slice ad n cap) lo tz none).run P w=.ok (.slice (if cap=l then ad else ad.map (·.add (l*inf.size))) (h-l) (cap-l)) w:=by
 have e1:∀kk,(Instr.sliceBound (.int kk (h:Int)) cap (.sliceAcap)).run P w=.ok h w:=λkk=>by simp[Instr.sliceBound,asIntOf,hc]
 have e2:∀kk,(Instr.sliceBound (.int kk (l:Int)) h (.sliceB)).run P w=.ok l w:=λkk=>by simp[Instr.sliceBound,asIntOf,hl]
 rcases yu with ⟨rfl,rfl⟩|⟨kl,rfl⟩<;>rcases xY with ⟨rfl,rfl⟩|⟨kh,rfl⟩ <;>
  simp[Instr.sliceAt,ni hu,Instr.slice,Instr.sliceBounds,sizeOf,typeInfo,hi,e1,e2]
def Sc (F:Nat->Prop)(w:World)(os:List Own):Option AV->Option Value->Prop
 | none,none=>True
 | some x,some u=>AU F w os x u
 | _,_=>False
theorem NU {o:Option AV}{uo:Option Value}{d j:Int}(h:S5 o d=some j)(hr:Sc F w os o uo):(uo=none/\o=none/\j=d)∨∃kk,uo=some (.int kk j):=by
 unfold S5 at h;split at h
 ·simp only[mU]at h;cases uo with
  | none=>exact .inl ⟨rfl,rfl,h.symm⟩
  | some u=>exact hr.elim
 ·simp only[mU]at h;subst h;cases uo with
  | none=>exact hr.elim
  | some u=>simp only[Sc,AU]at hr;exact .inr ⟨_,by rw[hr]⟩
 ·cases h
theorem bJ {t:TypeId}{x:AV}{ux:Value}{lo hi mx:Option AV}{xO xP umx:Option Value}{K:AV->List Row->Prop}(hr:Rel F os s a w)(h:Ug P s.st t x lo hi mx K)(hx:AU F w os x ux)
  (yu:Sc F w os lo xO) (xY:Sc F w os hi xP) (wT:Sc F w os mx umx):GV P k F os s a w (Instr.sliceAt t ux xO xP umx) K:=by
 obtain⟨ei,he,h⟩:=Aw h;obtain⟨inf,z,hu,tz,_,_,sQ,ru,_⟩:=HS he;cases mx with
 | some m=>
  cases m with
  | int km m=>
   obtain⟨rfl,rfl,hh,h9⟩:=h;cases hi with
   | none=>exact hh.elim
   | some hv=>
    cases hv with
    | int kh j=>
     simp only at hh;subst hh;cases xO with
     | some _=>exact yu.elim
     | none=>
      cases xP with
      | none=>exact xY.elim
      | some uh=>
       cases umx with
       | none=>exact wT.elim
       | some um=>
        simp only[Sc,AU]at xY wT;subst xY;subst wT;have rm:∀ad n c,(Instr.sliceAt t (.slice ad n c) none (some (.int kh 0)) (some (.int km 0))).run P w=.ok (.slice ad 0 0) w:=λad n c=>by
         simp[Instr.sliceAt,ni hu,Instr.slice,Instr.sliceBounds,Instr.sliceBound,asIntOf,sizeOf,typeInfo,tz]
        have wG:∀ad n c,K .zc s.st->GV P k F os s a w (Instr.sliceAt t (.slice ad n c) none (some (.int kh 0)) (some (.int km 0))) K:=λad n c hk=>
         ⟨_,_,_,_,os,hk,rm ad n c,hr,by simp[AU],Ext.refl _ _ _ _⟩
        cases x with
        | sl xs=>simp only[AU]at hx;obtain⟨ad,cap,rfl,_⟩:=hx;exact wG _ _ _ h9
        | zc=>simp only[AU]at hx;obtain⟨ad,rfl⟩:=hx;exact wG _ _ _ h9
        | own id g n=>
         obtain⟨row,rK,hg,hk⟩:=Aw h9;simp only[AU]at hx;obtain⟨o,ho,_,⟨ad,l,c,rfl⟩,_⟩:=hx;exact wG _ _ _ hk
        | _=>exact h9.elim
    | _=>exact hh.elim
  | _=>exact h.elim
 | none=>
  cases umx with
  | some _=>exact wT.elim
  | none=>
   cases x with
   | own id g n=>
    obtain⟨row,rK,hg,xM,hl0,h⟩:=Aw h;obtain⟨j,hj,h0,hjn,hk⟩:=Aw h;obtain⟨o,ho,rfl⟩:=hr.row rK;obtain⟨J,rfl⟩:=nm h0;simp only[oJ]at hk;simp only[AU]at hx;obtain⟨o',sA,uK,_,hx⟩:=hx;rw[ho]at sA;cases sA;obtain⟨hnl,hx⟩:=hx hg;simp only[Lv xM]at hx;have rR:=hr.rows id o ho;have h1:=NU (F:=F) (w:=w) (os:=os) (uo:=xO) hl0 yu;have h2:=NU (F:=F) (w:=w) (os:=os) (uo:=xP) hj xY;have uT:∀o':Own,(os.set id o')[id]?=some o':=λo'=>mc (mT.1 ho).1;have tW:=hr.Nl (k:=k) (o':={ o with row:={ o.row with gen:=g+1,xs:=o.row.xs.take J } }) ho (w':=w) (GG.refl w _) (by simp[hg]) rfl (λe=>by simp[hg]at e) (λg hg=>.inl hg) (λrZ=>by
     refine⟨rR.pos,λy hy=>rR.lens y (oL hy),λhn=>?_,λb sH=>?_,rR.mo,rR.deep.keep rfl (λ_ h=>h) rfl (λ_ _=>rfl) (λi x j e s ys hx hc=>by
      simp only[nJ]at hx;split at hx
      ·exact⟨x,hx,hc⟩
      ·cases hx)⟩
     ·have:=rR.none hn;simp[this.1,this.2]
     ·obtain⟨h1,cur,h2,h3,h4,h5,h6⟩:=rR.some b sH;refine⟨h1,cur,h2,h3,by simp;omega,h5,λi y hy j c hc=>?_⟩;simp only[nJ]at hy;split at hy
      ·obtain⟨u,e1,e2⟩:=h6 i y hy j c hc;exact⟨u,e1,rZ _ _ e2⟩
      ·cases hy)
    have rm:∀ad cap,n<=cap->(Instr.sliceAt t (.slice ad n cap) xO xP none).run P w=.ok (.slice ad J cap) w:=λad cap vl=>by
     have:=N7 (P:=P) (w:=w) hu tz ad n cap 0 J xO xP (by rcases h1 with ⟨e,_,_⟩|⟨kk,e⟩;exact .inl ⟨e,rfl⟩;exact .inr ⟨kk,by simpa using e⟩)
      (by rcases h2 with ⟨e,_,e2⟩|⟨kk,e⟩;exact .inl ⟨e,by omega⟩;exact .inr ⟨kk,e⟩) (mi _) (by omega)
     rw[this];cases ad with
     | none=>simp
     | some ad=>simp[Addr.add]
    rcases hx with ⟨hbn,ad,rfl⟩|⟨b,Ki,rfl⟩
    ·have hn0:=rR.none hbn;simp only[hn0.1,nj,qR]at hnl;subst hnl;have hJ:J=0:=by omega
     subst hJ;refine⟨_,_,_,_,_,hk,rm _ _ (ml _),tW.1,?_,tW.2.1⟩;simp only[AU];exact⟨_,uT _,ml _,⟨_,_,_,rfl⟩,λ_=>⟨mi _,.inl ⟨hbn,_,rfl⟩⟩⟩
    ·obtain⟨_,_,_,_,h4,_⟩:=rR.some b Ki;refine⟨_,_,_,_,_,hk,rm _ _ (by omega),tW.1,?_,tW.2.1⟩;simp only[AU];exact⟨_,uT _,ml _,⟨_,_,_,rfl⟩,λ_=>⟨by simp;omega,.inr ⟨b,Ki,(Lv (o:=⟨⟨g+1,o.row.elem,o.row.size,o.row.xs.take J⟩,o.E1,o.cap,o.more⟩) (by simp;omega)).symm⟩⟩⟩
   | sl xs=>
    obtain⟨l,hl,h⟩:=Aw h;obtain⟨h',hh,h0,hlh,hhn,yE,hk⟩:=Aw h;obtain⟨L,rfl⟩:=nm h0;obtain⟨H,rfl⟩:=nm (Int.le_trans h0 hlh);simp only[oJ]at hk;have h1:=NU (F:=F) (w:=w) (os:=os) (uo:=xO) hl yu;have h2:=NU (F:=F) (w:=w) (os:=os) (uo:=xP) hh xY;simp only[AU]at hx;obtain⟨ad,cap,rfl,vl,sB⟩:=hx;have rm:=N7 (P:=P) (w:=w) hu tz ad xs.length cap L H xO xP (by rcases h1 with ⟨e,_,e2⟩|⟨kk,e⟩;exact .inl ⟨e,by omega⟩;exact .inr ⟨kk,e⟩)
     (by rcases h2 with ⟨e,_,e2⟩|⟨kk,e⟩;exact .inl ⟨e,by omega⟩;exact .inr ⟨kk,e⟩) (by omega) (by omega)
    refine⟨_,_,_,_,os,hk,rm,hr,?_,Ext.refl _ _ _ _⟩;simp only[AU];have hlen:((xs.take H).drop L).length=H-L:=by simp;omega
    refine⟨_,_,by rw[hlen],by omega,λwc=>?_⟩;have rh:L<H:=by
     rcases pC L H with h|h
     ·exact h
     ·exact absurd (nI (by omega)) wc
    obtain⟨b,o,size,rfl,hb,hss,sv⟩:=sB (by intro e;subst e;simp at hhn;omega);have hL:L<xs.length:=by omega
    have GH:size=inf.size:=by rw[<- ru,<- yE _ (pO hL)];exact (hss _ (pO hL)).symm
    subst GH;refine⟨b,o+L*inf.size,inf.size,?_,hb,λx hx=>hss x (oL (oK hx)),IT (λx hx=>hss x (oL (oK hx))) λi x hx=>?_⟩
    ·rw[mj (by omega)];simp[CI]
    ·rw[ng,nJ]at hx;split at hx
     ·have:=KG hss sv _ x hx;rwa [nZ,<- oW]at this
     ·cases hx
   | zc=>
    obtain⟨l,hl,h⟩:=Aw h;obtain⟨h',hh,rfl,rfl,hk⟩:=Aw h;have h1:=NU (F:=F) (w:=w) (os:=os) (uo:=xO) hl yu;have h2:=NU (F:=F) (w:=w) (os:=os) (uo:=xP) hh xY;simp only[AU]at hx;obtain⟨ad,rfl⟩:=hx;have rm:=N7 (P:=P) (w:=w) hu tz ad 0 0 0 0 xO xP (by rcases h1 with ⟨e,_,e2⟩|⟨kk,e⟩;exact .inl ⟨e,rfl⟩;exact .inr ⟨kk,e⟩)
     (by rcases h2 with ⟨e,_,e2⟩|⟨kk,e⟩;exact .inl ⟨e,rfl⟩;exact .inr ⟨kk,e⟩) (by omega) (by omega)
    exact⟨_,_,_,_,os,hk,rm,hr,by simp[AU],Ext.refl _ _ _ _⟩
   | _=>exact h.elim
def NB (place:Nat->Option (Nat×Nat)):List AV->List (Nat×AV)->Option (List AV)
 | cells,[]=>some cells
 | cells,(i,v)::r=>match place i with
  | none=>none
  | some (off,sz)=>match Jq v with
   | none=>none
   | some cs=>if cs.length=sz/\off+sz<=cells.length then NB place (Gf cells off cs) r else none
def Ij (P:Program)(t:TypeId):Option (List (Nat×Nat)):=
 match P.underlying t with
 | some (.struct fs)=>some (fs.toList.map λf=>(f.offset,P.cellsOf f.type))
 | _=>none
def G4 (P:Program)(t:TypeId):Bool:=
 match P.underlying t with
 | some (.struct fs)=>fs.all λf=>(P.info? f.type).isSome
 | _=>false
def YD (P:Program)(t:TypeId)(parts:List (Nat×AV))(K:AV->Prop):Prop:=
 G4 P t=true/\FD (Ij P t) λfs=>FD (Gz P t) λz=>FD (NB (fs[·]?) z parts) λcs=>K (.agg cs)
def chunk (size:Nat):Nat->List AV->List (List AV)
 | 0,_=>[]
 | n+1,cs=>cs.take size::chunk size n (cs.drop size)
def Ny (P:Program)(st:List Row)(t:TypeId)(len:Nat)(parts:List (Nat×AV))(K:AV->List Row->Prop):Prop:=
 FD (CH P t) λei=>len*ei.size<=16777216/\FD (NB (λi=>some (i*ei.size,ei.size)) ((List.replicate len ei.zero).flatten) parts) λcs=>
  K (.own st.length 0 len) (st++[⟨0,ei.e,ei.size,chunk ei.size len cs⟩])
theorem YJ {cells cs:List AV}{us vs:List Value}{off:Nat}(h1:A7 F w os cells us)(h2:A7 F w os cs vs)(hle:off+cs.length<=cells.length):
  A7 F w os (Gf cells off cs) (us.take off++vs++us.drop (off+vs.length)):=by
 have l1:=A3 h1;have l2:=A3 h2;refine Cq (by simp[Gf];omega) λi x u hx hu=>?_;rw[Pk _ _ _ _ (by omega)]at hx;have tZ:(us.take off++vs++us.drop (off+vs.length))[i]?=if i<off then us[i]? else if i<off+vs.length then vs[i-off]? else us[i]?:=by
  have:=LB (cur:=us.toArray) (us:=vs) (p:=off) (j:=i) (by simp;omega);simpa using this
 rw[tZ]at hu;rw[l2]at hu;split at hx
 ·rename_i hi;rw[me hi]at hu;obtain⟨u',e1,e2⟩:=BQ h1 i x hx;rw[e1]at hu;cases hu;exact e2
 ·rename_i hi;rw[mj hi]at hu;split at hx
  ·rename_i wh;rw[me wh]at hu;obtain⟨u',e1,e2⟩:=BQ h2 _ x hx;rw[e1]at hu;cases hu;exact e2
  ·rename_i wh;rw[mj wh]at hu;obtain⟨u',e1,e2⟩:=BQ h1 i x hx;rw[e1]at hu;cases hu;exact e2
theorem W5 (off:Nat):∀(vs:List Value) (j:Nat) (us:List Value),off+j+vs.length<=us.length->
  ((vs.zipIdx j).foldl (λ(cs:Array Value) (c:Value×Nat)=>cs.setIfInBounds (off+c.2) c.1) us.toArray)=(us.take (off+j)++vs++us.drop (off+j+vs.length)).toArray
 | [],j,us,_=>by simp
 | v::vs,j,us,h=>by
  simp only[nE]at h;simp only[List.zipIdx_cons,List.foldl_cons,List.setIfInBounds_toArray];rw[W5 off vs (j+1) (us.set (off+j) v) (by simp;omega)];congr 1;have e:=list_seg_step us (off+j) v vs (by omega);simpa [oW] using e
theorem TM (place:Nat->Option (Nat×Nat)):∀(parts:List (Nat×AV)) (uparts:List (Nat×Value)) (cells uA:List AV) (us:List Value),uparts.map (·.1)=parts.map (·.1)->
  (∀(i:Nat) p up,parts[i]?=some p->uparts[i]?=some up->AU F w os p.2 up.2)->A7 F w os cells us->NB place cells parts=some uA->
  ∃tO:List Value,Instr.fill place us.toArray uparts=some tO.toArray/\A7 F w os uA tO/\tO.length=us.length/\((∀c∈cells,c.leaf=true)->∀c∈uA,c.leaf=true)
 | [],up,cells,uA,us,hm,_,hc,h=>by
  have:up=[]:=by simpa using hm
  subst this;simp only[NB,mU]at h;subst h;exact⟨us,rfl,hc,rfl,λh=>h⟩
 | (i,v)::r,[],_,_,_,hm,_,_,_=>by simp at hm
 | (i,v)::r,(i',u)::ur,cells,uA,us,hm,hp,hc,h=>by
  simp only[mz,qI]at hm;obtain⟨rfl,hm⟩:=hm;have hv:AU F w os v u:=hp 0 (i',v) (i',u) rfl rfl;simp only[NB]at h;split at h
  ·cases h
  rename_i off sz vn;split at h
  ·cases h
  rename_i cs tD;split at h
  ·rename_i hif;obtain⟨vI,sL⟩:=PT tD hv;have hl:=A3 vI;have yh:=A3 hc;simp only[nr]at hl;obtain⟨tO,e1,e2,e3,e4⟩:=TM place r ur (Gf cells off cs) uA (us.take off++u.cells.toList++us.drop (off+u.cells.toList.length)) hm
    (λj p up h1 h2=>hp (j+1) p up (by simpa using h1) (by simpa using h2)) (YJ hc vI (by omega)) h
   refine⟨tO,?_,e2,?_,λuL=>e4 λc vi=>?_⟩
   ·simp only[Instr.fill,vn];rw[mj (by simp;omega)];rw[<- e1];congr 1;have:=W5 off u.cells.toList 0 us (by simp;omega);simp only[po]at this;rw[<- this,<- Array.foldl_toList,Array.toList_zipIdx]
   ·rw[e3];simp;omega
   ·unfold Gf at vi;simp only[nM]at vi;rcases vi with (vi|vi)|vi
    ·exact uL c (oL vi)
    ·exact sL c vi
    ·exact uL c (oK vi)
  ·cases h
theorem Pu {α β:Type}(g:α->Sem β)(f:α->β):∀(l:List α),(∀x∈l,(g x).run P w=.ok (f x) w)->(l.mapM g).run P w=.ok (l.map f) w
 | [],_=>by simp
 | x::l,h=>by
  have ih:=Pu g f l (λy hy=>h y (by simp[hy]));simp[pj,h x (by simp),ih]
theorem UL {α β:Type}(g:α->Sem β)(f:α->β)(xs:Array α)(h :∀x∈xs,(g x).run P w=.ok (f x) w):(xs.mapM g).run P w=.ok (xs.map f) w:=by
 have h1:=Pu (P:=P) (w:=w) g f xs.toList (λx hx=>h x (by simpa using hx));rw[Array.mapM_eq_mapM_toList,Sem.run_map,h1];have:(List.map f xs.toList).toArray=Array.map f xs:=by apply pL;simp
 simp[this]
theorem ah {t:TypeId}{parts:List (Nat×AV)}{uparts:Array (Nat×Value)}{K:AV->Prop}(h:YD P t parts K)(hm:uparts.toList.map (·.1)=parts.map (·.1))
  (hp :∀(i:Nat) p up,parts[i]?=some p->uparts.toList[i]?=some up->AU F w os p.2 up.2):Yields P F w os (Instr.build t uparts) K:=by
 obtain⟨tG,h⟩:=h;obtain⟨fs,Lt,h⟩:=Aw h;obtain⟨z,hz,h⟩:=Aw h;obtain⟨cs,tD,hk⟩:=Aw h;obtain⟨inf,zv,hi,hzv,rfl,hl,_⟩:=Tw hz;unfold Ij at Lt;split at Lt
 case h_2=>cases Lt
 rename_i NV hu;simp only[mU]at Lt;subst Lt;unfold G4 at tG;simp only[hu]at tG;obtain⟨tO,e1,e2,_⟩:=TM (F:=F) (w:=w) (os:=os) _ parts uparts.toList _ cs zv.cells.toList hm hp (OL F w os _) tD;refine⟨_,.agg tO.toArray,hk,?_,by simp only[AU];exact⟨tO,rfl,e2⟩⟩;have hmap:=UL (P:=P) (w:=w) (λf:Field=>(do pure (f.offset,<- sizeOf f.type):Sem (Nat×Nat))) (λf=>(f.offset,P.cellsOf f.type)) NV (λf hf=>by
  have h1:=Array.all_eq_true_iff_forall_mem.1 tG f hf;obtain⟨fi,wi⟩:=Option.isSome_iff_exists.1 h1;simp[sizeOf,typeInfo,wi,Program.cellsOf])
 have yv:(λ(i:Nat)=>(NV.map λf=>(f.offset,P.cellsOf f.type))[i]?)=λ(i:Nat)=>(NV.toList.map λf=>(f.offset,P.cellsOf f.type))[i]?:=by
  funext i;simp
 simp only[pU]at e1;simp only[Instr.build,nU,zeroValue,typeInfo,run_program,nR,hi,nq,hzv,ni hu,hmap];rw[yv,e1];simp
theorem VO {size:Nat}:∀{n:Nat} {cs:List AV},cs.length=n*size->(chunk size n cs).length=n/\(∀x∈chunk size n cs,x.length=size)/\
  ∀(i:Nat) x,(chunk size n cs)[i]?=some x->∀(j:Nat) c,x[j]?=some c->cs[i*size+j]?=some c
 | 0,cs,h=>by simp[chunk]
 | n+1,cs,h=>by
  have hl:(cs.drop size).length=n*size:=by rw[pz,h,nZ];omega
  obtain⟨h1,h2,h3⟩:=VO hl;have h0:size<=cs.length:=by rw[h,nZ];omega
  refine⟨by simp[chunk,h1],λx hx=>?_,λi x hx j c hc=>?_⟩
  ·simp only[chunk,mr]at hx;rcases hx with rfl|hx
   ·simp;omega
   ·exact h2 x hx
  ·cases i with
   | zero=>
    simp only[chunk,mw,mU]at hx;subst hx;rw[nJ]at hc;split at hc
    ·simpa using hc
    ·cases hc
   | succ i=>
    simp only[chunk,nV]at hx;have:=h3 i x hx j c hc;rw[ng]at this;rw[<- this];congr 1;rw[nZ];omega
theorem La {t:TypeId}{len:Nat}{parts:List (Nat×AV)}{uparts:Array (Nat×Value)}{K:AV->List Row->Prop}(hr:Rel F os s a w)(h:Ny P s.st t len parts K)(hm:uparts.toList.map (·.1)=parts.map (·.1))
  (hp :∀(i:Nat) p up,parts[i]?=some p->uparts.toList[i]?=some up->AU F w os p.2 up.2):GV P k F os s a w (Instr.buildSlice t len uparts) K:=by
 obtain⟨ei,he,h⟩:=Aw h;obtain⟨inf,z,hu,hi,hz,ta,sQ,ru,hby,hzero,hzl⟩:=HS he;obtain⟨hle,h⟩:=h;obtain⟨cs,tD,hk⟩:=Aw h;have yH:ei.zero.length=ei.size:=by rw[hzero,ru,<- ta];simp
 have yI:A7 F w os ((List.replicate len ei.zero).flatten) (madeCells z.cells (len*ei.size)).toList:=by
  refine Cq (by simp[madeCells,yH]) λi x u hx tZ=>?_;have tj:i<len*ei.size:=by have:=(mT.1 tZ).1;simpa [madeCells] using this
  have hpos':0<ei.size:=by omega
  have uG:ei.zero[i % ei.size]?=some x:=by
   rw[<- hx];have xN:∀(n i:Nat),i<n*ei.size->((List.replicate n ei.zero).flatten)[i]?=ei.zero[i % ei.size]?:=λn=>by
    induction n with
    | zero=>intro i hi;simp at hi
    | succ n ih=>
     intro i hi;rw[List.replicate_succ,List.flatten_cons];rw[nZ]at hi;by_cases rh:i<ei.size
     ·rw[mg (by omega),qB rh]
     ·rw[mn (by omega),yH,ih _ (by omega)];congr 1;rw[Nat.mod_eq_sub_mod (by omega:i ≥ ei.size)]
   exact (xN len i tj).symm
  have uq:i % ei.size<z.cells.size:=by rw[ta,<- ru];exact Nat.mod_lt _ hpos'
  have uJ:u=z.cells[i % ei.size]:=by
   have yJ:i % z.cells.size<z.cells.size:=by rw[ta,<- ru];rw[ta,<- ru]at uq;exact uq
   simp[madeCells,tj]at tZ;rw[<- tZ];have:i % z.cells.size=i % ei.size:=by rw[ta,ru]
   simp[this,uq]
  subst uJ;rw[hzero]at uG;simp only[mX,nz,na uq,nS,mU]at uG;subst uG;exact Jr F w os _
 obtain⟨tO,e1,e2,e3,e4⟩:=TM (F:=F) (w:=w) (os:=os) _ parts uparts.toList _ cs _ hm hp yI tD;have wE:tO.length=len*ei.size:=by rw[e3];simp[madeCells]
 have uL:cs.length=len*ei.size:=by rw[<- A3 e2,wE]
 obtain⟨c1,c2,c3⟩:=VO uL;have sL:∀c∈cs,c.leaf=true:=e4 (λc hc=>by
  simp only[List.mem_flatten,pD]at hc;obtain⟨l,⟨_,rfl⟩,hc⟩:=hc;exact hzl c hc)
 have:=hr.QJ (k:=k) (.inl rfl) (cur:=tO.toArray) (e:=ei.e) (size:=ei.size) (cap:=len) (xs:=chunk ei.size len cs) (by omega) (λx hx=>⟨c2 x hx,λc hc=>by
   obtain⟨i,tz⟩:=nC.1 hx;obtain⟨j,hj⟩:=nC.1 hc;exact sL c (mS (c3 i x tz j c hj))⟩) (by simpa using wE) (by omega) (by
    simp only[maxLen];have:len<=len*ei.size:=Nat.le_mul_of_pos_right _ (by omega);omega) (λi x hx j c hc=>by
   obtain⟨u,f1,f2⟩:=BQ e2 _ _ (c3 i x hx j c hc);exact⟨u,by simpa using f1,f2⟩)
 refine⟨_,_,.slice (some ⟨w.heap.size,0,none⟩) len len,_,_,hk,?_,this.1,?_,this.2.1⟩
 ·have rh:¬ (16777216<len*inf.size):=by rw[<- ru];omega
  by_cases h0:len*inf.size=0
  ·have hlen0:len=0:=by rcases Nat.mul_eq_zero.1 h0 with h|h<;>omega
   subst hlen0;simp only[pY]at wE;have:tO=[]:=nI wE;subst this;have yy:Instr.fill (λi=>some (i*inf.size,inf.size)) (Array.map (λ_=>(default:Value)) (Array.range 0)) uparts.toList=some #[]:=by
    rw[<- ru];have:(Array.map (λ_=>(default:Value)) (Array.range 0))=(madeCells z.cells (0*ei.size)):=by simp[madeCells]
    rw[this];simpa using e1
   simp[Instr.buildSlice,ni hu,sizeOf,typeInfo,hi,newRow,yy]
  ·simp only[madeCells,pU]at e1;rw[ru]at e1;simp[Instr.buildSlice,ni hu,sizeOf,typeInfo,zeroValue,hi,hz,newRow,rh,h0,e1]
 ·simp only[AU];exact⟨_,by rw[hr.len];exact IL _ _,ml _,⟨_,_,_,rfl⟩,λ_=>⟨by simp only;omega,.inr ⟨_,rfl,(Lv (o:=⟨⟨0,ei.e,ei.size,chunk ei.size len cs⟩,some w.heap.size,len,FI⟩) (by simp only;omega)).symm⟩⟩⟩
end Go.Abs
