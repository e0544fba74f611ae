import Derived.Test.YtccficmcdkcpnaaGreatAbsF
set_option linter.all false
namespace Go.Abs
open Go
variable {P : Program} {F : Nat -> Prop} {os : List Own} {s : St} {a : Act} {w : World} {k : Nat}
def Ws (o:Option AV)(d:Int):Option Int:=
 match o with
 | none=>some d
 | some (.int _ j)=>some j
 | _=>none
def Yk (P:Program)(st:List Row)(t:TypeId)(x:AV)(lo hi mx:Option AV)(K:AV->List Row->Prop):Prop:=
 Gc (Ck P t) λei=>match mx with
  | some (.int _ m)=>m=0/\lo=none/\(match hi with|some (.int _ j)=>j=0|_=>False)/\(match x with|.sl _|.zc=>K .zc st|.own id g _=>Gc st[id]? λrow=>row.gen=g/\K .zc st|_=>False)
  | some _=>False
  | none=>match x with
   | .own id g n=>Gc st[id]? λrow=>row.gen=g/\n=row.xs.length/\Ws lo 0=some 0/\Gc (Ws hi n) λj=>0<=j/\j<=n/\K (.own id (g+1) j.toNat) (st.set id { row with gen:=g+1,xs:=row.xs.take j.toNat })
   | .sl xs=>Gc (Ws lo 0) λl=>Gc (Ws hi xs.length) λh=>0<=l/\l<=h/\h<=xs.length/\(∀x∈xs,x.length=ei.size)/\K (.sl ((xs.take h.toNat).drop l.toNat)) st
   | .zc=>Gc (Ws lo 0) λl=>Gc (Ws hi 0) λh=>l=0/\h=0/\K .zc st
   | _=>False
theorem Rf {t e:TypeId}{inf:TypeInfo}(hu:P.underlying t=some (.slice e))(hi:P.info? e=some inf)(ad:Option Addr)(n cap l h:Nat)(lo hi':Option Value)
  (hlo:(lo=none/\l=0)∨∃kk,lo=some (.int kk l)) (hhi:(hi'=none/\h=n)∨∃kk,hi'=some (.int kk h)) (hl:l<=h) (hc:h<=cap) :
  (Instr.sliceAt t (.slice ad n cap) lo hi' none).run P w=.ok (.slice (if cap=l then ad else ad.map (·.add (l*inf.size))) (h-l) (cap-l)) w:=by
 have e1:∀kk,(Instr.sliceBound (.int kk (h:Int)) cap (.sliceAcap)).run P w=.ok h w:=λkk=>by simp[Instr.sliceBound,asIntOf,hc]
 have e2:∀kk,(Instr.sliceBound (.int kk (l:Int)) h (.sliceB)).run P w=.ok l w:=λkk=>by simp[Instr.sliceBound,asIntOf,hl]
 rcases hlo with ⟨rfl,rfl⟩|⟨kl,rfl⟩<;>rcases hhi with ⟨rfl,rfl⟩|⟨kh,rfl⟩ <;>
  simp[Instr.sliceAt,vn hu,Instr.slice,Instr.sliceBounds,sizeOf,typeInfo,hi,e1,e2]
def VY (F:Nat->Prop)(w:World)(os:List Own):Option AV->Option Value->Prop
 | none,none=>True
 | some x,some u=>Ae F w os x u
 | _,_=>False
theorem Qq {o:Option AV}{uo:Option Value}{d j:Int}(h:Ws o d=some j)(hr:VY F w os o uo):(uo=none/\o=none/\j=d)∨∃kk,uo=some (.int kk j):=by
 unfold Ws at h;split at h
 ·simp only[uO]at h;cases uo with
  | none=>exact .inl ⟨rfl,rfl,h.symm⟩
  | some u=>exact hr.elim
 ·simp only[uO]at h;subst h;cases uo with
  | none=>exact hr.elim
  | some u=>simp only[VY,Ae]at hr;exact .inr ⟨_,by rw[hr]⟩
 ·cases h
theorem jR {t:TypeId}{x:AV}{ux:Value}{lo hi mx:Option AV}{ulo uhi umx:Option Value}{K:AV->List Row->Prop}(hr:Rel F os s a w)(h:Yk P s.st t x lo hi mx K)(hx:Ae F w os x ux)
  (hlo:VY F w os lo ulo) (hhi:VY F w os hi uhi) (hmx:VY F w os mx umx):IV P k F os s a w (Instr.sliceAt t ux ulo uhi umx) K:=by
 obtain⟨ei,he,h⟩:=BL h;obtain⟨inf,z,hu,hi',_,_,hpos,hsz,_⟩:=J3 he;cases mx with
 | some m=>
  cases m with
  | int km m=>
   obtain⟨rfl,rfl,hh,h9⟩:=h;cases hi with
   | none=>exact hh.elim
   | some hv=>
    cases hv with
    | int kh j=>
     simp only at hh;subst hh;cases ulo with
     | some _=>exact hlo.elim
     | none=>
      cases uhi with
      | none=>exact hhi.elim
      | some uh=>
       cases umx with
       | none=>exact hmx.elim
       | some um=>
        simp only[VY,Ae]at hhi hmx;subst hhi;subst hmx;have hrun:∀ad n c,(Instr.sliceAt t (.slice ad n c) none (some (.int kh 0)) (some (.int km 0))).run P w=.ok (.slice ad 0 0) w:=λad n c=>by
         simp[Instr.sliceAt,vn hu,Instr.slice,Instr.sliceBounds,Instr.sliceBound,asIntOf,sizeOf,typeInfo,hi']
        have hfin:∀ad n c,K .zc s.st->IV P k F os s a w (Instr.sliceAt t (.slice ad n c) none (some (.int kh 0)) (some (.int km 0))) K:=λad n c hk=>
         ⟨_,_,_,_,os,hk,hrun ad n c,hr,by simp[Ae],Ext.refl _ _ _ _⟩
        cases x with
        | sl xs=>simp only[Ae]at hx;obtain⟨ad,cap,rfl,_⟩:=hx;exact hfin _ _ _ h9
        | zc=>simp only[Ae]at hx;obtain⟨ad,rfl⟩:=hx;exact hfin _ _ _ h9
        | own id g n=>
         obtain⟨row,zh,hg,hk⟩:=BL h9;simp only[Ae]at hx;obtain⟨o,ho,_,⟨ad,l,c,rfl⟩,_⟩:=hx;exact hfin _ _ _ hk
        | _=>exact h9.elim
    | _=>exact hh.elim
  | _=>exact h.elim
 | none=>
  cases umx with
  | some _=>exact hmx.elim
  | none=>
   cases x with
   | own id g n=>
    obtain⟨row,zh,hg,hnw,hl0,h⟩:=BL h;obtain⟨j,hj,h0,hjn,hk⟩:=BL h;obtain⟨o,ho,rfl⟩:=hr.row zh;obtain⟨J,rfl⟩:=vu h0;simp only[wH]at hk;simp only[Ae]at hx;obtain⟨o',ho',hge,_,hx⟩:=hx;rw[ho]at ho';cases ho';obtain⟨hnl,hx⟩:=hx hg;simp only[PD hnw]at hx;have zp:=hr.rows id o ho;have h1:=Qq (F:=F) (w:=w) (os:=os) (uo:=ulo) hl0 hlo;have h2:=Qq (F:=F) (w:=w) (os:=os) (uo:=uhi) hj hhi;have hset:∀o':Own,(os.set id o')[id]?=some o':=λo'=>uV (uK.1 ho).1;have hturn:=hr.RK (k:=k) (o':={ o with row:={ o.row with gen:=g+1,xs:=o.row.xs.take J } }) ho (w':=w) (Gt.refl w _) (by simp[hg]) rfl (λe=>by simp[hg]at e) (λg hg=>.inl hg) (λAAC=>by
     refine⟨zp.pos,λy hy=>zp.lens y (wK hy),λhn=>?_,λb hb'=>?_,zp.mo,zp.deep.keep rfl (λ_ h=>h) rfl (λ_ _=>rfl) (λi x j e s ys hx hc=>by
      simp only[vN]at hx;split at hx
      ·exact⟨x,hx,hc⟩
      ·cases hx)⟩
     ·have:=zp.none hn;simp[this.1,this.2]
     ·obtain⟨h1,cur,h2,h3,h4,h5,h6⟩:=zp.some b hb';refine⟨h1,cur,h2,h3,by simp;omega,h5,λi y hy j c hc=>?_⟩;simp only[vN]at hy;split at hy
      ·obtain⟨u,e1,e2⟩:=h6 i y hy j c hc;exact⟨u,e1,AAC _ _ e2⟩
      ·cases hy)
    have hrun:∀ad cap,n<=cap->(Instr.sliceAt t (.slice ad n cap) ulo uhi none).run P w=.ok (.slice ad J cap) w:=λad cap hcap=>by
     have:=Rf (P:=P) (w:=w) hu hi' ad n cap 0 J ulo uhi (by rcases h1 with ⟨e,_,_⟩|⟨kk,e⟩;exact .inl ⟨e,rfl⟩;exact .inr ⟨kk,by simpa using e⟩)
      (by rcases h2 with ⟨e,_,e2⟩|⟨kk,e⟩;exact .inl ⟨e,by omega⟩;exact .inr ⟨kk,e⟩) (ue _) (by omega)
     rw[this];cases ad with
     | none=>simp
     | some ad=>simp[Addr.add]
    rcases hx with ⟨hbn,ad,rfl⟩|⟨b,Mu,rfl⟩
    ·have hn0:=zp.none hbn;simp only[hn0.1,vl,yU]at hnl;subst hnl;have hJ:J=0:=by omega
     subst hJ;refine⟨_,_,_,_,_,hk,hrun _ _ (uq _),hturn.1,?_,hturn.2.1⟩;simp only[Ae];exact⟨_,hset _,uq _,⟨_,_,_,rfl⟩,λ_=>⟨ue _,.inl ⟨hbn,_,rfl⟩⟩⟩
    ·obtain⟨_,_,_,_,h4,_⟩:=zp.some b Mu;refine⟨_,_,_,_,_,hk,hrun _ _ (by omega),hturn.1,?_,hturn.2.1⟩;simp only[Ae];exact⟨_,hset _,uq _,⟨_,_,_,rfl⟩,λ_=>⟨by simp;omega,.inr ⟨b,Mu,(PD (o:=⟨⟨g+1,o.row.elem,o.row.size,o.row.xs.take J⟩,o.Ea,o.cap,o.more⟩) (by simp;omega)).symm⟩⟩⟩
   | sl xs=>
    obtain⟨l,hl,h⟩:=BL h;obtain⟨h',hh,h0,hlh,hhn,hel,hk⟩:=BL h;obtain⟨L,rfl⟩:=vu h0;obtain⟨H,rfl⟩:=vu (Int.le_trans h0 hlh);simp only[wH]at hk;have h1:=Qq (F:=F) (w:=w) (os:=os) (uo:=ulo) hl hlo;have h2:=Qq (F:=F) (w:=w) (os:=os) (uo:=uhi) hh hhi;simp only[Ae]at hx;obtain⟨ad,cap,rfl,hcap,hne⟩:=hx;have hrun:=Rf (P:=P) (w:=w) hu hi' ad xs.length cap L H ulo uhi (by rcases h1 with ⟨e,_,e2⟩|⟨kk,e⟩;exact .inl ⟨e,by omega⟩;exact .inr ⟨kk,e⟩)
     (by rcases h2 with ⟨e,_,e2⟩|⟨kk,e⟩;exact .inl ⟨e,by omega⟩;exact .inr ⟨kk,e⟩) (by omega) (by omega)
    refine⟨_,_,_,_,os,hk,hrun,hr,?_,Ext.refl _ _ _ _⟩;simp only[Ae];have hlen:((xs.take H).drop L).length=H-L:=by simp;omega
    refine⟨_,_,by rw[hlen],by omega,λhne'=>?_⟩;have hlt:L<H:=by
     rcases wy L H with h|h
     ·exact h
     ·exact absurd (vM (by omega)) hne'
    obtain⟨b,o,size,rfl,hb,hss,hrows⟩:=hne (by intro e;subst e;simp at hhn;omega);have hL:L<xs.length:=by omega
    have Ga:size=inf.size:=by rw[<- hsz,<- hel _ (xB hL)];exact (hss _ (xB hL)).symm
    subst Ga;refine⟨b,o+L*inf.size,inf.size,?_,hb,λx hx=>hss x (wK (wC hx)),Mh (λx hx=>hss x (wK (wC hx))) λi x hx=>?_⟩
    ·rw[uY (by omega)];simp[DM]
    ·rw[vZ,vN]at hx;split at hx
     ·have:=NI hss hrows _ x hx;rwa [vg,<- wZ]at this
     ·cases hx
   | zc=>
    obtain⟨l,hl,h⟩:=BL h;obtain⟨h',hh,rfl,rfl,hk⟩:=BL h;have h1:=Qq (F:=F) (w:=w) (os:=os) (uo:=ulo) hl hlo;have h2:=Qq (F:=F) (w:=w) (os:=os) (uo:=uhi) hh hhi;simp only[Ae]at hx;obtain⟨ad,rfl⟩:=hx;have hrun:=Rf (P:=P) (w:=w) hu hi' ad 0 0 0 0 ulo uhi (by rcases h1 with ⟨e,_,e2⟩|⟨kk,e⟩;exact .inl ⟨e,rfl⟩;exact .inr ⟨kk,e⟩)
     (by rcases h2 with ⟨e,_,e2⟩|⟨kk,e⟩;exact .inl ⟨e,rfl⟩;exact .inr ⟨kk,e⟩) (by omega) (by omega)
    exact⟨_,_,_,_,os,hk,hrun,hr,by simp[Ae],Ext.refl _ _ _ _⟩
   | _=>exact h.elim
def PJ (place:Nat->Option (Nat×Nat)):List AV->List (Nat×AV)->Option (List AV)
 | cells,[]=>some cells
 | cells,(i,v)::r=>match place i with
  | none=>none
  | some (off,sz)=>match MF v with
   | none=>none
   | some cs=>if cs.length=sz/\off+sz<=cells.length then PJ place (Ip cells off cs) r else none
def Kt (P:Program)(t:TypeId):Option (List (Nat×Nat)):=
 match P.underlying t with
 | some (.struct fs)=>some (fs.toList.map λf=>(f.offset,P.cellsOf f.type))
 | _=>none
def Ix (P:Program)(t:TypeId):Bool:=
 match P.underlying t with
 | some (.struct fs)=>fs.all λf=>(P.info? f.type).isSome
 | _=>false
def eV (P:Program)(t:TypeId)(parts:List (Nat×AV))(K:AV->Prop):Prop:=
 Ix P t=true/\Gc (Kt P t) λfs=>Gc (IE P t) λz=>Gc (PJ (fs[·]?) z parts) λcs=>K (.agg cs)
def chunk (size:Nat):Nat->List AV->List (List AV)
 | 0,_=>[]
 | n+1,cs=>cs.take size::chunk size n (cs.drop size)
def R3 (P:Program)(st:List Row)(t:TypeId)(len:Nat)(parts:List (Nat×AV))(K:AV->List Row->Prop):Prop:=
 Gc (Ck P t) λei=>len*ei.size<=16777216/\Gc (PJ (λi=>some (i*ei.size,ei.size)) ((List.replicate len ei.zero).flatten) parts) λcs=>
  K (.own st.length 0 len) (st++[⟨0,ei.e,ei.size,chunk ei.size len cs⟩])
theorem eF {cells cs:List AV}{us vs:List Value}{off:Nat}(h1:Bc F w os cells us)(h2:Bc F w os cs vs)(hle:off+cs.length<=cells.length):
  Bc F w os (Ip cells off cs) (us.take off++vs++us.drop (off+vs.length)):=by
 have l1:=BR h1;have l2:=BR h2;refine DZ (by simp[Ip];omega) λi x u hx hu=>?_;rw[TT _ _ _ _ (by omega)]at hx;have hu':(us.take off++vs++us.drop (off+vs.length))[i]?=if i<off then us[i]? else if i<off+vs.length then vs[i-off]? else us[i]?:=by
  have:=OT (cur:=us.toArray) (us:=vs) (p:=off) (j:=i) (by simp;omega);simpa using this
 rw[hu']at hu;rw[l2]at hu;split at hx
 ·rename_i hi;rw[uX hi]at hu;obtain⟨u',e1,e2⟩:=Bo h1 i x hx;rw[e1]at hu;cases hu;exact e2
 ·rename_i hi;rw[uY hi]at hu;split at hx
  ·rename_i hi2;rw[uX hi2]at hu;obtain⟨u',e1,e2⟩:=Bo h2 _ x hx;rw[e1]at hu;cases hu;exact e2
  ·rename_i hi2;rw[uY hi2]at hu;obtain⟨u',e1,e2⟩:=Bo h1 i x hx;rw[e1]at hu;cases hu;exact e2
theorem cw (off:Nat):∀(vs:List Value) (j:Nat) (us:List Value),off+j+vs.length<=us.length->
  ((vs.zipIdx j).foldl (λ(cs:Array Value) (c:Value×Nat)=>cs.setIfInBounds (off+c.2) c.1) us.toArray)=(us.take (off+j)++vs++us.drop (off+j+vs.length)).toArray
 | [],j,us,_=>by simp
 | v::vs,j,us,h=>by
  simp only[vD]at h;simp only[List.zipIdx_cons,xQ,List.setIfInBounds_toArray];rw[cw off vs (j+1) (us.set (off+j) v) (by simp;omega)];congr 1;have e:=list_seg_step us (off+j) v vs (by omega);simpa [wZ] using e
theorem Wo (place:Nat->Option (Nat×Nat)):∀(parts:List (Nat×AV)) (uparts:List (Nat×Value)) (cells cells':List AV) (us:List Value),uparts.map (·.1)=parts.map (·.1)->
  (∀(i:Nat) p up,parts[i]?=some p->uparts[i]?=some up->Ae F w os p.2 up.2)->Bc F w os cells us->PJ place cells parts=some cells'->
  ∃us':List Value,Instr.fill place us.toArray uparts=some us'.toArray/\Bc F w os cells' us'/\us'.length=us.length/\((∀c∈cells,c.leaf=true)->∀c∈cells',c.leaf=true)
 | [],up,cells,cells',us,hm,_,hc,h=>by
  have:up=[]:=by simpa using hm
  subst this;simp only[PJ,uO]at h;subst h;exact⟨us,rfl,hc,rfl,λh=>h⟩
 | (i,v)::r,[],_,_,_,hm,_,_,_=>by simp at hm
 | (i,v)::r,(i',u)::ur,cells,cells',us,hm,hp,hc,h=>by
  simp only[vK,yh]at hm;obtain⟨rfl,hm⟩:=hm;have hv:Ae F w os v u:=hp 0 (i',v) (i',u) rfl rfl;simp only[PJ]at h;split at h
  ·cases h
  rename_i off sz hpl;split at h
  ·cases h
  rename_i cs hcs;split at h
  ·rename_i hif;obtain⟨hrl,hleaf⟩:=TN hcs hv;have hl:=BR hrl;have hlc:=BR hc;simp only[vy]at hl;obtain⟨us',e1,e2,e3,e4⟩:=Wo place r ur (Ip cells off cs) cells' (us.take off++u.cells.toList++us.drop (off+u.cells.toList.length)) hm
    (λj p up h1 h2=>hp (j+1) p up (by simpa using h1) (by simpa using h2)) (eF hc hrl (by omega)) h
   refine⟨us',?_,e2,?_,λhcl=>e4 λc hc'=>?_⟩
   ·simp only[Instr.fill,hpl];rw[uY (by simp;omega)];rw[<- e1];congr 1;have:=cw off u.cells.toList 0 us (by simp;omega);simp only[xN]at this;rw[<- this,<- Array.foldl_toList,Array.toList_zipIdx]
   ·rw[e3];simp;omega
   ·unfold Ip at hc';simp only[vJ]at hc';rcases hc' with (hc'|hc')|hc'
    ·exact hcl c (wK hc')
    ·exact hleaf c hc'
    ·exact hcl c (wC hc')
  ·cases h
theorem Sz {α β:Type}(g:α->Sem β)(f:α->β):∀(l:List α),(∀x∈l,(g x).run P w=.ok (f x) w)->(l.mapM g).run P w=.ok (l.map f) w
 | [],_=>by simp
 | x::l,h=>by
  have ih:=Sz g f l (λy hy=>h y (by simp[hy]));simp[xk,h x (by simp),ih]
theorem YS {α β:Type}(g:α->Sem β)(f:α->β)(xs:Array α)(h :∀x∈xs,(g x).run P w=.ok (f x) w):(xs.mapM g).run P w=.ok (xs.map f) w:=by
 have h1:=Sz (P:=P) (w:=w) g f xs.toList (λx hx=>h x (by simpa using hx));rw[Array.mapM_eq_mapM_toList,Sem.run_map,h1];have:(List.map f xs.toList).toArray=Array.map f xs:=by apply xK;simp
 simp[this]
theorem iT {t:TypeId}{parts:List (Nat×AV)}{uparts:Array (Nat×Value)}{K:AV->Prop}(h:eV P t parts K)(hm:uparts.toList.map (·.1)=parts.map (·.1))
  (hp :∀(i:Nat) p up,parts[i]?=some p->uparts.toList[i]?=some up->Ae F w os p.2 up.2):Yields P F w os (Instr.build t uparts) K:=by
 obtain⟨hall,h⟩:=h;obtain⟨fs,hfs,h⟩:=BL h;obtain⟨z,hz,h⟩:=BL h;obtain⟨cs,hcs,hk⟩:=BL h;obtain⟨inf,zv,hi,hzv,rfl,hl,_⟩:=Xp hz;unfold Kt at hfs;split at hfs
 case h_2=>cases hfs
 rename_i Qr hu;simp only[uO]at hfs;subst hfs;unfold Ix at hall;simp only[hu]at hall;obtain⟨us',e1,e2,_⟩:=Wo (F:=F) (w:=w) (os:=os) _ parts uparts.toList _ cs zv.cells.toList hm hp (RV F w os _) hcs;refine⟨_,.agg us'.toArray,hk,?_,by simp only[Ae];exact⟨us',rfl,e2⟩⟩;have hmap:=YS (P:=P) (w:=w) (λf:Field=>(do pure (f.offset,<- sizeOf f.type):Sem (Nat×Nat))) (λf=>(f.offset,P.cellsOf f.type)) Qr (λf hf=>by
  have h1:=Array.all_eq_true_iff_forall_mem.1 hall f hf;obtain⟨fi,hfi⟩:=Option.isSome_iff_exists.1 h1;simp[sizeOf,typeInfo,hfi,Program.cellsOf])
 have hplace:(λ(i:Nat)=>(Qr.map λf=>(f.offset,P.cellsOf f.type))[i]?)=λ(i:Nat)=>(Qr.toList.map λf=>(f.offset,P.cellsOf f.type))[i]?:=by
  funext i;simp
 simp only[xU]at e1;simp only[Instr.build,vU,zeroValue,typeInfo,run_program,vS,hi,vv,hzv,vn hu,hmap];rw[hplace,e1];simp
theorem ah {size:Nat}:∀{n:Nat} {cs:List AV},cs.length=n*size->(chunk size n cs).length=n/\(∀x∈chunk size n cs,x.length=size)/\
  ∀(i:Nat) x,(chunk size n cs)[i]?=some x->∀(j:Nat) c,x[j]?=some c->cs[i*size+j]?=some c
 | 0,cs,h=>by simp[chunk]
 | n+1,cs,h=>by
  have hl:(cs.drop size).length=n*size:=by rw[xZ,h,vg];omega
  obtain⟨h1,h2,h3⟩:=ah hl;have h0:size<=cs.length:=by rw[h,vg];omega
  refine⟨by simp[chunk,h1],λx hx=>?_,λi x hx j c hc=>?_⟩
  ·simp only[chunk,uz]at hx;rcases hx with rfl|hx
   ·simp;omega
   ·exact h2 x hx
  ·cases i with
   | zero=>
    simp only[chunk,vC,uO]at hx;subst hx;rw[vN]at hc;split at hc
    ·simpa using hc
    ·cases hc
   | succ i=>
    simp only[chunk,vW]at hx;have:=h3 i x hx j c hc;rw[vZ]at this;rw[<- this];congr 1;rw[vg];omega
theorem Oh {t:TypeId}{len:Nat}{parts:List (Nat×AV)}{uparts:Array (Nat×Value)}{K:AV->List Row->Prop}(hr:Rel F os s a w)(h:R3 P s.st t len parts K)(hm:uparts.toList.map (·.1)=parts.map (·.1))
  (hp :∀(i:Nat) p up,parts[i]?=some p->uparts.toList[i]?=some up->Ae F w os p.2 up.2):IV P k F os s a w (Instr.buildSlice t len uparts) K:=by
 obtain⟨ei,he,h⟩:=BL h;obtain⟨inf,z,hu,hi,hz,hzs,hpos,hsz,hby,hzero,hzl⟩:=J3 he;obtain⟨hle,h⟩:=h;obtain⟨cs,hcs,hk⟩:=BL h;have hzlen:ei.zero.length=ei.size:=by rw[hzero,hsz,<- hzs];simp
 have hz0:Bc F w os ((List.replicate len ei.zero).flatten) (madeCells z.cells (len*ei.size)).toList:=by
  refine DZ (by simp[madeCells,hzlen]) λi x u hx hu'=>?_;have hil:i<len*ei.size:=by have:=(uK.1 hu').1;simpa [madeCells] using this
  have hpos':0<ei.size:=by omega
  have hx':ei.zero[i % ei.size]?=some x:=by
   rw[<- hx];have hfl:∀(n i:Nat),i<n*ei.size->((List.replicate n ei.zero).flatten)[i]?=ei.zero[i % ei.size]?:=λn=>by
    induction n with
    | zero=>intro i hi;simp at hi
    | succ n ih=>
     intro i hi;rw[List.replicate_succ,List.flatten_cons];rw[vg]at hi;by_cases hlt:i<ei.size
     ·rw[uU (by omega),yB hlt]
     ·rw[ug (by omega),hzlen,ih _ (by omega)];congr 1;rw[Nat.mod_eq_sub_mod (by omega:i ≥ ei.size)]
   exact (hfl len i hil).symm
  have hmod:i % ei.size<z.cells.size:=by rw[hzs,<- hsz];exact Nat.mod_lt _ hpos'
  have hu2:u=z.cells[i % ei.size]:=by
   have hmm:i % z.cells.size<z.cells.size:=by rw[hzs,<- hsz];rw[hzs,<- hsz]at hmod;exact hmod
   simp[madeCells,hil]at hu';rw[<- hu'];have:i % z.cells.size=i % ei.size:=by rw[hzs,hsz]
   simp[this,hmod]
  subst hu2;rw[hzero]at hx';simp only[uP,wA,vk hmod,vY,uO]at hx';subst hx';exact NP F w os _
 obtain⟨us',e1,e2,e3,e4⟩:=Wo (F:=F) (w:=w) (os:=os) _ parts uparts.toList _ cs _ hm hp hz0 hcs;have hul:us'.length=len*ei.size:=by rw[e3];simp[madeCells]
 have hcl:cs.length=len*ei.size:=by rw[<- BR e2,hul]
 obtain⟨c1,c2,c3⟩:=ah hcl;have hleaf:∀c∈cs,c.leaf=true:=e4 (λc hc=>by
  simp only[List.mem_flatten,xC]at hc;obtain⟨l,⟨_,rfl⟩,hc⟩:=hc;exact hzl c hc)
 have:=hr.Tv (k:=k) (.inl rfl) (cur:=us'.toArray) (e:=ei.e) (size:=ei.size) (cap:=len) (xs:=chunk ei.size len cs) (by omega) (λx hx=>⟨c2 x hx,λc hc=>by
   obtain⟨i,hi'⟩:=vF.1 hx;obtain⟨j,hj⟩:=vF.1 hc;exact hleaf c (uL (c3 i x hi' j c hj))⟩) (by simpa using hul) (by omega) (by
    simp only[maxLen];have:len<=len*ei.size:=Nat.le_mul_of_pos_right _ (by omega);omega) (λi x hx j c hc=>by
   obtain⟨u,f1,f2⟩:=Bo e2 _ _ (c3 i x hx j c hc);exact⟨u,by simpa using f1,f2⟩)
 refine⟨_,_,.slice (some ⟨w.heap.size,0,none⟩) len len,_,_,hk,?_,this.1,?_,this.2.1⟩
 ·have hlt:¬ (16777216<len*inf.size):=by rw[<- hsz];omega
  by_cases h0:len*inf.size=0
  ·have hlen0:len=0:=by rcases Nat.mul_eq_zero.1 h0 with h|h<;>omega
   subst hlen0;simp only[xI]at hul;have:us'=[]:=vM hul;subst this;have e1':Instr.fill (λi=>some (i*inf.size,inf.size)) (Array.map (λ_=>(default:Value)) (Array.range 0)) uparts.toList=some #[]:=by
    rw[<- hsz];have:(Array.map (λ_=>(default:Value)) (Array.range 0))=(madeCells z.cells (0*ei.size)):=by simp[madeCells]
    rw[this];simpa using e1
   simp[Instr.buildSlice,vn hu,sizeOf,typeInfo,hi,newRow,e1']
  ·simp only[madeCells,xU]at e1;rw[hsz]at e1;simp[Instr.buildSlice,vn hu,sizeOf,typeInfo,zeroValue,hi,hz,newRow,hlt,h0,e1]
 ·simp only[Ae];exact⟨_,by rw[hr.len];exact LJ _ _,uq _,⟨_,_,_,rfl⟩,λ_=>⟨by simp only;omega,.inr ⟨_,rfl,(PD (o:=⟨⟨0,ei.e,ei.size,chunk ei.size len cs⟩,some w.heap.size,len,Gb⟩) (by simp only;omega)).symm⟩⟩⟩
end Go.Abs
