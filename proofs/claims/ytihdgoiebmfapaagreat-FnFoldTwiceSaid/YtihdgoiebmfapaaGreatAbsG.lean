import Derived.Test.YtihdgoiebmfapaaGreatAbsF
namespace Go.Abs
open Go
variable {P : Program} {F : Nat -> Prop} {os : List Own} {s : St} {a : Act} {w : World} {k : Nat}
def SV (o:Option AV)(d:Int):Option Int:=
 match o with
 | none=>some d
 | some (.int _ j)=>some j
 | _=>none
def UL (P:Program)(st:List Row)(t:TypeId)(x:AV)(lo hi mx:Option AV)(K:AV->List Row->Prop):Prop:=
 Ff (D4 P t) λei=>match mx with
  | some (.int _ m)=>m=0/\lo=none/\(match hi with|some (.int _ j)=>j=0|_=>False)/\(match x with|.sl _|.zc=>K .zc st|.own id g _=>Ff st[id]? λrow=>row.gen=g/\K .zc st|_=>False)
  | some _=>False
  | none=>match x with
   | .own id g n=>Ff st[id]? λrow=>row.gen=g/\n=row.xs.length/\SV lo 0=some 0/\Ff (SV hi n) λj=>0<=j/\j<=n/\K (.own id (g+1) j.toNat) (st.set id { row with gen:=g+1,xs:=row.xs.take j.toNat })
   | .sl xs=>Ff (SV lo 0) λl=>Ff (SV hi xs.length) λh=>0<=l/\l<=h/\h<=xs.length/\(∀x∈xs,x.length=ei.size)/\K (.sl ((xs.take h.toNat).drop l.toNat)) st
   | .zc=>Ff (SV lo 0) λl=>Ff (SV hi 0) λh=>l=0/\h=0/\K .zc st
   | _=>False
theorem OH {t e:TypeId}{inf:TypeInfo}(hu:P.underlying t=some (.slice e))(hi:P.info? e=some inf)(ad:Option Addr)(n cap l h:Nat)(lo hi':Option Value)
  (hlo:(lo=none/\l=0)∨∃kk,lo=some (.int kk l)) (hhi:(hi'=none/\h=n)∨∃kk,hi'=some (.int kk h)) (hl:l<=h) (hc:h<=cap) :
  (Instr.sliceAt t (.slice ad n cap) lo hi' none).run P w=.ok (.slice (if cap=l then ad else ad.map (·.add (l*inf.size))) (h-l) (cap-l)) w:=by
 have e1:∀kk,(Instr.sliceBound (.int kk (h:Int)) cap (.sliceAcap)).run P w=.ok h w:=λkk=>by simp[Instr.sliceBound,asIntOf,hc]
 have e2:∀kk,(Instr.sliceBound (.int kk (l:Int)) h (.sliceB)).run P w=.ok l w:=λkk=>by simp[Instr.sliceBound,asIntOf,hl]
 rcases hlo with ⟨rfl,rfl⟩|⟨kl,rfl⟩<;>rcases hhi with ⟨rfl,rfl⟩|⟨kh,rfl⟩ <;>
  simp[Instr.sliceAt,kg hu,Instr.slice,Instr.sliceBounds,sizeOf,typeInfo,hi,e1,e2]
def Ro (F:Nat->Prop)(w:World)(os:List Own):Option AV->Option Value->Prop
 | none,none=>True
 | some x,some u=>Ae F w os x u
 | _,_=>False
theorem Nk {o:Option AV}{uo:Option Value}{d j:Int}(h:SV o d=some j)(hr:Ro F w os o uo):(uo=none/\o=none/\j=d)∨∃kk,uo=some (.int kk j):=by
 unfold SV at h;split at h
 ·simp only[jh]at h;cases uo with
  | none=>exact .inl ⟨rfl,rfl,h.symm⟩
  | some u=>exact hr.elim
 ·simp only[jh]at h;subst h;cases uo with
  | none=>exact hr.elim
  | some u=>simp only[Ro,Ae]at hr;exact .inr ⟨_,by rw[hr]⟩
 ·cases h
theorem Zg {t:TypeId}{x:AV}{ux:Value}{lo hi mx:Option AV}{ulo uhi umx:Option Value}{K:AV->List Row->Prop}(hr:Rel F os s a w)(h:UL P s.st t x lo hi mx K)(hx:Ae F w os x ux)
  (hlo:Ro F w os lo ulo) (hhi:Ro F w os hi uhi) (hmx:Ro F w os mx umx):Hl P k F os s a w (Instr.sliceAt t ux ulo uhi umx) K:=by
 obtain⟨ei,he,h⟩:=BN h;obtain⟨inf,z,hu,hi',_,_,hpos,hsz,_⟩:=H8 he;cases mx with
 | some m=>
  cases m with
  | int km m=>
   obtain⟨rfl,rfl,hh,h9⟩:=h;cases hi with
   | none=>exact hh.elim
   | some hv=>
    cases hv with
    | int kh j=>
     simp only at hh;subst hh;cases ulo with
     | some _=>exact hlo.elim
     | none=>
      cases uhi with
      | none=>exact hhi.elim
      | some uh=>
       cases umx with
       | none=>exact hmx.elim
       | some um=>
        simp only[Ro,Ae]at hhi hmx;subst hhi;subst hmx;have hrun:∀ad n c,(Instr.sliceAt t (.slice ad n c) none (some (.int kh 0)) (some (.int km 0))).run P w=.ok (.slice ad 0 0) w:=λad n c=>by
         simp[Instr.sliceAt,kg hu,Instr.slice,Instr.sliceBounds,Instr.sliceBound,asIntOf,sizeOf,typeInfo,hi']
        have hfin:∀ad n c,K .zc s.st->Hl P k F os s a w (Instr.sliceAt t (.slice ad n c) none (some (.int kh 0)) (some (.int km 0))) K:=λad n c hk=>
         ⟨_,_,_,_,os,hk,hrun ad n c,hr,by simp[Ae],Ext.refl _ _ _ _⟩
        cases x with
        | sl xs=>simp only[Ae]at hx;obtain⟨ad,cap,rfl,_⟩:=hx;exact hfin _ _ _ h9
        | zc=>simp only[Ae]at hx;obtain⟨ad,rfl⟩:=hx;exact hfin _ _ _ h9
        | own id g n=>
         obtain⟨row,hrow,hg,hk⟩:=BN h9;simp only[Ae]at hx;obtain⟨o,ho,_,⟨ad,l,c,rfl⟩,_⟩:=hx;exact hfin _ _ _ hk
        | _=>exact h9.elim
    | _=>exact hh.elim
  | _=>exact h.elim
 | none=>
  cases umx with
  | some _=>exact hmx.elim
  | none=>
   cases x with
   | own id g n=>
    obtain⟨row,hrow,hg,hnw,hl0,h⟩:=BN h;obtain⟨j,hj,h0,hjn,hk⟩:=BN h;obtain⟨o,ho,rfl⟩:=hr.row hrow;obtain⟨J,rfl⟩:=kZ h0;simp only[lY]at hk;simp only[Ae]at hx;obtain⟨o',ho',hge,_,hx⟩:=hx;rw[ho]at ho';cases ho';obtain⟨hnl,hx⟩:=hx hg;simp only[L4 hnw]at hx;have hok:=hr.rows id o ho;have h1:=Nk (F:=F) (w:=w) (os:=os) (uo:=ulo) hl0 hlo;have h2:=Nk (F:=F) (w:=w) (os:=os) (uo:=uhi) hj hhi;have hset:∀o':Own,(os.set id o')[id]?=some o':=λo'=>ju (jg.1 ho).1;have hturn:=hr.PE (k:=k) (o':={ o with row:={ o.row with gen:=g+1,xs:=o.row.xs.take J } }) ho (w':=w) (HY.refl w _) (by simp[hg]) rfl (λe=>by simp[hg]at e) (λg hg=>.inl hg) (λhmono=>by
     refine⟨hok.pos,λy hy=>hok.lens y (kv hy),λhn=>?_,λb hb'=>?_,hok.mo,hok.deep.keep rfl (λ_ h=>h) rfl (λ_ _=>rfl) (λi x j e s ys hx hc=>by
      simp only[kL]at hx;split at hx
      ·exact⟨x,hx,hc⟩
      ·cases hx)⟩
     ·have:=hok.none hn;simp[this.1,this.2]
     ·obtain⟨h1,cur,h2,h3,h4,h5,h6⟩:=hok.some b hb';refine⟨h1,cur,h2,h3,by simp;omega,h5,λi y hy j c hc=>?_⟩;simp only[kL]at hy;split at hy
      ·obtain⟨u,e1,e2⟩:=h6 i y hy j c hc;exact⟨u,e1,hmono _ _ e2⟩
      ·cases hy)
    have hrun:∀ad cap,n<=cap->(Instr.sliceAt t (.slice ad n cap) ulo uhi none).run P w=.ok (.slice ad J cap) w:=λad cap hcap=>by
     have:=OH (P:=P) (w:=w) hu hi' ad n cap 0 J ulo uhi (by rcases h1 with ⟨e,_,_⟩|⟨kk,e⟩;exact .inl ⟨e,rfl⟩;exact .inr ⟨kk,by simpa using e⟩)
      (by rcases h2 with ⟨e,_,e2⟩|⟨kk,e⟩;exact .inl ⟨e,by omega⟩;exact .inr ⟨kk,e⟩) (kE _) (by omega)
     rw[this];cases ad with
     | none=>simp
     | some ad=>simp[Addr.add]
    rcases hx with ⟨hbn,ad,rfl⟩|⟨b,Jd,rfl⟩
    ·have hn0:=hok.none hbn;simp only[hn0.1,lE,nR]at hnl;subst hnl;have hJ:J=0:=by omega
     subst hJ;refine⟨_,_,_,_,_,hk,hrun _ _ (jv _),hturn.1,?_,hturn.2.1⟩;simp only[Ae];exact⟨_,hset _,jv _,⟨_,_,_,rfl⟩,λ_=>⟨kE _,.inl ⟨hbn,_,rfl⟩⟩⟩
    ·obtain⟨_,_,_,_,h4,_⟩:=hok.some b Jd;refine⟨_,_,_,_,_,hk,hrun _ _ (by omega),hturn.1,?_,hturn.2.1⟩;simp only[Ae];exact⟨_,hset _,jv _,⟨_,_,_,rfl⟩,λ_=>⟨by simp;omega,.inr ⟨b,Jd,(L4 (o:=⟨⟨g+1,o.row.elem,o.row.size,o.row.xs.take J⟩,o.Fe,o.cap,o.more⟩) (by simp;omega)).symm⟩⟩⟩
   | sl xs=>
    obtain⟨l,hl,h⟩:=BN h;obtain⟨h',hh,h0,hlh,hhn,hel,hk⟩:=BN h;obtain⟨L,rfl⟩:=kZ h0;obtain⟨H,rfl⟩:=kZ (Int.le_trans h0 hlh);simp only[lY]at hk;have h1:=Nk (F:=F) (w:=w) (os:=os) (uo:=ulo) hl hlo;have h2:=Nk (F:=F) (w:=w) (os:=os) (uo:=uhi) hh hhi;simp only[Ae]at hx;obtain⟨ad,cap,rfl,hcap,hne⟩:=hx;have hrun:=OH (P:=P) (w:=w) hu hi' ad xs.length cap L H ulo uhi (by rcases h1 with ⟨e,_,e2⟩|⟨kk,e⟩;exact .inl ⟨e,by omega⟩;exact .inr ⟨kk,e⟩)
     (by rcases h2 with ⟨e,_,e2⟩|⟨kk,e⟩;exact .inl ⟨e,by omega⟩;exact .inr ⟨kk,e⟩) (by omega) (by omega)
    refine⟨_,_,_,_,os,hk,hrun,hr,?_,Ext.refl _ _ _ _⟩;simp only[Ae];have hlen:((xs.take H).drop L).length=H-L:=by simp;omega
    refine⟨_,_,by rw[hlen],by omega,λhne'=>?_⟩;have hlt:L<H:=by
     rcases la L H with h|h
     ·exact h
     ·exact absurd (ka (by omega)) hne'
    obtain⟨b,o,size,rfl,hb,hss,hrows⟩:=hne (by intro e;subst e;simp at hhn;omega);have hL:L<xs.length:=by omega
    have Gk:size=inf.size:=by rw[<- hsz,<- hel _ (mH hL)];exact (hss _ (mH hL)).symm
    subst Gk;refine⟨b,o+L*inf.size,inf.size,?_,hb,λx hx=>hss x (kv (lQ hx)),LL (λx hx=>hss x (kv (lQ hx))) λi x hx=>?_⟩
    ·rw[jn (by omega)];simp[DE]
    ·rw[kW,kL]at hx;split at hx
     ·have:=IF hss hrows _ x hx;rwa [kP,<- lS]at this
     ·cases hx
   | zc=>
    obtain⟨l,hl,h⟩:=BN h;obtain⟨h',hh,rfl,rfl,hk⟩:=BN h;have h1:=Nk (F:=F) (w:=w) (os:=os) (uo:=ulo) hl hlo;have h2:=Nk (F:=F) (w:=w) (os:=os) (uo:=uhi) hh hhi;simp only[Ae]at hx;obtain⟨ad,rfl⟩:=hx;have hrun:=OH (P:=P) (w:=w) hu hi' ad 0 0 0 0 ulo uhi (by rcases h1 with ⟨e,_,e2⟩|⟨kk,e⟩;exact .inl ⟨e,rfl⟩;exact .inr ⟨kk,e⟩)
     (by rcases h2 with ⟨e,_,e2⟩|⟨kk,e⟩;exact .inl ⟨e,rfl⟩;exact .inr ⟨kk,e⟩) (by omega) (by omega)
    exact⟨_,_,_,_,os,hk,hrun,hr,by simp[Ae],Ext.refl _ _ _ _⟩
   | _=>exact h.elim
def MV (place:Nat->Option (Nat×Nat)):List AV->List (Nat×AV)->Option (List AV)
 | cells,[]=>some cells
 | cells,(i,v)::r=>match place i with
  | none=>none
  | some (off,sz)=>match KP v with
   | none=>none
   | some cs=>if cs.length=sz/\off+sz<=cells.length then MV place (G5 cells off cs) r else none
def Js (P:Program)(t:TypeId):Option (List (Nat×Nat)):=
 match P.underlying t with
 | some (.struct fs)=>some (fs.toList.map λf=>(f.offset,P.cellsOf f.type))
 | _=>none
def IW (P:Program)(t:TypeId):Bool:=
 match P.underlying t with
 | some (.struct fs)=>fs.all λf=>(P.info? f.type).isSome
 | _=>false
def Xc (P:Program)(t:TypeId)(parts:List (Nat×AV))(K:AV->Prop):Prop:=
 IW P t=true/\Ff (Js P t) λfs=>Ff (IC P t) λz=>Ff (MV (fs[·]?) z parts) λcs=>K (.agg cs)
def chunk (size:Nat):Nat->List AV->List (List AV)
 | 0,_=>[]
 | n+1,cs=>cs.take size::chunk size n (cs.drop size)
def OB (P:Program)(st:List Row)(t:TypeId)(len:Nat)(parts:List (Nat×AV))(K:AV->List Row->Prop):Prop:=
 Ff (D4 P t) λei=>len*ei.size<=16777216/\Ff (MV (λi=>some (i*ei.size,ei.size)) ((List.replicate len ei.zero).flatten) parts) λcs=>
  K (.own st.length 0 len) (st++[⟨0,ei.e,ei.size,chunk ei.size len cs⟩])
theorem Xj {cells cs:List AV}{us vs:List Value}{off:Nat}(h1:Br F w os cells us)(h2:Br F w os cs vs)(hle:off+cs.length<=cells.length):
  Br F w os (G5 cells off cs) (us.take off++vs++us.drop (off+vs.length)):=by
 have l1:=BY h1;have l2:=BY h2;refine DZ (by simp[G5];omega) λi x u hx hu=>?_;rw[O2 _ _ _ _ (by omega)]at hx;have hu':(us.take off++vs++us.drop (off+vs.length))[i]?=if i<off then us[i]? else if i<off+vs.length then vs[i-off]? else us[i]?:=by
  have:=J6 (cur:=us.toArray) (us:=vs) (p:=off) (j:=i) (by simp;omega);simpa using this
 rw[hu']at hu;rw[l2]at hu;split at hx
 ·rename_i hi;rw[jm hi]at hu;obtain⟨u',e1,e2⟩:=CN h1 i x hx;rw[e1]at hu;cases hu;exact e2
 ·rename_i hi;rw[jn hi]at hu;split at hx
  ·rename_i hi2;rw[jm hi2]at hu;obtain⟨u',e1,e2⟩:=CN h2 _ x hx;rw[e1]at hu;cases hu;exact e2
  ·rename_i hi2;rw[jn hi2]at hu;obtain⟨u',e1,e2⟩:=CN h1 i x hx;rw[e1]at hu;cases hu;exact e2
theorem Wy (off:Nat):∀(vs:List Value) (j:Nat) (us:List Value),off+j+vs.length<=us.length->
  ((vs.zipIdx j).foldl (λ(cs:Array Value) (c:Value×Nat)=>cs.setIfInBounds (off+c.2) c.1) us.toArray)=(us.take (off+j)++vs++us.drop (off+j+vs.length)).toArray
 | [],j,us,_=>by simp
 | v::vs,j,us,h=>by
  simp only[kQ]at h;simp only[List.zipIdx_cons,List.foldl_cons,List.setIfInBounds_toArray];rw[Wy off vs (j+1) (us.set (off+j) v) (by simp;omega)];congr 1;have e:=list_seg_step us (off+j) v vs (by omega);simpa [lS] using e
theorem TH (place:Nat->Option (Nat×Nat)):∀(parts:List (Nat×AV)) (uparts:List (Nat×Value)) (cells cells':List AV) (us:List Value),uparts.map (·.1)=parts.map (·.1)->
  (∀(i:Nat) p up,parts[i]?=some p->uparts[i]?=some up->Ae F w os p.2 up.2)->Br F w os cells us->MV place cells parts=some cells'->
  ∃us':List Value,Instr.fill place us.toArray uparts=some us'.toArray/\Br F w os cells' us'/\us'.length=us.length/\((∀c∈cells,c.leaf=true)->∀c∈cells',c.leaf=true)
 | [],up,cells,cells',us,hm,_,hc,h=>by
  have:up=[]:=by simpa using hm
  subst this;simp only[MV,jh]at h;subst h;exact⟨us,rfl,hc,rfl,λh=>h⟩
 | (i,v)::r,[],_,_,_,hm,_,_,_=>by simp at hm
 | (i,v)::r,(i',u)::ur,cells,cells',us,hm,hp,hc,h=>by
  simp only[kI,mL]at hm;obtain⟨rfl,hm⟩:=hm;have hv:Ae F w os v u:=hp 0 (i',v) (i',u) rfl rfl;simp only[MV]at h;split at h
  ·cases h
  rename_i off sz hpl;split at h
  ·cases h
  rename_i cs hcs;split at h
  ·rename_i hif;obtain⟨hrl,hleaf⟩:=O0 hcs hv;have hl:=BY hrl;have hlc:=BY hc;simp only[ly]at hl;obtain⟨us',e1,e2,e3,e4⟩:=TH place r ur (G5 cells off cs) cells' (us.take off++u.cells.toList++us.drop (off+u.cells.toList.length)) hm
    (λj p up h1 h2=>hp (j+1) p up (by simpa using h1) (by simpa using h2)) (Xj hc hrl (by omega)) h
   refine⟨us',?_,e2,?_,λhcl=>e4 λc hc'=>?_⟩
   ·simp only[Instr.fill,hpl];rw[jn (by simp;omega)];rw[<- e1];congr 1;have:=Wy off u.cells.toList 0 us (by simp;omega);simp only[mA]at this;rw[<- this,<- Array.foldl_toList,Array.toList_zipIdx]
   ·rw[e3];simp;omega
   ·unfold G5 at hc';simp only[kJ]at hc';rcases hc' with (hc'|hc')|hc'
    ·exact hcl c (kv hc')
    ·exact hleaf c hc'
    ·exact hcl c (lQ hc')
  ·cases h
theorem Ph {α β:Type}(g:α->Sem β)(f:α->β):∀(l:List α),(∀x∈l,(g x).run P w=.ok (f x) w)->(l.mapM g).run P w=.ok (l.map f) w
 | [],_=>by simp
 | x::l,h=>by
  have ih:=Ph g f l (λy hy=>h y (by simp[hy]));simp[mq,h x (by simp),ih]
theorem Tv {α β:Type}(g:α->Sem β)(f:α->β)(xs:Array α)(h :∀x∈xs,(g x).run P w=.ok (f x) w):(xs.mapM g).run P w=.ok (xs.map f) w:=by
 have h1:=Ph (P:=P) (w:=w) g f xs.toList (λx hx=>h x (by simpa using hx));rw[Array.mapM_eq_mapM_toList,Sem.run_map,h1];have:(List.map f xs.toList).toArray=Array.map f xs:=by apply mP;simp
 simp[this]
theorem Zm {t:TypeId}{parts:List (Nat×AV)}{uparts:Array (Nat×Value)}{K:AV->Prop}(h:Xc P t parts K)(hm:uparts.toList.map (·.1)=parts.map (·.1))
  (hp :∀(i:Nat) p up,parts[i]?=some p->uparts.toList[i]?=some up->Ae F w os p.2 up.2):Yields P F w os (Instr.build t uparts) K:=by
 obtain⟨hall,h⟩:=h;obtain⟨fs,hfs,h⟩:=BN h;obtain⟨z,hz,h⟩:=BN h;obtain⟨cs,hcs,hk⟩:=BN h;obtain⟨inf,zv,hi,hzv,rfl,hl,_⟩:=Tg hz;unfold Js at hfs;split at hfs
 case h_2=>cases hfs
 rename_i LQ hu;simp only[jh]at hfs;subst hfs;unfold IW at hall;simp only[hu]at hall;obtain⟨us',e1,e2,_⟩:=TH (F:=F) (w:=w) (os:=os) _ parts uparts.toList _ cs zv.cells.toList hm hp (N4 F w os _) hcs;refine⟨_,.agg us'.toArray,hk,?_,by simp only[Ae];exact⟨us',rfl,e2⟩⟩;have hmap:=Tv (P:=P) (w:=w) (λf:Field=>(do pure (f.offset,<- sizeOf f.type):Sem (Nat×Nat))) (λf=>(f.offset,P.cellsOf f.type)) LQ (λf hf=>by
  have h1:=Array.all_eq_true_iff_forall_mem.1 hall f hf;obtain⟨fi,hfi⟩:=Option.isSome_iff_exists.1 h1;simp[sizeOf,typeInfo,hfi,Program.cellsOf])
 have hplace:(λ(i:Nat)=>(LQ.map λf=>(f.offset,P.cellsOf f.type))[i]?)=λ(i:Nat)=>(LQ.toList.map λf=>(f.offset,P.cellsOf f.type))[i]?:=by
  funext i;simp
 simp only[mQ]at e1;simp only[Instr.build,kX,zeroValue,typeInfo,run_program,kV,hi,ku,hzv,kg hu,hmap];rw[hplace,e1];simp
theorem Uw {size:Nat}:∀{n:Nat} {cs:List AV},cs.length=n*size->(chunk size n cs).length=n/\(∀x∈chunk size n cs,x.length=size)/\
  ∀(i:Nat) x,(chunk size n cs)[i]?=some x->∀(j:Nat) c,x[j]?=some c->cs[i*size+j]?=some c
 | 0,cs,h=>by simp[chunk]
 | n+1,cs,h=>by
  have hl:(cs.drop size).length=n*size:=by rw[mI,h,kP];omega
  obtain⟨h1,h2,h3⟩:=Uw hl;have h0:size<=cs.length:=by rw[h,kP];omega
  refine⟨by simp[chunk,h1],λx hx=>?_,λi x hx j c hc=>?_⟩
  ·simp only[chunk,js]at hx;rcases hx with rfl|hx
   ·simp;omega
   ·exact h2 x hx
  ·cases i with
   | zero=>
    simp only[chunk,kK,jh]at hx;subst hx;rw[kL]at hc;split at hc
    ·simpa using hc
    ·cases hc
   | succ i=>
    simp only[chunk,kT]at hx;have:=h3 i x hx j c hc;rw[kW]at this;rw[<- this];congr 1;rw[kP];omega
theorem Ob {t:TypeId}{len:Nat}{parts:List (Nat×AV)}{uparts:Array (Nat×Value)}{K:AV->List Row->Prop}(hr:Rel F os s a w)(h:OB P s.st t len parts K)(hm:uparts.toList.map (·.1)=parts.map (·.1))
  (hp :∀(i:Nat) p up,parts[i]?=some p->uparts.toList[i]?=some up->Ae F w os p.2 up.2):Hl P k F os s a w (Instr.buildSlice t len uparts) K:=by
 obtain⟨ei,he,h⟩:=BN h;obtain⟨inf,z,hu,hi,hz,hzs,hpos,hsz,hby,hzero,hzl⟩:=H8 he;obtain⟨hle,h⟩:=h;obtain⟨cs,hcs,hk⟩:=BN h;have hzlen:ei.zero.length=ei.size:=by rw[hzero,hsz,<- hzs];simp
 have hz0:Br F w os ((List.replicate len ei.zero).flatten) (madeCells z.cells (len*ei.size)).toList:=by
  refine DZ (by simp[madeCells,hzlen]) λi x u hx hu'=>?_;have hil:i<len*ei.size:=by have:=(jg.1 hu').1;simpa [madeCells] using this
  have hpos':0<ei.size:=by omega
  have hx':ei.zero[i % ei.size]?=some x:=by
   rw[<- hx];have hfl:∀(n i:Nat),i<n*ei.size->((List.replicate n ei.zero).flatten)[i]?=ei.zero[i % ei.size]?:=λn=>by
    induction n with
    | zero=>intro i hi;simp at hi
    | succ n ih=>
     intro i hi;rw[List.replicate_succ,List.flatten_cons];rw[kP]at hi;by_cases hlt:i<ei.size
     ·rw[jr (by omega),mT hlt]
     ·rw[jt (by omega),hzlen,ih _ (by omega)];congr 1;rw[Nat.mod_eq_sub_mod (by omega:i ≥ ei.size)]
   exact (hfl len i hil).symm
  have hmod:i % ei.size<z.cells.size:=by rw[hzs,<- hsz];exact Nat.mod_lt _ hpos'
  have hu2:u=z.cells[i % ei.size]:=by
   have hmm:i % z.cells.size<z.cells.size:=by rw[hzs,<- hsz];rw[hzs,<- hsz]at hmod;exact hmod
   simp[madeCells,hil]at hu';rw[<- hu'];have:i % z.cells.size=i % ei.size:=by rw[hzs,hsz]
   simp[this,hmod]
  subst hu2;rw[hzero]at hx';simp only[ji,lq,lA hmod,kb,jh]at hx';subst hx';exact Lq F w os _
 obtain⟨us',e1,e2,e3,e4⟩:=TH (F:=F) (w:=w) (os:=os) _ parts uparts.toList _ cs _ hm hp hz0 hcs;have hul:us'.length=len*ei.size:=by rw[e3];simp[madeCells]
 have hcl:cs.length=len*ei.size:=by rw[<- BY e2,hul]
 obtain⟨c1,c2,c3⟩:=Uw hcl;have hleaf:∀c∈cs,c.leaf=true:=e4 (λc hc=>by
  simp only[List.mem_flatten,nM]at hc;obtain⟨l,⟨_,rfl⟩,hc⟩:=hc;exact hzl c hc)
 have:=hr.OS (k:=k) (.inl rfl) (cur:=us'.toArray) (e:=ei.e) (size:=ei.size) (cap:=len) (xs:=chunk ei.size len cs) (by omega) (λx hx=>⟨c2 x hx,λc hc=>by
   obtain⟨i,hi'⟩:=jz.1 hx;obtain⟨j,hj⟩:=jz.1 hc;exact hleaf c (je (c3 i x hi' j c hj))⟩) (by simpa using hul) (by omega) (by
    simp only[maxLen];have:len<=len*ei.size:=Nat.le_mul_of_pos_right _ (by omega);omega) (λi x hx j c hc=>by
   obtain⟨u,f1,f2⟩:=CN e2 _ _ (c3 i x hx j c hc);exact⟨u,by simpa using f1,f2⟩)
 refine⟨_,_,.slice (some ⟨w.heap.size,0,none⟩) len len,_,_,hk,?_,this.1,?_,this.2.1⟩
 ·have hlt:¬ (16777216<len*inf.size):=by rw[<- hsz];omega
  by_cases h0:len*inf.size=0
  ·have hlen0:len=0:=by rcases Nat.mul_eq_zero.1 h0 with h|h<;>omega
   subst hlen0;simp only[nI]at hul;have:us'=[]:=ka hul;subst this;have e1':Instr.fill (λi=>some (i*inf.size,inf.size)) (Array.map (λ_=>(default:Value)) (Array.range 0)) uparts.toList=some #[]:=by
    rw[<- hsz];have:(Array.map (λ_=>(default:Value)) (Array.range 0))=(madeCells z.cells (0*ei.size)):=by simp[madeCells]
    rw[this];simpa using e1
   simp[Instr.buildSlice,kg hu,sizeOf,typeInfo,hi,newRow,e1']
  ·simp only[madeCells,mQ]at e1;rw[hsz]at e1;simp[Instr.buildSlice,kg hu,sizeOf,typeInfo,zeroValue,hi,hz,newRow,hlt,h0,e1]
 ·simp only[Ae];exact⟨_,by rw[hr.len];exact Jh _ _,jv _,⟨_,_,_,rfl⟩,λ_=>⟨by simp only;omega,.inr ⟨_,rfl,(L4 (o:=⟨⟨0,ei.e,ei.size,chunk ei.size len cs⟩,some w.heap.size,len,FW⟩) (by simp only;omega)).symm⟩⟩⟩
end Go.Abs
