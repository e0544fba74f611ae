import Derived.Test.YtfkncfjpobjbjaaAbsF
set_option linter.all false
namespace Go.Abs
open Go
variable {P : Program} {F : Nat -> Prop} {os : List Own} {s : St} {a : Act} {w : World} {k : Nat}
def KK (o:Option AV)(d:Int):Option Int:=
 match o with
 | none=>some d
 | some (.int _ j)=>some j
 | _=>none
def LO (P:Program)(st:List Row)(t:TypeId)(x:AV)(lo hi mx:Option AV)(K:AV->List Row->Prop):Prop:=
 Bk (CG P t) λei=>match mx with
  | some (.int _ m)=>m=0/\lo=none/\(match hi with|some (.int _ j)=>j=0|_=>False)/\(match x with|.sl _|.zc=>K .zc st|.own id g _=>Bk st[id]? λrow=>row.gen=g/\K .zc st|_=>False)
  | some _=>False
  | none=>match x with
   | .own id g n=>Bk st[id]? λrow=>row.gen=g/\n=row.xs.length/\KK lo 0=some 0/\Bk (KK hi n) λj=>0<=j/\j<=n/\K (.own id (g+1) j.toNat) (st.set id { row with gen:=g+1,xs:=row.xs.take j.toNat })
   | .sl xs=>Bk (KK lo 0) λl=>Bk (KK hi xs.length) λh=>0<=l/\l<=h/\h<=xs.length/\(∀x∈xs,x.length=ei.size)/\K (.sl ((xs.take h.toNat).drop l.toNat)) st
   | .zc=>Bk (KK lo 0) λl=>Bk (KK hi 0) λh=>l=0/\h=0/\K .zc st
   | _=>False
theorem Fh {t e:TypeId}{inf:TypeInfo}(hu:P.underlying t=some (.slice e))(hi:P.info? e=some inf)(ad:Option Addr)(n cap l h:Nat)(lo Ww:Option Value)
  (Xd:(lo=none/\l=0)∨∃kk,lo=some (.int kk l)) (ZC:(Ww=none/\h=n)∨∃kk,Ww=some (.int kk h)) (hl:l<=h) (hc:h<=cap) :
  (Instr.sliceAt t (.slice ad n cap) lo Ww none).run P w=.ok (.slice (if cap=l then ad else ad.map (·.add (l*inf.size))) (h-l) (cap-l)) w:=by
 have e1:∀kk,(Instr.sliceBound (.int kk (h:Int)) cap (.sliceAcap)).run P w=.ok h w:=λkk=>by simp[Instr.sliceBound,asIntOf,hc]
 have e2:∀kk,(Instr.sliceBound (.int kk (l:Int)) h (.sliceB)).run P w=.ok l w:=λkk=>by simp[Instr.sliceBound,asIntOf,hl]
 rcases Xd with ⟨rfl,rfl⟩|⟨kl,rfl⟩<;>rcases ZC with ⟨rfl,rfl⟩|⟨kh,rfl⟩ <;>
  simp[Instr.sliceAt,SN hu,Instr.slice,Instr.sliceBounds,sizeOf,typeInfo,hi,e1,e2]
def H0 (F:Nat->Prop)(w:World)(os:List Own):Option AV->Option Value->Prop
 | none,none=>True
 | some x,some u=>AF F w os x u
 | _,_=>False
theorem FO {o:Option AV}{uo:Option Value}{d j:Int}(h:KK o d=some j)(hr:H0 F w os o uo):(uo=none/\o=none/\j=d)∨∃kk,uo=some (.int kk j):=by
 unfold KK at h;split at h
 ·simp only[Rr]at h;cases uo with
  | none=>exact .inl ⟨rfl,rfl,h.symm⟩
  | some u=>exact hr.elim
 ·simp only[Rr]at h;subst h;cases uo with
  | none=>exact hr.elim
  | some u=>simp only[H0,AF]at hr;exact .inr ⟨_,by rw[hr]⟩
 ·cases h
theorem Ms {t:TypeId}{x:AV}{ux:Value}{lo hi mx:Option AV}{Ye Yf bn:Option Value}{K:AV->List Row->Prop}(hr:Rel F os s a w)(h:LO P s.st t x lo hi mx K)(hx:AF F w os x ux)
  (Xd:H0 F w os lo Ye) (ZC:H0 F w os hi Yf) (bp:H0 F w os mx bn):CU P k F os s a w (Instr.sliceAt t ux Ye Yf bn) K:=by
 obtain⟨ei,he,h⟩:=AU h;obtain⟨inf,z,hu,Ww,_,_,Ui,Uc,_⟩:=EJ he;cases mx with
 | some m=>
  cases m with
  | int km m=>
   obtain⟨rfl,rfl,hh,h9⟩:=h;cases hi with
   | none=>exact hh.elim
   | some hv=>
    cases hv with
    | int kh j=>
     simp only at hh;subst hh;cases Ye with
     | some _=>exact Xd.elim
     | none=>
      cases Yf with
      | none=>exact ZC.elim
      | some uh=>
       cases bn with
       | none=>exact bp.elim
       | some um=>
        simp only[H0,AF]at ZC bp;subst ZC;subst bp;have UR:∀ad n c,(Instr.sliceAt t (.slice ad n c) none (some (.int kh 0)) (some (.int km 0))).run P w=.ok (.slice ad 0 0) w:=λad n c=>by
         simp[Instr.sliceAt,SN hu,Instr.slice,Instr.sliceBounds,Instr.sliceBound,asIntOf,sizeOf,typeInfo,Ww]
        have Xc:∀ad n c,K .zc s.st->CU P k F os s a w (Instr.sliceAt t (.slice ad n c) none (some (.int kh 0)) (some (.int km 0))) K:=λad n c hk=>
         ⟨_,_,_,_,os,hk,UR ad n c,hr,by simp[AF],BN _ _ _ _⟩
        cases x with
        | sl xs=>simp only[AF]at hx;obtain⟨ad,cap,rfl,_⟩:=hx;exact Xc _ _ _ h9
        | zc=>simp only[AF]at hx;obtain⟨ad,rfl⟩:=hx;exact Xc _ _ _ h9
        | own id g n=>
         obtain⟨row,T4,hg,hk⟩:=AU h9;simp only[AF]at hx;obtain⟨o,ho,_,⟨ad,l,c,rfl⟩,_⟩:=hx;exact Xc _ _ _ hk
        | _=>exact h9.elim
    | _=>exact hh.elim
  | _=>exact h.elim
 | none=>
  cases bn with
  | some _=>exact bp.elim
  | none=>
   cases x with
   | own id g n=>
    obtain⟨row,T4,hg,hnw,cg,h⟩:=AU h;obtain⟨j,hj,h0,an,hk⟩:=AU h;obtain⟨o,ho,rfl⟩:=hr.row T4;obtain⟨J,rfl⟩:=TE h0;simp only[S0]at hk;simp only[AF]at hx;obtain⟨o',UZ,W4,_,hx⟩:=hx;rw[ho]at UZ;cases UZ;obtain⟨aP,hx⟩:=hx hg;simp only[Ef hnw]at hx;have T6:=hr.rows id o ho;have h1:=FO (F:=F) (w:=w) (os:=os) (uo:=Ye) cg Xd;have h2:=FO (F:=F) (w:=w) (os:=os) (uo:=Yf) hj ZC;have V4:∀o':Own,(os.set id o')[id]?=some o':=λo'=>Rw (Rq.1 ho).1;have U6:=hr.GR (k:=k) (o':={ o with row:={ o.row with gen:=g+1,xs:=o.row.xs.take J } }) ho (w':=w) (EF w _) (by simp[hg]) rfl (λe=>by simp[hg]at e) (λg hg=>.inl hg) (λT8=>by
     refine⟨T6.pos,λy hy=>T6.lens y (SZ hy),λhn=>?_,λb US=>?_,T6.mo,T6.deep.keep rfl (λ_ h=>h) rfl (λ_ _=>rfl) (λi x j e s ys hx hc=>by
      simp only[SB]at hx;split at hx
      ·exact⟨x,hx,hc⟩
      ·cases hx)⟩
     ·have Xu:o.row.xs=[]:=by
       rcases hx with ⟨_,q,_⟩|⟨b,q,_⟩
       ·exact q
       ·rw[show o.BW=_ from hn]at q;cases q
      simp[Xu,(T6.nil hn Xu).2]
     ·obtain⟨h1,cur,h2,h3,h4,h5,h6⟩:=T6.some b US;refine⟨h1,cur,h2,h3,by simp;omega,h5,λi y hy j c hc=>?_⟩;simp only[SB]at hy;split at hy
      ·obtain⟨u,e1,e2⟩:=h6 i y hy j c hc;exact⟨u,e1,T8 _ _ e2⟩
      ·cases hy)
    have UR:∀ad cap,n<=cap->(Instr.sliceAt t (.slice ad n cap) Ye Yf none).run P w=.ok (.slice ad J cap) w:=λad cap V0=>by
     have:=Fh (P:=P) (w:=w) hu Ww ad n cap 0 J Ye Yf (by rcases h1 with ⟨e,_,_⟩|⟨kk,e⟩;exact .inl ⟨e,rfl⟩;exact .inr ⟨kk,by simpa using e⟩)
      (by rcases h2 with ⟨e,_,e2⟩|⟨kk,e⟩;exact .inl ⟨e,by omega⟩;exact .inr ⟨kk,e⟩) (SA _) (by omega)
     rw[this];cases ad with
     | none=>simp
     | some ad=>simp[Addr.add]
    rcases hx with ⟨hbn,Vf,ad,rfl⟩|⟨b,Vx,rfl⟩
    ·have cf:=T6.nil hbn Vf;simp only[cf.1,S3,Tr]at aP;subst aP;have hJ:J=0:=by omega
     subst hJ;refine⟨_,_,_,_,_,hk,UR _ _ (R3 _),U6.1,?_,U6.2.1⟩;simp only[AF];exact⟨_,V4 _,R3 _,⟨_,_,_,rfl⟩,λ_=>⟨SA _,.inl ⟨hbn,by simp,_,rfl⟩⟩⟩
    ·obtain⟨_,_,_,_,h4,_⟩:=T6.some b Vx;refine⟨_,_,_,_,_,hk,UR _ _ (by omega),U6.1,?_,U6.2.1⟩;simp only[AF];exact⟨_,V4 _,R3 _,⟨_,_,_,rfl⟩,λ_=>⟨by simp;omega,.inr ⟨b,Vx,(Ef (o:=⟨⟨g+1,o.row.elem,o.row.size,o.row.xs.take J⟩,o.BW,o.cap,o.more⟩) (by simp;omega)).symm⟩⟩⟩
   | sl xs=>
    obtain⟨l,hl,h⟩:=AU h;obtain⟨h',hh,h0,hlh,hhn,aO,hk⟩:=AU h;obtain⟨L,rfl⟩:=TE h0;obtain⟨H,rfl⟩:=TE (Int.le_trans h0 hlh);simp only[S0]at hk;have h1:=FO (F:=F) (w:=w) (os:=os) (uo:=Ye) hl Xd;have h2:=FO (F:=F) (w:=w) (os:=os) (uo:=Yf) hh ZC;simp only[AF]at hx;obtain⟨ad,cap,rfl,V0,Ua⟩:=hx;have UR:=Fh (P:=P) (w:=w) hu Ww ad xs.length cap L H Ye Yf (by rcases h1 with ⟨e,_,e2⟩|⟨kk,e⟩;exact .inl ⟨e,by omega⟩;exact .inr ⟨kk,e⟩)
     (by rcases h2 with ⟨e,_,e2⟩|⟨kk,e⟩;exact .inl ⟨e,by omega⟩;exact .inr ⟨kk,e⟩) (by omega) (by omega)
    refine⟨_,_,_,_,os,hk,UR,hr,?_,BN _ _ _ _⟩;simp only[AF];have hlen:((xs.take H).drop L).length=H-L:=by simp;omega
    refine⟨_,_,by rw[hlen],by omega,λYo=>?_⟩;have UM:L<H:=by
     rcases TH L H with h|h
     ·exact h
     ·exact absurd (SO (by omega)) Yo
    obtain⟨b,o,size,rfl,hb,hss,Ux⟩:=Ua (by intro e;subst e;simp at hhn;omega);have hL:L<xs.length:=by omega
    have Br:size=inf.size:=by rw[<- Uc,<- aO _ (S7 hL)];exact (hss _ (S7 hL)).symm
    subst Br;refine⟨b,o+L*inf.size,inf.size,?_,hb,λx hx=>hss x (SZ (Se hx)),Di (λx hx=>hss x (SZ (Se hx))) λi x hx=>?_⟩
    ·rw[R0 (by omega)];simp[Bq]
    ·rw[SX,SB]at hx;split at hx
     ·have:=Dr hss Ux _ x hx;rwa [SQ,<- TC]at this
     ·cases hx
   | zc=>
    obtain⟨l,hl,h⟩:=AU h;obtain⟨h',hh,rfl,rfl,hk⟩:=AU h;have h1:=FO (F:=F) (w:=w) (os:=os) (uo:=Ye) hl Xd;have h2:=FO (F:=F) (w:=w) (os:=os) (uo:=Yf) hh ZC;simp only[AF]at hx;obtain⟨ad,rfl⟩:=hx;have UR:=Fh (P:=P) (w:=w) hu Ww ad 0 0 0 0 Ye Yf (by rcases h1 with ⟨e,_,e2⟩|⟨kk,e⟩;exact .inl ⟨e,rfl⟩;exact .inr ⟨kk,e⟩)
     (by rcases h2 with ⟨e,_,e2⟩|⟨kk,e⟩;exact .inl ⟨e,rfl⟩;exact .inr ⟨kk,e⟩) (by omega) (by omega)
    exact⟨_,_,_,_,os,hk,UR,hr,by simp[AF],BN _ _ _ _⟩
   | _=>exact h.elim
def Fu (place:Nat->Option (Nat×Nat)):List AV->List (Nat×AV)->Option (List AV)
 | cells,[]=>some cells
 | cells,(i,v)::r=>match place i with
  | none=>none
  | some (off,sz)=>match Ed v with
   | none=>none
   | some cs=>if cs.length=sz/\off+sz<=cells.length then Fu place (Cr cells off cs) r else none
def Hs (P:Program)(t:TypeId):Option (List (Nat×Nat)):=
 match P.underlying t with
 | some (.struct fs)=>some (fs.toList.map λf=>(f.offset,P.cellsOf f.type))
 | _=>none
def Gb (P:Program)(t:TypeId):Bool:=
 match P.underlying t with
 | some (.struct fs)=>fs.all λf=>(P.info? f.type).isSome
 | _=>false
def Ld (P:Program)(t:TypeId)(parts:List (Nat×AV))(K:AV->Prop):Prop:=
 Gb P t=true/\Bk (Hs P t) λfs=>Bk (FG P t) λz=>Bk (Fu (fs[·]?) z parts) λcs=>K (.agg cs)
def chunk (size:Nat):Nat->List AV->List (List AV)
 | 0,_=>[]
 | n+1,cs=>cs.take size::chunk size n (cs.drop size)
def Fq (P:Program)(st:List Row)(t:TypeId)(len:Nat)(parts:List (Nat×AV))(K:AV->List Row->Prop):Prop:=
 Bk (CG P t) λei=>len*ei.size<=16777216/\Bk (Fu (λi=>some (i*ei.size,ei.size)) ((List.replicate len ei.zero).flatten) parts) λcs=>
  K (.own st.length 0 len) (st++[⟨0,ei.e,ei.size,chunk ei.size len cs⟩])
theorem Lz {cells cs:List AV}{us vs:List Value}{off:Nat}(h1:Ad F w os cells us)(h2:Ad F w os cs vs)(hle:off+cs.length<=cells.length):
  Ad F w os (Cr cells off cs) (us.take off++vs++us.drop (off+vs.length)):=by
 have l1:=Ab h1;have l2:=Ab h2;refine BP (by simp[Cr];omega) λi x u hx hu=>?_;rw[GV _ _ _ _ (by omega)]at hx;have VJ:(us.take off++vs++us.drop (off+vs.length))[i]?=if i<off then us[i]? else if i<off+vs.length then vs[i-off]? else us[i]?:=by
  have:=EN (cur:=us.toArray) (us:=vs) (p:=off) (j:=i) (by simp;omega);simpa using this
 rw[VJ]at hu;rw[l2]at hu;split at hx
 ·rename_i hi;rw[R1 hi]at hu;obtain⟨u',e1,e2⟩:=Al h1 i x hx;rw[e1]at hu;cases hu;exact e2
 ·rename_i hi;rw[R0 hi]at hu;split at hx
  ·rename_i Xw;rw[R1 Xw]at hu;obtain⟨u',e1,e2⟩:=Al h2 _ x hx;rw[e1]at hu;cases hu;exact e2
  ·rename_i Xw;rw[R0 Xw]at hu;obtain⟨u',e1,e2⟩:=Al h1 i x hx;rw[e1]at hu;cases hu;exact e2
theorem Kb (off:Nat):∀(vs:List Value) (j:Nat) (us:List Value),off+j+vs.length<=us.length->
  ((vs.zipIdx j).foldl (λ(cs:Array Value) (c:Value×Nat)=>cs.setIfInBounds (off+c.2) c.1) us.toArray)=(us.take (off+j)++vs++us.drop (off+j+vs.length)).toArray
 | [],j,us,_=>by simp
 | v::vs,j,us,h=>by
  simp only[Sm]at h;simp only[List.zipIdx_cons,List.foldl_cons,List.setIfInBounds_toArray];rw[Kb off vs (j+1) (us.set (off+j) v) (by simp;omega)];congr 1;have e:=list_seg_step us (off+j) v vs (by omega);simpa [TC] using e
theorem IQ (place:Nat->Option (Nat×Nat)):∀(parts:List (Nat×AV)) (uparts:List (Nat×Value)) (cells VX:List AV) (us:List Value),uparts.map (·.1)=parts.map (·.1)->
  (∀(i:Nat) p up,parts[i]?=some p->uparts[i]?=some up->AF F w os p.2 up.2)->Ad F w os cells us->Fu place cells parts=some VX->
  ∃VR:List Value,Instr.fill place us.toArray uparts=some VR.toArray/\Ad F w os VX VR/\VR.length=us.length/\((∀c∈cells,c.leaf=true)->∀c∈VX,c.leaf=true)
 | [],up,cells,VX,us,hm,_,hc,h=>by
  have:up=[]:=by simpa using hm
  subst this;simp only[Fu,Rr]at h;subst h;exact⟨us,rfl,hc,rfl,λh=>h⟩
 | (i,v)::r,[],_,_,_,hm,_,_,_=>by simp at hm
 | (i,v)::r,(i',u)::ur,cells,VX,us,hm,hp,hc,h=>by
  simp only[SD,T2]at hm;obtain⟨rfl,hm⟩:=hm;have hv:AF F w os v u:=hp 0 (i',v) (i',u) rfl rfl;simp only[Fu]at h;split at h
  ·cases h
  rename_i off sz cj;split at h
  ·cases h
  rename_i cs WN;split at h
  ·rename_i bq;obtain⟨ZX,UY⟩:=GL WN hv;have hl:=Ab ZX;have cX:=Ab hc;simp only[S5]at hl;obtain⟨VR,e1,e2,e3,e4⟩:=IQ place r ur (Cr cells off cs) VX (us.take off++u.cells.toList++us.drop (off+u.cells.toList.length)) hm
    (λj p up h1 h2=>hp (j+1) p up (by simpa using h1) (by simpa using h2)) (Lz hc ZX (by omega)) h
   refine⟨VR,?_,e2,?_,λZb=>e4 λc Wg=>?_⟩
   ·simp only[Instr.fill,cj];rw[R0 (by simp;omega)];rw[<- e1];congr 1;have:=Kb off u.cells.toList 0 us (by simp;omega);simp only[Nat.add_zero]at this;rw[<- this,<- Array.foldl_toList,Array.toList_zipIdx]
   ·rw[e3];simp;omega
   ·unfold Cr at Wg;simp only[SM]at Wg;rcases Wg with (Wg|Wg)|Wg
    ·exact Zb c (SZ Wg)
    ·exact UY c Wg
    ·exact Zb c (Se Wg)
  ·cases h
theorem GK {α β:Type}(g:α->Sem β)(f:α->β):∀(l:List α),(∀x∈l,(g x).run P w=.ok (f x) w)->(l.mapM g).run P w=.ok (l.map f) w
 | [],_=>by simp
 | x::l,h=>by
  have ih:=GK g f l (λy hy=>h y (by simp[hy]));simp[Ta,h x (by simp),ih]
theorem Iw {α β:Type}(g:α->Sem β)(f:α->β)(xs:Array α)(h :∀x∈xs,(g x).run P w=.ok (f x) w):(xs.mapM g).run P w=.ok (xs.map f) w:=by
 have h1:=GK (P:=P) (w:=w) g f xs.toList (λx hx=>h x (by simpa using hx));rw[Array.mapM_eq_mapM_toList,Sem.run_map,h1];have:(List.map f xs.toList).toArray=Array.map f xs:=by apply TK;simp
 simp[this]
theorem Nc {t:TypeId}{parts:List (Nat×AV)}{uparts:Array (Nat×Value)}{K:AV->Prop}(h:Ld P t parts K)(hm:uparts.toList.map (·.1)=parts.map (·.1))
  (hp :∀(i:Nat) p up,parts[i]?=some p->uparts.toList[i]?=some up->AF F w os p.2 up.2):Yields P F w os (Instr.build t uparts) K:=by
 obtain⟨VK,h⟩:=h;obtain⟨fs,Zc,h⟩:=AU h;obtain⟨z,hz,h⟩:=AU h;obtain⟨cs,WN,hk⟩:=AU h;obtain⟨inf,zv,hi,hzv,rfl,hl,_⟩:=Ii hz;unfold Hs at Zc;split at Zc
 case h_2=>cases Zc
 rename_i CJ hu;simp only[Rr]at Zc;subst Zc;unfold Gb at VK;simp only[hu]at VK;obtain⟨VR,e1,e2,_⟩:=IQ (F:=F) (w:=w) (os:=os) _ parts uparts.toList _ cs zv.cells.toList hm hp (Fg F w os _) WN;refine⟨_,.agg VR.toArray,hk,?_,by simp only[AF];exact⟨VR,rfl,e2⟩⟩;have ck:=Iw (P:=P) (w:=w) (λf:Field=>(do pure (f.offset,<- sizeOf f.type):Sem (Nat×Nat))) (λf=>(f.offset,P.cellsOf f.type)) CJ (λf hf=>by
  have h1:=Array.all_eq_true_iff_forall_mem.1 VK f hf;obtain⟨fi,br⟩:=TV.1 h1;simp[sizeOf,typeInfo,br,Program.cellsOf])
 have Zd:(λ(i:Nat)=>(CJ.map λf=>(f.offset,P.cellsOf f.type))[i]?)=λ(i:Nat)=>(CJ.toList.map λf=>(f.offset,P.cellsOf f.type))[i]?:=by
  funext i;simp
 simp only[Array.toArray_toList]at e1;simp only[Instr.build,SW,zeroValue,typeInfo,run_program,SH,hi,SY,hzv,SN hu,ck];rw[Zd,e1];simp
theorem JI {size:Nat}:∀{n:Nat} {cs:List AV},cs.length=n*size->(chunk size n cs).length=n/\(∀x∈chunk size n cs,x.length=size)/\
  ∀(i:Nat) x,(chunk size n cs)[i]?=some x->∀(j:Nat) c,x[j]?=some c->cs[i*size+j]?=some c
 | 0,cs,h=>by simp[chunk]
 | n+1,cs,h=>by
  have hl:(cs.drop size).length=n*size:=by rw[Tx,h,SQ];omega
  obtain⟨h1,h2,h3⟩:=JI hl;have h0:size<=cs.length:=by rw[h,SQ];omega
  refine⟨by simp[chunk,h1],λx hx=>?_,λi x hx j c hc=>?_⟩
  ·simp only[chunk,SE]at hx;rcases hx with rfl|hx
   ·simp;omega
   ·exact h2 x hx
  ·cases i with
   | zero=>
    simp only[chunk,R6,Rr]at hx;subst hx;rw[SB]at hc;split at hc
    ·simpa using hc
    ·cases hc
   | succ i=>
    simp only[chunk,SK]at hx;have:=h3 i x hx j c hc;rw[SX]at this;rw[<- this];congr 1;rw[SQ];omega
theorem F4 {t:TypeId}{len:Nat}{parts:List (Nat×AV)}{uparts:Array (Nat×Value)}{K:AV->List Row->Prop}(hr:Rel F os s a w)(h:Fq P s.st t len parts K)(hm:uparts.toList.map (·.1)=parts.map (·.1))
  (hp :∀(i:Nat) p up,parts[i]?=some p->uparts.toList[i]?=some up->AF F w os p.2 up.2):CU P k F os s a w (Instr.buildSlice t len uparts) K:=by
 obtain⟨ei,he,h⟩:=AU h;obtain⟨inf,z,hu,hi,hz,XZ,Ui,Uc,hby,hzero,hzl⟩:=EJ he;obtain⟨hle,h⟩:=h;obtain⟨cs,WN,hk⟩:=AU h;have ZD:ei.zero.length=ei.size:=by rw[hzero,Uc,<- XZ];simp
 have Vf:Ad F w os ((List.replicate len ei.zero).flatten) (madeCells z.cells (len*ei.size)).toList:=by
  refine BP (by simp[madeCells,ZD]) λi x u hx VJ=>?_;have W5:i<len*ei.size:=by have:=(Rq.1 VJ).1;simpa [madeCells] using this
  have ao:0<ei.size:=by omega
  have Wv:ei.zero[i % ei.size]?=some x:=by
   rw[<- hx];have V3:∀(n i:Nat),i<n*ei.size->((List.replicate n ei.zero).flatten)[i]?=ei.zero[i % ei.size]?:=λn=>by
    induction n with
    | zero=>intro i hi;simp at hi
    | succ n ih=>
     intro i hi;rw[List.replicate_succ,List.flatten_cons];rw[SQ]at hi;by_cases UM:i<ei.size
     ·rw[Rx (by omega),Nat.mod_eq_of_lt UM]
     ·rw[Rz (by omega),ZD,ih _ (by omega)];congr 1;rw[Nat.mod_eq_sub_mod (by omega:i ≥ ei.size)]
   exact (V3 len i W5).symm
  have Xa:i % ei.size<z.cells.size:=by rw[XZ,<- Uc];exact Nat.mod_lt _ ao
  have WE:u=z.cells[i % ei.size]:=by
   have fP:i % z.cells.size<z.cells.size:=by rw[XZ,<- Uc];rw[XZ,<- Uc]at Xa;exact Xa
   simp[madeCells,W5]at VJ;rw[<- VJ];have:i % z.cells.size=i % ei.size:=by rw[XZ,Uc]
   simp[this,Xa]
  subst WE;rw[hzero]at Wv;simp only[Rs,TI,Sl Xa,SG,Rr]at Wv;subst Wv;exact Fy F w os _
 obtain⟨VR,e1,e2,e3,e4⟩:=IQ (F:=F) (w:=w) (os:=os) _ parts uparts.toList _ cs _ hm hp Vf WN;have Xb:VR.length=len*ei.size:=by rw[e3];simp[madeCells]
 have Zb:cs.length=len*ei.size:=by rw[<- Ab e2,Xb]
 obtain⟨c1,c2,c3⟩:=JI Zb;have UY:∀c∈cs,c.leaf=true:=e4 (λc hc=>by
  simp only[List.mem_flatten,List.mem_replicate]at hc;obtain⟨l,⟨_,rfl⟩,hc⟩:=hc;exact hzl c hc)
 have:=hr.I4 (k:=k) (.inl rfl) (cur:=VR.toArray) (e:=ei.e) (size:=ei.size) (cap:=len) (xs:=chunk ei.size len cs) (by omega) (λx hx=>⟨c2 x hx,λc hc=>by
   obtain⟨i,Ww⟩:=R5.1 hx;obtain⟨j,hj⟩:=R5.1 hc;exact UY c (Ro (c3 i x Ww j c hj))⟩) (by simpa using Xb) (by omega) (by
    simp only[maxLen];have:len<=len*ei.size:=Nat.le_mul_of_pos_right _ (by omega);omega) (λi x hx j c hc=>by
   obtain⟨u,f1,f2⟩:=Al e2 _ _ (c3 i x hx j c hc);exact⟨u,by simpa using f1,f2⟩)
 refine⟨_,_,.slice (some ⟨w.heap.size,0,none⟩) len len,_,_,hk,?_,this.1,?_,this.2.1⟩
 ·have UM:¬ (16777216<len*inf.size):=by rw[<- Uc];omega
  by_cases h0:len*inf.size=0
  ·have aq:len=0:=by rcases Nat.mul_eq_zero.1 h0 with h|h<;>omega
   subst aq;simp only[T0]at Xb;have:VR=[]:=SO Xb;subst this;have gp:Instr.fill (λi=>some (i*inf.size,inf.size)) (Array.map (λ_=>(default:Value)) (Array.range 0)) uparts.toList=some #[]:=by
    rw[<- Uc];have:(Array.map (λ_=>(default:Value)) (Array.range 0))=(madeCells z.cells (0*ei.size)):=by simp[madeCells]
    rw[this];simpa using e1
   simp[Instr.buildSlice,SN hu,sizeOf,typeInfo,hi,newRow,gp]
  ·simp only[madeCells,Array.toArray_toList]at e1;rw[Uc]at e1;simp[Instr.buildSlice,SN hu,sizeOf,typeInfo,zeroValue,hi,hz,newRow,UM,h0,e1]
 ·simp only[AF];exact⟨_,by rw[hr.len];exact Ds _ _,R3 _,⟨_,_,_,rfl⟩,λ_=>⟨by simp only;omega,.inr ⟨_,rfl,(Ef (o:=⟨⟨0,ei.e,ei.size,chunk ei.size len cs⟩,some w.heap.size,len,Cl⟩) (by simp only;omega)).symm⟩⟩⟩
end Go.Abs
