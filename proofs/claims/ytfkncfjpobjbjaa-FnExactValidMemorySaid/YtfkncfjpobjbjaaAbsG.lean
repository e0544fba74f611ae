import Derived.Test.YtfkncfjpobjbjaaAbsF
set_option linter.all false
namespace Go.Abs
open Go
variable {P : Program} {F : Nat -> Prop} {os : List Own} {s : St} {a : Act} {w : World} {k : Nat}
def J3 (o:Option AV)(d:Int):Option Int:=
 match o with
 | none=>some d
 | some (.int _ j)=>some j
 | _=>none
def LV (P:Program)(st:List Row)(t:TypeId)(x:AV)(lo hi mx:Option AV)(K:AV->List Row->Prop):Prop:=
 Bi (CJ P t) λei=>match mx with
  | some (.int _ m)=>m=0/\lo=none/\(match hi with|some (.int _ j)=>j=0|_=>False)/\(match x with|.sl _|.zc=>K .zc st|.own id g _=>Bi st[id]? λrow=>row.gen=g/\K .zc st|_=>False)
  | some _=>False
  | none=>match x with
   | .own id g n=>Bi st[id]? λrow=>row.gen=g/\n=row.xs.length/\J3 lo 0=some 0/\Bi (J3 hi n) λj=>0<=j/\j<=n/\K (.own id (g+1) j.toNat) (st.set id { row with gen:=g+1,xs:=row.xs.take j.toNat })
   | .sl xs=>Bi (J3 lo 0) λl=>Bi (J3 hi xs.length) λh=>0<=l/\l<=h/\h<=xs.length/\(∀x∈xs,x.length=ei.size)/\K (.sl ((xs.take h.toNat).drop l.toNat)) st
   | .zc=>Bi (J3 lo 0) λl=>Bi (J3 hi 0) λh=>l=0/\h=0/\K .zc st
   | _=>False
theorem Ft {t e:TypeId}{inf:TypeInfo}(hu:P.underlying t=some (.slice e))(hi:P.info? e=some inf)(ad:Option Addr)(n cap l h:Nat)(lo Wm:Option Value)
  (XW:(lo=none/\l=0)∨∃kk,lo=some (.int kk l)) (Y8:(Wm=none/\h=n)∨∃kk,Wm=some (.int kk h)) (hl:l<=h) (hc:h<=cap) :
  (Instr.sliceAt t (.slice ad n cap) lo Wm none).run P w=.ok (.slice (if cap=l then ad else ad.map (·.add (l*inf.size))) (h-l) (cap-l)) w:=by
 have e1:∀kk,(Instr.sliceBound (.int kk (h:Int)) cap (.sliceAcap)).run P w=.ok h w:=λkk=>by simp[Instr.sliceBound,asIntOf,hc]
 have e2:∀kk,(Instr.sliceBound (.int kk (l:Int)) h (.sliceB)).run P w=.ok l w:=λkk=>by simp[Instr.sliceBound,asIntOf,hl]
 rcases XW with ⟨rfl,rfl⟩|⟨kl,rfl⟩<;>rcases Y8 with ⟨rfl,rfl⟩|⟨kh,rfl⟩ <;>
  simp[Instr.sliceAt,SJ hu,Instr.slice,Instr.sliceBounds,sizeOf,typeInfo,hi,e1,e2]
def Hm (F:Nat->Prop)(w:World)(os:List Own):Option AV->Option Value->Prop
 | none,none=>True
 | some x,some u=>AF F w os x u
 | _,_=>False
theorem FV {o:Option AV}{uo:Option Value}{d j:Int}(h:J3 o d=some j)(hr:Hm F w os o uo):(uo=none/\o=none/\j=d)∨∃kk,uo=some (.int kk j):=by
 unfold J3 at h;split at h
 ·simp only[Rn]at h;cases uo with
  | none=>exact .inl ⟨rfl,rfl,h.symm⟩
  | some u=>exact hr.elim
 ·simp only[Rn]at h;subst h;cases uo with
  | none=>exact hr.elim
  | some u=>simp only[Hm,AF]at hr;exact .inr ⟨_,by rw[hr]⟩
 ·cases h
theorem NB {t:TypeId}{x:AV}{ux:Value}{lo hi mx:Option AV}{YZ Ya bg:Option Value}{K:AV->List Row->Prop}(hr:Rel F os s a w)(h:LV P s.st t x lo hi mx K)(hx:AF F w os x ux)
  (XW:Hm F w os lo YZ) (Y8:Hm F w os hi Ya) (bh:Hm F w os mx bg):CU P k F os s a w (Instr.sliceAt t ux YZ Ya bg) K:=by
 obtain⟨ei,he,h⟩:=AU h;obtain⟨inf,z,hu,Wm,_,_,Ue,UX,_⟩:=EJ he;cases mx with
 | some m=>
  cases m with
  | int km m=>
   obtain⟨rfl,rfl,hh,h9⟩:=h;cases hi with
   | none=>exact hh.elim
   | some hv=>
    cases hv with
    | int kh j=>
     simp only at hh;subst hh;cases YZ with
     | some _=>exact XW.elim
     | none=>
      cases Ya with
      | none=>exact Y8.elim
      | some uh=>
       cases bg with
       | none=>exact bh.elim
       | some um=>
        simp only[Hm,AF]at Y8 bh;subst Y8;subst bh;have UM:∀ad n c,(Instr.sliceAt t (.slice ad n c) none (some (.int kh 0)) (some (.int km 0))).run P w=.ok (.slice ad 0 0) w:=λad n c=>by
         simp[Instr.sliceAt,SJ hu,Instr.slice,Instr.sliceBounds,Instr.sliceBound,asIntOf,sizeOf,typeInfo,Wm]
        have XV:∀ad n c,K .zc s.st->CU P k F os s a w (Instr.sliceAt t (.slice ad n c) none (some (.int kh 0)) (some (.int km 0))) K:=λad n c hk=>
         ⟨_,_,_,_,os,hk,UM ad n c,hr,by simp[AF],BM _ _ _ _⟩
        cases x with
        | sl xs=>simp only[AF]at hx;obtain⟨ad,cap,rfl,_⟩:=hx;exact XV _ _ _ h9
        | zc=>simp only[AF]at hx;obtain⟨ad,rfl⟩:=hx;exact XV _ _ _ h9
        | own id g n=>
         obtain⟨row,T0,hg,hk⟩:=AU h9;simp only[AF]at hx;obtain⟨o,ho,_,⟨ad,l,c,rfl⟩,_⟩:=hx;exact XV _ _ _ hk
        | _=>exact h9.elim
    | _=>exact hh.elim
  | _=>exact h.elim
 | none=>
  cases bg with
  | some _=>exact bh.elim
  | none=>
   cases x with
   | own id g n=>
    obtain⟨row,T0,hg,hnw,cY,h⟩:=AU h;obtain⟨j,hj,h0,af,hk⟩:=AU h;obtain⟨o,ho,rfl⟩:=hr.row T0;obtain⟨J,rfl⟩:=TA h0;simp only[Su]at hk;simp only[AF]at hx;obtain⟨o',UU,Wu,_,hx⟩:=hx;rw[ho]at UU;cases UU;obtain⟨aH,hx⟩:=hx hg;simp only[Eb hnw]at hx;have T2:=hr.rows id o ho;have h1:=FV (F:=F) (w:=w) (os:=os) (uo:=YZ) cY XW;have h2:=FV (F:=F) (w:=w) (os:=os) (uo:=Ya) hj Y8;have V0:∀o':Own,(os.set id o')[id]?=some o':=λo'=>Rs (Rm.1 ho).1;have U1:=hr.GS (k:=k) (o':={ o with row:={ o.row with gen:=g+1,xs:=o.row.xs.take J } }) ho (w':=w) (EC w _) (by simp[hg]) rfl (λe=>by simp[hg]at e) (λg hg=>.inl hg) (λT4=>by
     refine⟨T2.pos,λy hy=>T2.lens y (SV hy),λhn=>?_,λb UO=>?_,T2.mo,T2.deep.keep rfl (λ_ h=>h) rfl (λ_ _=>rfl) (λi x j e s ys hx hc=>by
      simp only[R6]at hx;split at hx
      ·exact⟨x,hx,hc⟩
      ·cases hx)⟩
     ·have Xp:o.row.xs=[]:=by
       rcases hx with ⟨_,q,_⟩|⟨b,q,_⟩
       ·exact q
       ·rw[show o.BV=_ from hn]at q;cases q
      simp[Xp,(T2.nil hn Xp).2]
     ·obtain⟨h1,cur,h2,h3,h4,h5,h6⟩:=T2.some b UO;refine⟨h1,cur,h2,h3,by simp;omega,h5,λi y hy j c hc=>?_⟩;simp only[R6]at hy;split at hy
      ·obtain⟨u,e1,e2⟩:=h6 i y hy j c hc;exact⟨u,e1,T4 _ _ e2⟩
      ·cases hy)
    have UM:∀ad cap,n<=cap->(Instr.sliceAt t (.slice ad n cap) YZ Ya none).run P w=.ok (.slice ad J cap) w:=λad cap Vw=>by
     have:=Ft (P:=P) (w:=w) hu Wm ad n cap 0 J YZ Ya (by rcases h1 with ⟨e,_,_⟩|⟨kk,e⟩;exact .inl ⟨e,rfl⟩;exact .inr ⟨kk,by simpa using e⟩)
      (by rcases h2 with ⟨e,_,e2⟩|⟨kk,e⟩;exact .inl ⟨e,by omega⟩;exact .inr ⟨kk,e⟩) (R5 _) (by omega)
     rw[this];cases ad with
     | none=>simp
     | some ad=>simp[Addr.add]
    rcases hx with ⟨hbn,VY,ad,rfl⟩|⟨b,Vt,rfl⟩
    ·have cX:=T2.nil hbn VY;simp only[cX.1,Sw,Tm]at aH;subst aH;have hJ:J=0:=by omega
     subst hJ;refine⟨_,_,_,_,_,hk,UM _ _ (Rz _),U1.1,?_,U1.2.1⟩;simp only[AF];exact⟨_,V0 _,Rz _,⟨_,_,_,rfl⟩,λ_=>⟨R5 _,.inl ⟨hbn,by simp,_,rfl⟩⟩⟩
    ·obtain⟨_,_,_,_,h4,_⟩:=T2.some b Vt;refine⟨_,_,_,_,_,hk,UM _ _ (by omega),U1.1,?_,U1.2.1⟩;simp only[AF];exact⟨_,V0 _,Rz _,⟨_,_,_,rfl⟩,λ_=>⟨by simp;omega,.inr ⟨b,Vt,(Eb (o:=⟨⟨g+1,o.row.elem,o.row.size,o.row.xs.take J⟩,o.BV,o.cap,o.more⟩) (by simp;omega)).symm⟩⟩⟩
   | sl xs=>
    obtain⟨l,hl,h⟩:=AU h;obtain⟨h',hh,h0,hlh,hhn,aF,hk⟩:=AU h;obtain⟨L,rfl⟩:=TA h0;obtain⟨H,rfl⟩:=TA (Int.le_trans h0 hlh);simp only[Su]at hk;have h1:=FV (F:=F) (w:=w) (os:=os) (uo:=YZ) hl XW;have h2:=FV (F:=F) (w:=w) (os:=os) (uo:=Ya) hh Y8;simp only[AF]at hx;obtain⟨ad,cap,rfl,Vw,UW⟩:=hx;have UM:=Ft (P:=P) (w:=w) hu Wm ad xs.length cap L H YZ Ya (by rcases h1 with ⟨e,_,e2⟩|⟨kk,e⟩;exact .inl ⟨e,by omega⟩;exact .inr ⟨kk,e⟩)
     (by rcases h2 with ⟨e,_,e2⟩|⟨kk,e⟩;exact .inl ⟨e,by omega⟩;exact .inr ⟨kk,e⟩) (by omega) (by omega)
    refine⟨_,_,_,_,os,hk,UM,hr,?_,BM _ _ _ _⟩;simp only[AF];have hlen:((xs.take H).drop L).length=H-L:=by simp;omega
    refine⟨_,_,by rw[hlen],by omega,λYh=>?_⟩;have T9:L<H:=by
     rcases TD L H with h|h
     ·exact h
     ·exact absurd (SK (by omega)) Yh
    obtain⟨b,o,size,rfl,hb,hss,Us⟩:=UW (by intro e;subst e;simp at hhn;omega);have hL:L<xs.length:=by omega
    have Bq:size=inf.size:=by rw[<- UX,<- aF _ (S3 hL)];exact (hss _ (S3 hL)).symm
    subst Bq;refine⟨b,o+L*inf.size,inf.size,?_,hb,λx hx=>hss x (SV (Sa hx)),Dg (λx hx=>hss x (SV (Sa hx))) λi x hx=>?_⟩
    ·rw[Rx (by omega)];simp[Bp]
    ·rw[SS,R6]at hx;split at hx
     ·have:=Dp hss Us _ x hx;rwa [SM,<- S8]at this
     ·cases hx
   | zc=>
    obtain⟨l,hl,h⟩:=AU h;obtain⟨h',hh,rfl,rfl,hk⟩:=AU h;have h1:=FV (F:=F) (w:=w) (os:=os) (uo:=YZ) hl XW;have h2:=FV (F:=F) (w:=w) (os:=os) (uo:=Ya) hh Y8;simp only[AF]at hx;obtain⟨ad,rfl⟩:=hx;have UM:=Ft (P:=P) (w:=w) hu Wm ad 0 0 0 0 YZ Ya (by rcases h1 with ⟨e,_,e2⟩|⟨kk,e⟩;exact .inl ⟨e,rfl⟩;exact .inr ⟨kk,e⟩)
     (by rcases h2 with ⟨e,_,e2⟩|⟨kk,e⟩;exact .inl ⟨e,rfl⟩;exact .inr ⟨kk,e⟩) (by omega) (by omega)
    exact⟨_,_,_,_,os,hk,UM,hr,by simp[AF],BM _ _ _ _⟩
   | _=>exact h.elim
def Fv (place:Nat->Option (Nat×Nat)):List AV->List (Nat×AV)->Option (List AV)
 | cells,[]=>some cells
 | cells,(i,v)::r=>match place i with
  | none=>none
  | some (off,sz)=>match EZ v with
   | none=>none
   | some cs=>if cs.length=sz/\off+sz<=cells.length then Fv place (Cn cells off cs) r else none
def Hg (P:Program)(t:TypeId):Option (List (Nat×Nat)):=
 match P.underlying t with
 | some (.struct fs)=>some (fs.toList.map λf=>(f.offset,P.cellsOf f.type))
 | _=>none
def GP (P:Program)(t:TypeId):Bool:=
 match P.underlying t with
 | some (.struct fs)=>fs.all λf=>(P.info? f.type).isSome
 | _=>false
def LG (P:Program)(t:TypeId)(parts:List (Nat×AV))(K:AV->Prop):Prop:=
 GP P t=true/\Bi (Hg P t) λfs=>Bi (FC P t) λz=>Bi (Fv (fs[·]?) z parts) λcs=>K (.agg cs)
def chunk (size:Nat):Nat->List AV->List (List AV)
 | 0,_=>[]
 | n+1,cs=>cs.take size::chunk size n (cs.drop size)
def Fe (P:Program)(st:List Row)(t:TypeId)(len:Nat)(parts:List (Nat×AV))(K:AV->List Row->Prop):Prop:=
 Bi (CJ P t) λei=>len*ei.size<=16777216/\Bi (Fv (λi=>some (i*ei.size,ei.size)) ((List.replicate len ei.zero).flatten) parts) λcs=>
  K (.own st.length 0 len) (st++[⟨0,ei.e,ei.size,chunk ei.size len cs⟩])
theorem Lr {cells cs:List AV}{us vs:List Value}{off:Nat}(h1:Ad F w os cells us)(h2:Ad F w os cs vs)(hle:off+cs.length<=cells.length):
  Ad F w os (Cn cells off cs) (us.take off++vs++us.drop (off+vs.length)):=by
 have l1:=Aa h1;have l2:=Aa h2;refine BQ (by simp[Cn];omega) λi x u hx hu=>?_;rw[GG _ _ _ _ (by omega)]at hx;have VC:(us.take off++vs++us.drop (off+vs.length))[i]?=if i<off then us[i]? else if i<off+vs.length then vs[i-off]? else us[i]?:=by
  have:=EI (cur:=us.toArray) (us:=vs) (p:=off) (j:=i) (by simp;omega);simpa using this
 rw[VC]at hu;rw[l2]at hu;split at hx
 ·rename_i hi;rw[Ry hi]at hu;obtain⟨u',e1,e2⟩:=Aj h1 i x hx;rw[e1]at hu;cases hu;exact e2
 ·rename_i hi;rw[Rx hi]at hu;split at hx
  ·rename_i Xr;rw[Ry Xr]at hu;obtain⟨u',e1,e2⟩:=Aj h2 _ x hx;rw[e1]at hu;cases hu;exact e2
  ·rename_i Xr;rw[Rx Xr]at hu;obtain⟨u',e1,e2⟩:=Aj h1 i x hx;rw[e1]at hu;cases hu;exact e2
theorem Kn (off:Nat):∀(vs:List Value) (j:Nat) (us:List Value),off+j+vs.length<=us.length->
  ((vs.zipIdx j).foldl (λ(cs:Array Value) (c:Value×Nat)=>cs.setIfInBounds (off+c.2) c.1) us.toArray)=(us.take (off+j)++vs++us.drop (off+j+vs.length)).toArray
 | [],j,us,_=>by simp
 | v::vs,j,us,h=>by
  simp only[Si]at h;simp only[List.zipIdx_cons,List.foldl_cons,List.setIfInBounds_toArray];rw[Kn off vs (j+1) (us.set (off+j) v) (by simp;omega)];congr 1;have e:=list_seg_step us (off+j) v vs (by omega);simpa [S8] using e
theorem IQ (place:Nat->Option (Nat×Nat)):∀(parts:List (Nat×AV)) (uparts:List (Nat×Value)) (cells VQ:List AV) (us:List Value),uparts.map (·.1)=parts.map (·.1)->
  (∀(i:Nat) p up,parts[i]?=some p->uparts[i]?=some up->AF F w os p.2 up.2)->Ad F w os cells us->Fv place cells parts=some VQ->
  ∃VK:List Value,Instr.fill place us.toArray uparts=some VK.toArray/\Ad F w os VQ VK/\VK.length=us.length/\((∀c∈cells,c.leaf=true)->∀c∈VQ,c.leaf=true)
 | [],up,cells,VQ,us,hm,_,hc,h=>by
  have:up=[]:=by simpa using hm
  subst this;simp only[Fv,Rn]at h;subst h;exact⟨us,rfl,hc,rfl,λh=>h⟩
 | (i,v)::r,[],_,_,_,hm,_,_,_=>by simp at hm
 | (i,v)::r,(i',u)::ur,cells,VQ,us,hm,hp,hc,h=>by
  simp only[R9,Ty]at hm;obtain⟨rfl,hm⟩:=hm;have hv:AF F w os v u:=hp 0 (i',v) (i',u) rfl rfl;simp only[Fv]at h;split at h
  ·cases h
  rename_i off sz cZ;split at h
  ·cases h
  rename_i cs WJ;split at h
  ·rename_i bj;obtain⟨ZU,UT⟩:=GI WJ hv;have hl:=Aa ZU;have cQ:=Aa hc;simp only[Sy]at hl;obtain⟨VK,e1,e2,e3,e4⟩:=IQ place r ur (Cn cells off cs) VQ (us.take off++u.cells.toList++us.drop (off+u.cells.toList.length)) hm
    (λj p up h1 h2=>hp (j+1) p up (by simpa using h1) (by simpa using h2)) (Lr hc ZU (by omega)) h
   refine⟨VK,?_,e2,?_,λZY=>e4 λc WW=>?_⟩
   ·simp only[Instr.fill,cZ];rw[Rx (by simp;omega)];rw[<- e1];congr 1;have:=Kn off u.cells.toList 0 us (by simp;omega);simp only[Nat.add_zero]at this;rw[<- this,<- Array.foldl_toList,Array.toList_zipIdx]
   ·rw[e3];simp;omega
   ·unfold Cn at WW;simp only[SI]at WW;rcases WW with (WW|WW)|WW
    ·exact ZY c (SV WW)
    ·exact UT c WW
    ·exact ZY c (Sa WW)
  ·cases h
theorem Gi {α β:Type}(g:α->Sem β)(f:α->β):∀(l:List α),(∀x∈l,(g x).run P w=.ok (f x) w)->(l.mapM g).run P w=.ok (l.map f) w
 | [],_=>by simp
 | x::l,h=>by
  have ih:=Gi g f l (λy hy=>h y (by simp[hy]));simp[TW,h x (by simp),ih]
theorem Il {α β:Type}(g:α->Sem β)(f:α->β)(xs:Array α)(h :∀x∈xs,(g x).run P w=.ok (f x) w):(xs.mapM g).run P w=.ok (xs.map f) w:=by
 have h1:=Gi (P:=P) (w:=w) g f xs.toList (λx hx=>h x (by simpa using hx));rw[Array.mapM_eq_mapM_toList,Sem.run_map,h1];have:(List.map f xs.toList).toArray=Array.map f xs:=by apply TG;simp
 simp[this]
theorem NI {t:TypeId}{parts:List (Nat×AV)}{uparts:Array (Nat×Value)}{K:AV->Prop}(h:LG P t parts K)(hm:uparts.toList.map (·.1)=parts.map (·.1))
  (hp :∀(i:Nat) p up,parts[i]?=some p->uparts.toList[i]?=some up->AF F w os p.2 up.2):Yields P F w os (Instr.build t uparts) K:=by
 obtain⟨VD,h⟩:=h;obtain⟨fs,ZZ,h⟩:=AU h;obtain⟨z,hz,h⟩:=AU h;obtain⟨cs,WJ,hk⟩:=AU h;obtain⟨inf,zv,hi,hzv,rfl,hl,_⟩:=IY hz;unfold Hg at ZZ;split at ZZ
 case h_2=>cases ZZ
 rename_i CH hu;simp only[Rn]at ZZ;subst ZZ;unfold GP at VD;simp only[hu]at VD;obtain⟨VK,e1,e2,_⟩:=IQ (F:=F) (w:=w) (os:=os) _ parts uparts.toList _ cs zv.cells.toList hm hp (Fm F w os _) WJ;refine⟨_,.agg VK.toArray,hk,?_,by simp only[AF];exact⟨VK,rfl,e2⟩⟩;have ca:=Il (P:=P) (w:=w) (λf:Field=>(do pure (f.offset,<- sizeOf f.type):Sem (Nat×Nat))) (λf=>(f.offset,P.cellsOf f.type)) CH (λf hf=>by
  have h1:=Array.all_eq_true_iff_forall_mem.1 VD f hf;obtain⟨fi,bk⟩:=TR.1 h1;simp[sizeOf,typeInfo,bk,Program.cellsOf])
 have Za:(λ(i:Nat)=>(CH.map λf=>(f.offset,P.cellsOf f.type))[i]?)=λ(i:Nat)=>(CH.toList.map λf=>(f.offset,P.cellsOf f.type))[i]?:=by
  funext i;simp
 simp only[Array.toArray_toList]at e1;simp only[Instr.build,SQ,zeroValue,typeInfo,run_program,SD,hi,SU,hzv,SJ hu,ca];rw[Za,e1];simp
theorem Jn {size:Nat}:∀{n:Nat} {cs:List AV},cs.length=n*size->(chunk size n cs).length=n/\(∀x∈chunk size n cs,x.length=size)/\
  ∀(i:Nat) x,(chunk size n cs)[i]?=some x->∀(j:Nat) c,x[j]?=some c->cs[i*size+j]?=some c
 | 0,cs,h=>by simp[chunk]
 | n+1,cs,h=>by
  have hl:(cs.drop size).length=n*size:=by rw[Tt,h,SM];omega
  obtain⟨h1,h2,h3⟩:=Jn hl;have h0:size<=cs.length:=by rw[h,SM];omega
  refine⟨by simp[chunk,h1],λx hx=>?_,λi x hx j c hc=>?_⟩
  ·simp only[chunk,SA]at hx;rcases hx with rfl|hx
   ·simp;omega
   ·exact h2 x hx
  ·cases i with
   | zero=>
    simp only[chunk,R2,Rn]at hx;subst hx;rw[R6]at hc;split at hc
    ·simpa using hc
    ·cases hc
   | succ i=>
    simp only[chunk,SG]at hx;have:=h3 i x hx j c hc;rw[SS]at this;rw[<- this];congr 1;rw[SM];omega
theorem Fw {t:TypeId}{len:Nat}{parts:List (Nat×AV)}{uparts:Array (Nat×Value)}{K:AV->List Row->Prop}(hr:Rel F os s a w)(h:Fe P s.st t len parts K)(hm:uparts.toList.map (·.1)=parts.map (·.1))
  (hp :∀(i:Nat) p up,parts[i]?=some p->uparts.toList[i]?=some up->AF F w os p.2 up.2):CU P k F os s a w (Instr.buildSlice t len uparts) K:=by
 obtain⟨ei,he,h⟩:=AU h;obtain⟨inf,z,hu,hi,hz,XS,Ue,UX,hby,hzero,hzl⟩:=EJ he;obtain⟨hle,h⟩:=h;obtain⟨cs,WJ,hk⟩:=AU h;have Y9:ei.zero.length=ei.size:=by rw[hzero,UX,<- XS];simp
 have VY:Ad F w os ((List.replicate len ei.zero).flatten) (madeCells z.cells (len*ei.size)).toList:=by
  refine BQ (by simp[madeCells,Y9]) λi x u hx VC=>?_;have Wv:i<len*ei.size:=by have:=(Rm.1 VC).1;simpa [madeCells] using this
  have ah:0<ei.size:=by omega
  have Wl:ei.zero[i % ei.size]?=some x:=by
   rw[<- hx];have Vz:∀(n i:Nat),i<n*ei.size->((List.replicate n ei.zero).flatten)[i]?=ei.zero[i % ei.size]?:=λn=>by
    induction n with
    | zero=>intro i hi;simp at hi
    | succ n ih=>
     intro i hi;rw[List.replicate_succ,List.flatten_cons];rw[SM]at hi;by_cases T9:i<ei.size
     ·rw[Rt (by omega),Nat.mod_eq_of_lt T9]
     ·rw[Rv (by omega),Y9,ih _ (by omega)];congr 1;rw[Nat.mod_eq_sub_mod (by omega:i ≥ ei.size)]
   exact (Vz len i Wv).symm
  have XT:i % ei.size<z.cells.size:=by rw[XS,<- UX];exact Nat.mod_lt _ ah
  have WA:u=z.cells[i % ei.size]:=by
   have fK:i % z.cells.size<z.cells.size:=by rw[XS,<- UX];rw[XS,<- UX]at XT;exact XT
   simp[madeCells,Wv]at VC;rw[<- VC];have:i % z.cells.size=i % ei.size:=by rw[XS,UX]
   simp[this,XT]
  subst WA;rw[hzero]at Wl;simp only[Ro,TE,Sg XT,SC,Rn]at Wl;subst Wl;exact Ff F w os _
 obtain⟨VK,e1,e2,e3,e4⟩:=IQ (F:=F) (w:=w) (os:=os) _ parts uparts.toList _ cs _ hm hp VY WJ;have XU:VK.length=len*ei.size:=by rw[e3];simp[madeCells]
 have ZY:cs.length=len*ei.size:=by rw[<- Aa e2,XU]
 obtain⟨c1,c2,c3⟩:=Jn ZY;have UT:∀c∈cs,c.leaf=true:=e4 (λc hc=>by
  simp only[List.mem_flatten,List.mem_replicate]at hc;obtain⟨l,⟨_,rfl⟩,hc⟩:=hc;exact hzl c hc)
 have:=hr.Iu (k:=k) (.inl rfl) (cur:=VK.toArray) (e:=ei.e) (size:=ei.size) (cap:=len) (xs:=chunk ei.size len cs) (by omega) (λx hx=>⟨c2 x hx,λc hc=>by
   obtain⟨i,Wm⟩:=R0.1 hx;obtain⟨j,hj⟩:=R0.1 hc;exact UT c (Rk (c3 i x Wm j c hj))⟩) (by simpa using XU) (by omega) (by
    simp only[maxLen];have:len<=len*ei.size:=Nat.le_mul_of_pos_right _ (by omega);omega) (λi x hx j c hc=>by
   obtain⟨u,f1,f2⟩:=Aj e2 _ _ (c3 i x hx j c hc);exact⟨u,by simpa using f1,f2⟩)
 refine⟨_,_,.slice (some ⟨w.heap.size,0,none⟩) len len,_,_,hk,?_,this.1,?_,this.2.1⟩
 ·have T9:¬ (16777216<len*inf.size):=by rw[<- UX];omega
  by_cases h0:len*inf.size=0
  ·have aj:len=0:=by rcases Nat.mul_eq_zero.1 h0 with h|h<;>omega
   subst aj;simp only[Tw]at XU;have:VK=[]:=SK XU;subst this;have ga:Instr.fill (λi=>some (i*inf.size,inf.size)) (Array.map (λ_=>(default:Value)) (Array.range 0)) uparts.toList=some #[]:=by
    rw[<- UX];have:(Array.map (λ_=>(default:Value)) (Array.range 0))=(madeCells z.cells (0*ei.size)):=by simp[madeCells]
    rw[this];simpa using e1
   simp[Instr.buildSlice,SJ hu,sizeOf,typeInfo,hi,newRow,ga]
  ·simp only[madeCells,Array.toArray_toList]at e1;rw[UX]at e1;simp[Instr.buildSlice,SJ hu,sizeOf,typeInfo,zeroValue,hi,hz,newRow,T9,h0,e1]
 ·simp only[AF];exact⟨_,by rw[hr.len];exact Dv _ _,Rz _,⟨_,_,_,rfl⟩,λ_=>⟨by simp only;omega,.inr ⟨_,rfl,(Eb (o:=⟨⟨0,ei.e,ei.size,chunk ei.size len cs⟩,some w.heap.size,len,Cg⟩) (by simp only;omega)).symm⟩⟩⟩
end Go.Abs
