import Derived.Test.YtihdgoiebmfapaaGreatAbsF
set_option linter.all false
namespace Go.Abs
open Go
variable {P : Program} {F : Nat -> Prop} {os : List Own} {s : St} {a : Act} {w : World} {k : Nat}
def TM (o:Option AV)(d:Int):Option Int:=
 match o with
 | none=>some d
 | some (.int _ j)=>some j
 | _=>none
def US (P:Program)(st:List Row)(t:TypeId)(x:AV)(lo hi mx:Option AV)(K:AV->List Row->Prop):Prop:=
 Ff (D2 P t) λei=>match mx with
  | some (.int _ m)=>m=0/\lo=none/\(match hi with|some (.int _ j)=>j=0|_=>False)/\(match x with|.sl _|.zc=>K .zc st|.own id g _=>Ff st[id]? λrow=>row.gen=g/\K .zc st|_=>False)
  | some _=>False
  | none=>match x with
   | .own id g n=>Ff st[id]? λrow=>row.gen=g/\n=row.xs.length/\TM lo 0=some 0/\Ff (TM hi n) λj=>0<=j/\j<=n/\K (.own id (g+1) j.toNat) (st.set id { row with gen:=g+1,xs:=row.xs.take j.toNat })
   | .sl xs=>Ff (TM lo 0) λl=>Ff (TM hi xs.length) λh=>0<=l/\l<=h/\h<=xs.length/\(∀x∈xs,x.length=ei.size)/\K (.sl ((xs.take h.toNat).drop l.toNat)) st
   | .zc=>Ff (TM lo 0) λl=>Ff (TM hi 0) λh=>l=0/\h=0/\K .zc st
   | _=>False
theorem OD {t e:TypeId}{inf:TypeInfo}(hu:P.underlying t=some (.slice e))(hi:P.info? e=some inf)(ad:Option Addr)(n cap l h:Nat)(lo rD:Option Value)
  (tp:(lo=none/\l=0)∨∃kk,lo=some (.int kk l)) (vt:(rD=none/\h=n)∨∃kk,rD=some (.int kk h)) (hl:l<=h) (hc:h<=cap) :
  (Instr.sliceAt t (.slice ad n cap) lo rD none).run P w=.ok (.slice (if cap=l then ad else ad.map (·.add (l*inf.size))) (h-l) (cap-l)) w:=by
 have e1:∀kk,(Instr.sliceBound (.int kk (h:Int)) cap (.sliceAcap)).run P w=.ok h w:=λkk=>by simp[Instr.sliceBound,asIntOf,hc]
 have e2:∀kk,(Instr.sliceBound (.int kk (l:Int)) h (.sliceB)).run P w=.ok l w:=λkk=>by simp[Instr.sliceBound,asIntOf,hl]
 rcases tp with ⟨rfl,rfl⟩|⟨kl,rfl⟩<;>rcases vt with ⟨rfl,rfl⟩|⟨kh,rfl⟩ <;>
  simp[Instr.sliceAt,kg hu,Instr.slice,Instr.sliceBounds,sizeOf,typeInfo,hi,e1,e2]
def Ro (F:Nat->Prop)(w:World)(os:List Own):Option AV->Option Value->Prop
 | none,none=>True
 | some x,some u=>Ae F w os x u
 | _,_=>False
theorem Nf {o:Option AV}{uo:Option Value}{d j:Int}(h:TM o d=some j)(hr:Ro F w os o uo):(uo=none/\o=none/\j=d)∨∃kk,uo=some (.int kk j):=by
 unfold TM at h;split at h
 ·simp only[jh]at h;cases uo with
  | none=>exact .inl ⟨rfl,rfl,h.symm⟩
  | some u=>exact hr.elim
 ·simp only[jh]at h;subst h;cases uo with
  | none=>exact hr.elim
  | some u=>simp only[Ro,Ae]at hr;exact .inr ⟨_,by rw[hr]⟩
 ·cases h
theorem aX {t:TypeId}{x:AV}{ux:Value}{lo hi mx:Option AV}{vZ va umx:Option Value}{K:AV->List Row->Prop}(hr:Rel F os s a w)(h:US P s.st t x lo hi mx K)(hx:Ae F w os x ux)
  (tp:Ro F w os lo vZ) (vt:Ro F w os hi va) (hmx:Ro F w os mx umx):Hr P k F os s a w (Instr.sliceAt t ux vZ va umx) K:=by
 obtain⟨ei,he,h⟩:=BN h;obtain⟨inf,z,hu,rD,_,_,pZ,pL,_⟩:=H8 he;cases mx with
 | some m=>
  cases m with
  | int km m=>
   obtain⟨rfl,rfl,hh,h9⟩:=h;cases hi with
   | none=>exact hh.elim
   | some hv=>
    cases hv with
    | int kh j=>
     simp only at hh;subst hh;cases vZ with
     | some _=>exact tp.elim
     | none=>
      cases va with
      | none=>exact vt.elim
      | some uh=>
       cases umx with
       | none=>exact hmx.elim
       | some um=>
        simp only[Ro,Ae]at vt hmx;subst vt;subst hmx;have pK:∀ad n c,(Instr.sliceAt t (.slice ad n c) none (some (.int kh 0)) (some (.int km 0))).run P w=.ok (.slice ad 0 0) w:=λad n c=>by
         simp[Instr.sliceAt,kg hu,Instr.slice,Instr.sliceBounds,Instr.sliceBound,asIntOf,sizeOf,typeInfo,rD]
        have tm:∀ad n c,K .zc s.st->Hr P k F os s a w (Instr.sliceAt t (.slice ad n c) none (some (.int kh 0)) (some (.int km 0))) K:=λad n c hk=>
         ⟨_,_,_,_,os,hk,pK ad n c,hr,by simp[Ae],Ext.refl _ _ _ _⟩
        cases x with
        | sl xs=>simp only[Ae]at hx;obtain⟨ad,cap,rfl,_⟩:=hx;exact tm _ _ _ h9
        | zc=>simp only[Ae]at hx;obtain⟨ad,rfl⟩:=hx;exact tm _ _ _ h9
        | own id g n=>
         obtain⟨row,oY,hg,hk⟩:=BN h9;simp only[Ae]at hx;obtain⟨o,ho,_,⟨ad,l,c,rfl⟩,_⟩:=hx;exact tm _ _ _ hk
        | _=>exact h9.elim
    | _=>exact hh.elim
  | _=>exact h.elim
 | none=>
  cases umx with
  | some _=>exact hmx.elim
  | none=>
   cases x with
   | own id g n=>
    obtain⟨row,oY,hg,vY,vb,h⟩:=BN h;obtain⟨j,hj,h0,uN,hk⟩:=BN h;obtain⟨o,ho,rfl⟩:=hr.row oY;obtain⟨J,rfl⟩:=kZ h0;simp only[lY]at hk;simp only[Ae]at hx;obtain⟨o',pQ,rz,_,hx⟩:=hx;rw[ho]at pQ;cases pQ;obtain⟨yC,hx⟩:=hx hg;simp only[L4 vY]at hx;have ob:=hr.rows id o ho;have h1:=Nf (F:=F) (w:=w) (os:=os) (uo:=vZ) vb tp;have h2:=Nf (F:=F) (w:=w) (os:=os) (uo:=va) hj vt;have rm:∀o':Own,(os.set id o')[id]?=some o':=λo'=>ju (jg.1 ho).1;have qc:=hr.Oz (k:=k) (o':={ o with row:={ o.row with gen:=g+1,xs:=o.row.xs.take J } }) ho (w':=w) (Hb.refl w _) (by simp[hg]) rfl (λe=>by simp[hg]at e) (λg hg=>.inl hg) (λoh=>by
     refine⟨ob.pos,λy hy=>ob.lens y (kv hy),λhn=>?_,λb pX=>?_,ob.mo,ob.deep.keep rfl (λ_ h=>h) rfl (λ_ _=>rfl) (λi x j e s ys hx hc=>by
      simp only[kL]at hx;split at hx
      ·exact⟨x,hx,hc⟩
      ·cases hx)⟩
     ·have:=ob.none hn;simp[this.1,this.2]
     ·obtain⟨h1,cur,h2,h3,h4,h5,h6⟩:=ob.some b pX;refine⟨h1,cur,h2,h3,by simp;omega,h5,λi y hy j c hc=>?_⟩;simp only[kL]at hy;split at hy
      ·obtain⟨u,e1,e2⟩:=h6 i y hy j c hc;exact⟨u,e1,oh _ _ e2⟩
      ·cases hy)
    have pK:∀ad cap,n<=cap->(Instr.sliceAt t (.slice ad n cap) vZ va none).run P w=.ok (.slice ad J cap) w:=λad cap rj=>by
     have:=OD (P:=P) (w:=w) hu rD ad n cap 0 J vZ va (by rcases h1 with ⟨e,_,_⟩|⟨kk,e⟩;exact .inl ⟨e,rfl⟩;exact .inr ⟨kk,by simpa using e⟩)
      (by rcases h2 with ⟨e,_,e2⟩|⟨kk,e⟩;exact .inl ⟨e,by omega⟩;exact .inr ⟨kk,e⟩) (kE _) (by omega)
     rw[this];cases ad with
     | none=>simp
     | some ad=>simp[Addr.add]
    rcases hx with ⟨tA,ad,rfl⟩|⟨b,Je,rfl⟩
    ·have tK:=ob.none tA;simp only[tK.1,lE,nR]at yC;subst yC;have hJ:J=0:=by omega
     subst hJ;refine⟨_,_,_,_,_,hk,pK _ _ (jv _),qc.1,?_,qc.2.1⟩;simp only[Ae];exact⟨_,rm _,jv _,⟨_,_,_,rfl⟩,λ_=>⟨kE _,.inl ⟨tA,_,rfl⟩⟩⟩
    ·obtain⟨_,_,_,_,h4,_⟩:=ob.some b Je;refine⟨_,_,_,_,_,hk,pK _ _ (by omega),qc.1,?_,qc.2.1⟩;simp only[Ae];exact⟨_,rm _,jv _,⟨_,_,_,rfl⟩,λ_=>⟨by simp;omega,.inr ⟨b,Je,(L4 (o:=⟨⟨g+1,o.row.elem,o.row.size,o.row.xs.take J⟩,o.Fe,o.cap,o.more⟩) (by simp;omega)).symm⟩⟩⟩
   | sl xs=>
    obtain⟨l,hl,h⟩:=BN h;obtain⟨h',hh,h0,hlh,hhn,uM,hk⟩:=BN h;obtain⟨L,rfl⟩:=kZ h0;obtain⟨H,rfl⟩:=kZ (Int.le_trans h0 hlh);simp only[lY]at hk;have h1:=Nf (F:=F) (w:=w) (os:=os) (uo:=vZ) hl tp;have h2:=Nf (F:=F) (w:=w) (os:=os) (uo:=va) hh vt;simp only[Ae]at hx;obtain⟨ad,cap,rfl,rj,pN⟩:=hx;have pK:=OD (P:=P) (w:=w) hu rD ad xs.length cap L H vZ va (by rcases h1 with ⟨e,_,e2⟩|⟨kk,e⟩;exact .inl ⟨e,by omega⟩;exact .inr ⟨kk,e⟩)
     (by rcases h2 with ⟨e,_,e2⟩|⟨kk,e⟩;exact .inl ⟨e,by omega⟩;exact .inr ⟨kk,e⟩) (by omega) (by omega)
    refine⟨_,_,_,_,os,hk,pK,hr,?_,Ext.refl _ _ _ _⟩;simp only[Ae];have hlen:((xs.take H).drop L).length=H-L:=by simp;omega
    refine⟨_,_,by rw[hlen],by omega,λug=>?_⟩;have pG:L<H:=by
     rcases la L H with h|h
     ·exact h
     ·exact absurd (ka (by omega)) ug
    obtain⟨b,o,size,rfl,hb,hss,qJ⟩:=pN (by intro e;subst e;simp at hhn;omega);have hL:L<xs.length:=by omega
    have Gh:size=inf.size:=by rw[<- pL,<- uM _ (mH hL)];exact (hss _ (mH hL)).symm
    subst Gh;refine⟨b,o+L*inf.size,inf.size,?_,hb,λx hx=>hss x (kv (lQ hx)),K0 (λx hx=>hss x (kv (lQ hx))) λi x hx=>?_⟩
    ·rw[jn (by omega)];simp[DI]
    ·rw[kW,kL]at hx;split at hx
     ·have:=IH hss qJ _ x hx;rwa [kP,<- lS]at this
     ·cases hx
   | zc=>
    obtain⟨l,hl,h⟩:=BN h;obtain⟨h',hh,rfl,rfl,hk⟩:=BN h;have h1:=Nf (F:=F) (w:=w) (os:=os) (uo:=vZ) hl tp;have h2:=Nf (F:=F) (w:=w) (os:=os) (uo:=va) hh vt;simp only[Ae]at hx;obtain⟨ad,rfl⟩:=hx;have pK:=OD (P:=P) (w:=w) hu rD ad 0 0 0 0 vZ va (by rcases h1 with ⟨e,_,e2⟩|⟨kk,e⟩;exact .inl ⟨e,rfl⟩;exact .inr ⟨kk,e⟩)
     (by rcases h2 with ⟨e,_,e2⟩|⟨kk,e⟩;exact .inl ⟨e,rfl⟩;exact .inr ⟨kk,e⟩) (by omega) (by omega)
    exact⟨_,_,_,_,os,hk,pK,hr,by simp[Ae],Ext.refl _ _ _ _⟩
   | _=>exact h.elim
def MH (place:Nat->Option (Nat×Nat)):List AV->List (Nat×AV)->Option (List AV)
 | cells,[]=>some cells
 | cells,(i,v)::r=>match place i with
  | none=>none
  | some (off,sz)=>match KK v with
   | none=>none
   | some cs=>if cs.length=sz/\off+sz<=cells.length then MH place (G5 cells off cs) r else none
def Js (P:Program)(t:TypeId):Option (List (Nat×Nat)):=
 match P.underlying t with
 | some (.struct fs)=>some (fs.toList.map λf=>(f.offset,P.cellsOf f.type))
 | _=>none
def IW (P:Program)(t:TypeId):Bool:=
 match P.underlying t with
 | some (.struct fs)=>fs.all λf=>(P.info? f.type).isSome
 | _=>false
def Xu (P:Program)(t:TypeId)(parts:List (Nat×AV))(K:AV->Prop):Prop:=
 IW P t=true/\Ff (Js P t) λfs=>Ff (ID P t) λz=>Ff (MH (fs[·]?) z parts) λcs=>K (.agg cs)
def chunk (size:Nat):Nat->List AV->List (List AV)
 | 0,_=>[]
 | n+1,cs=>cs.take size::chunk size n (cs.drop size)
def N4 (P:Program)(st:List Row)(t:TypeId)(len:Nat)(parts:List (Nat×AV))(K:AV->List Row->Prop):Prop:=
 Ff (D2 P t) λei=>len*ei.size<=16777216/\Ff (MH (λi=>some (i*ei.size,ei.size)) ((List.replicate len ei.zero).flatten) parts) λcs=>
  K (.own st.length 0 len) (st++[⟨0,ei.e,ei.size,chunk ei.size len cs⟩])
theorem Xn {cells cs:List AV}{us vs:List Value}{off:Nat}(h1:Br F w os cells us)(h2:Br F w os cs vs)(hle:off+cs.length<=cells.length):
  Br F w os (G5 cells off cs) (us.take off++vs++us.drop (off+vs.length)):=by
 have l1:=BY h1;have l2:=BY h2;refine DZ (by simp[G5];omega) λi x u hx hu=>?_;rw[O2 _ _ _ _ (by omega)]at hx;have qV:(us.take off++vs++us.drop (off+vs.length))[i]?=if i<off then us[i]? else if i<off+vs.length then vs[i-off]? else us[i]?:=by
  have:=J6 (cur:=us.toArray) (us:=vs) (p:=off) (j:=i) (by simp;omega);simpa using this
 rw[qV]at hu;rw[l2]at hu;split at hx
 ·rename_i hi;rw[jm hi]at hu;obtain⟨u',e1,e2⟩:=CN h1 i x hx;rw[e1]at hu;cases hu;exact e2
 ·rename_i hi;rw[jn hi]at hu;split at hx
  ·rename_i vu;rw[jm vu]at hu;obtain⟨u',e1,e2⟩:=CN h2 _ x hx;rw[e1]at hu;cases hu;exact e2
  ·rename_i vu;rw[jn vu]at hu;obtain⟨u',e1,e2⟩:=CN h1 i x hx;rw[e1]at hu;cases hu;exact e2
theorem XG (off:Nat):∀(vs:List Value) (j:Nat) (us:List Value),off+j+vs.length<=us.length->
  ((vs.zipIdx j).foldl (λ(cs:Array Value) (c:Value×Nat)=>cs.setIfInBounds (off+c.2) c.1) us.toArray)=(us.take (off+j)++vs++us.drop (off+j+vs.length)).toArray
 | [],j,us,_=>by simp
 | v::vs,j,us,h=>by
  simp only[kQ]at h;simp only[List.zipIdx_cons,List.foldl_cons,List.setIfInBounds_toArray];rw[XG off vs (j+1) (us.set (off+j) v) (by simp;omega)];congr 1;have e:=list_seg_step us (off+j) v vs (by omega);simpa [lS] using e
theorem Sz (place:Nat->Option (Nat×Nat)):∀(parts:List (Nat×AV)) (uparts:List (Nat×Value)) (cells rA:List AV) (us:List Value),uparts.map (·.1)=parts.map (·.1)->
  (∀(i:Nat) p up,parts[i]?=some p->uparts[i]?=some up->Ae F w os p.2 up.2)->Br F w os cells us->MH place cells parts=some rA->
  ∃rN:List Value,Instr.fill place us.toArray uparts=some rN.toArray/\Br F w os rA rN/\rN.length=us.length/\((∀c∈cells,c.leaf=true)->∀c∈rA,c.leaf=true)
 | [],up,cells,rA,us,hm,_,hc,h=>by
  have:up=[]:=by simpa using hm
  subst this;simp only[MH,jh]at h;subst h;exact⟨us,rfl,hc,rfl,λh=>h⟩
 | (i,v)::r,[],_,_,_,hm,_,_,_=>by simp at hm
 | (i,v)::r,(i',u)::ur,cells,rA,us,hm,hp,hc,h=>by
  simp only[kI,mL]at hm;obtain⟨rfl,hm⟩:=hm;have hv:Ae F w os v u:=hp 0 (i',v) (i',u) rfl rfl;simp only[MH]at h;split at h
  ·cases h
  rename_i off sz hpl;split at h
  ·cases h
  rename_i cs qk;split at h
  ·rename_i wO;obtain⟨sW,pV⟩:=PQ qk hv;have hl:=BY sW;have vW:=BY hc;simp only[ly]at hl;obtain⟨rN,e1,e2,e3,e4⟩:=Sz place r ur (G5 cells off cs) rA (us.take off++u.cells.toList++us.drop (off+u.cells.toList.length)) hm
    (λj p up h1 h2=>hp (j+1) p up (by simpa using h1) (by simpa using h2)) (Xn hc sW (by omega)) h
   refine⟨rN,?_,e2,?_,λtB=>e4 λc rp=>?_⟩
   ·simp only[Instr.fill,hpl];rw[jn (by simp;omega)];rw[<- e1];congr 1;have:=XG off u.cells.toList 0 us (by simp;omega);simp only[mA]at this;rw[<- this,<- Array.foldl_toList,Array.toList_zipIdx]
   ·rw[e3];simp;omega
   ·unfold G5 at rp;simp only[kJ]at rp;rcases rp with (rp|rp)|rp
    ·exact tB c (kv rp)
    ·exact pV c rp
    ·exact tB c (lQ rp)
  ·cases h
theorem Oy {α β:Type}(g:α->Sem β)(f:α->β):∀(l:List α),(∀x∈l,(g x).run P w=.ok (f x) w)->(l.mapM g).run P w=.ok (l.map f) w
 | [],_=>by simp
 | x::l,h=>by
  have ih:=Oy g f l (λy hy=>h y (by simp[hy]));simp[mq,h x (by simp),ih]
theorem UE {α β:Type}(g:α->Sem β)(f:α->β)(xs:Array α)(h :∀x∈xs,(g x).run P w=.ok (f x) w):(xs.mapM g).run P w=.ok (xs.map f) w:=by
 have h1:=Oy (P:=P) (w:=w) g f xs.toList (λx hx=>h x (by simpa using hx));rw[Array.mapM_eq_mapM_toList,Sem.run_map,h1];have:(List.map f xs.toList).toArray=Array.map f xs:=by apply mP;simp
 simp[this]
theorem Z6 {t:TypeId}{parts:List (Nat×AV)}{uparts:Array (Nat×Value)}{K:AV->Prop}(h:Xu P t parts K)(hm:uparts.toList.map (·.1)=parts.map (·.1))
  (hp :∀(i:Nat) p up,parts[i]?=some p->uparts.toList[i]?=some up->Ae F w os p.2 up.2):Yields P F w os (Instr.build t uparts) K:=by
 obtain⟨qB,h⟩:=h;obtain⟨fs,hfs,h⟩:=BN h;obtain⟨z,hz,h⟩:=BN h;obtain⟨cs,qk,hk⟩:=BN h;obtain⟨inf,zv,hi,hzv,rfl,hl,_⟩:=TS hz;unfold Js at hfs;split at hfs
 case h_2=>cases hfs
 rename_i LD hu;simp only[jh]at hfs;subst hfs;unfold IW at qB;simp only[hu]at qB;obtain⟨rN,e1,e2,_⟩:=Sz (F:=F) (w:=w) (os:=os) _ parts uparts.toList _ cs zv.cells.toList hm hp (OJ F w os _) qk;refine⟨_,.agg rN.toArray,hk,?_,by simp only[Ae];exact⟨rN,rfl,e2⟩⟩;have hmap:=UE (P:=P) (w:=w) (λf:Field=>(do pure (f.offset,<- sizeOf f.type):Sem (Nat×Nat))) (λf=>(f.offset,P.cellsOf f.type)) LD (λf hf=>by
  have h1:=Array.all_eq_true_iff_forall_mem.1 qB f hf;obtain⟨fi,hfi⟩:=Option.isSome_iff_exists.1 h1;simp[sizeOf,typeInfo,hfi,Program.cellsOf])
 have xB:(λ(i:Nat)=>(LD.map λf=>(f.offset,P.cellsOf f.type))[i]?)=λ(i:Nat)=>(LD.toList.map λf=>(f.offset,P.cellsOf f.type))[i]?:=by
  funext i;simp
 simp only[mQ]at e1;simp only[Instr.build,kX,zeroValue,typeInfo,run_program,kV,hi,ku,hzv,kg hu,hmap];rw[xB,e1];simp
theorem U2 {size:Nat}:∀{n:Nat} {cs:List AV},cs.length=n*size->(chunk size n cs).length=n/\(∀x∈chunk size n cs,x.length=size)/\
  ∀(i:Nat) x,(chunk size n cs)[i]?=some x->∀(j:Nat) c,x[j]?=some c->cs[i*size+j]?=some c
 | 0,cs,h=>by simp[chunk]
 | n+1,cs,h=>by
  have hl:(cs.drop size).length=n*size:=by rw[mI,h,kP];omega
  obtain⟨h1,h2,h3⟩:=U2 hl;have h0:size<=cs.length:=by rw[h,kP];omega
  refine⟨by simp[chunk,h1],λx hx=>?_,λi x hx j c hc=>?_⟩
  ·simp only[chunk,js]at hx;rcases hx with rfl|hx
   ·simp;omega
   ·exact h2 x hx
  ·cases i with
   | zero=>
    simp only[chunk,kK,jh]at hx;subst hx;rw[kL]at hc;split at hc
    ·simpa using hc
    ·cases hc
   | succ i=>
    simp only[chunk,kT]at hx;have:=h3 i x hx j c hc;rw[kW]at this;rw[<- this];congr 1;rw[kP];omega
theorem OY {t:TypeId}{len:Nat}{parts:List (Nat×AV)}{uparts:Array (Nat×Value)}{K:AV->List Row->Prop}(hr:Rel F os s a w)(h:N4 P s.st t len parts K)(hm:uparts.toList.map (·.1)=parts.map (·.1))
  (hp :∀(i:Nat) p up,parts[i]?=some p->uparts.toList[i]?=some up->Ae F w os p.2 up.2):Hr P k F os s a w (Instr.buildSlice t len uparts) K:=by
 obtain⟨ei,he,h⟩:=BN h;obtain⟨inf,z,hu,hi,hz,rQ,pZ,pL,hby,hzero,hzl⟩:=H8 he;obtain⟨hle,h⟩:=h;obtain⟨cs,qk,hk⟩:=BN h;have wP:ei.zero.length=ei.size:=by rw[hzero,pL,<- rQ];simp
 have yi:Br F w os ((List.replicate len ei.zero).flatten) (madeCells z.cells (len*ei.size)).toList:=by
  refine DZ (by simp[madeCells,wP]) λi x u hx qV=>?_;have qG:i<len*ei.size:=by have:=(jg.1 qV).1;simpa [madeCells] using this
  have yj:0<ei.size:=by omega
  have rO:ei.zero[i % ei.size]?=some x:=by
   rw[<- hx];have sH:∀(n i:Nat),i<n*ei.size->((List.replicate n ei.zero).flatten)[i]?=ei.zero[i % ei.size]?:=λn=>by
    induction n with
    | zero=>intro i hi;simp at hi
    | succ n ih=>
     intro i hi;rw[List.replicate_succ,List.flatten_cons];rw[kP]at hi;by_cases pG:i<ei.size
     ·rw[jr (by omega),mT pG]
     ·rw[jt (by omega),wP,ih _ (by omega)];congr 1;rw[Nat.mod_eq_sub_mod (by omega:i ≥ ei.size)]
   exact (sH len i qG).symm
  have sf:i % ei.size<z.cells.size:=by rw[rQ,<- pL];exact Nat.mod_lt _ yj
  have qz:u=z.cells[i % ei.size]:=by
   have wQ:i % z.cells.size<z.cells.size:=by rw[rQ,<- pL];rw[rQ,<- pL]at sf;exact sf
   simp[madeCells,qG]at qV;rw[<- qV];have:i % z.cells.size=i % ei.size:=by rw[rQ,pL]
   simp[this,sf]
  subst qz;rw[hzero]at rO;simp only[ji,lq,lA sf,kb,jh]at rO;subst rO;exact Lm F w os _
 obtain⟨rN,e1,e2,e3,e4⟩:=Sz (F:=F) (w:=w) (os:=os) _ parts uparts.toList _ cs _ hm hp yi qk;have sI:rN.length=len*ei.size:=by rw[e3];simp[madeCells]
 have tB:cs.length=len*ei.size:=by rw[<- BY e2,sI]
 obtain⟨c1,c2,c3⟩:=U2 tB;have pV:∀c∈cs,c.leaf=true:=e4 (λc hc=>by
  simp only[List.mem_flatten,nM]at hc;obtain⟨l,⟨_,rfl⟩,hc⟩:=hc;exact hzl c hc)
 have:=hr.OQ (k:=k) (.inl rfl) (cur:=rN.toArray) (e:=ei.e) (size:=ei.size) (cap:=len) (xs:=chunk ei.size len cs) (by omega) (λx hx=>⟨c2 x hx,λc hc=>by
   obtain⟨i,rD⟩:=jz.1 hx;obtain⟨j,hj⟩:=jz.1 hc;exact pV c (je (c3 i x rD j c hj))⟩) (by simpa using sI) (by omega) (by
    simp only[maxLen];have:len<=len*ei.size:=Nat.le_mul_of_pos_right _ (by omega);omega) (λi x hx j c hc=>by
   obtain⟨u,f1,f2⟩:=CN e2 _ _ (c3 i x hx j c hc);exact⟨u,by simpa using f1,f2⟩)
 refine⟨_,_,.slice (some ⟨w.heap.size,0,none⟩) len len,_,_,hk,?_,this.1,?_,this.2.1⟩
 ·have pG:¬ (16777216<len*inf.size):=by rw[<- pL];omega
  by_cases h0:len*inf.size=0
  ·have yk:len=0:=by rcases Nat.mul_eq_zero.1 h0 with h|h<;>omega
   subst yk;simp only[nI]at sI;have:rN=[]:=ka sI;subst this;have vc:Instr.fill (λi=>some (i*inf.size,inf.size)) (Array.map (λ_=>(default:Value)) (Array.range 0)) uparts.toList=some #[]:=by
    rw[<- pL];have:(Array.map (λ_=>(default:Value)) (Array.range 0))=(madeCells z.cells (0*ei.size)):=by simp[madeCells]
    rw[this];simpa using e1
   simp[Instr.buildSlice,kg hu,sizeOf,typeInfo,hi,newRow,vc]
  ·simp only[madeCells,mQ]at e1;rw[pL]at e1;simp[Instr.buildSlice,kg hu,sizeOf,typeInfo,zeroValue,hi,hz,newRow,pG,h0,e1]
 ·simp only[Ae];exact⟨_,by rw[hr.len];exact Jg _ _,jv _,⟨_,_,_,rfl⟩,λ_=>⟨by simp only;omega,.inr ⟨_,rfl,(L4 (o:=⟨⟨0,ei.e,ei.size,chunk ei.size len cs⟩,some w.heap.size,len,FX⟩) (by simp only;omega)).symm⟩⟩⟩
end Go.Abs
