import Derived.Test.YtihdgoiebmfapaaGreatAbsF
set_option linter.all false
namespace Go.Abs
open Go
variable {P : Program} {F : Nat -> Prop} {os : List Own} {s : St} {a : Act} {w : World} {k : Nat}
def R6 (o:Option AV)(d:Int):Option Int:=
 match o with
 | none=>some d
 | some (.int _ j)=>some j
 | _=>none
def TO (P:Program)(st:List Row)(t:TypeId)(x:AV)(lo hi mx:Option AV)(K:AV->List Row->Prop):Prop:=
 Fb (Dt P t) λei=>match mx with
  | some (.int _ m)=>m=0/\lo=none/\(match hi with|some (.int _ j)=>j=0|_=>False)/\(match x with|.sl _|.zc=>K .zc st|.own id g _=>Fb st[id]? λrow=>row.gen=g/\K .zc st|_=>False)
  | some _=>False
  | none=>match x with
   | .own id g n=>Fb st[id]? λrow=>row.gen=g/\n=row.xs.length/\R6 lo 0=some 0/\Fb (R6 hi n) λj=>0<=j/\j<=n/\K (.own id (g+1) j.toNat) (st.set id { row with gen:=g+1,xs:=row.xs.take j.toNat })
   | .sl xs=>Fb (R6 lo 0) λl=>Fb (R6 hi xs.length) λh=>0<=l/\l<=h/\h<=xs.length/\(∀x∈xs,x.length=ei.size)/\K (.sl ((xs.take h.toNat).drop l.toNat)) st
   | .zc=>Fb (R6 lo 0) λl=>Fb (R6 hi 0) λh=>l=0/\h=0/\K .zc st
   | _=>False
theorem NX {t e:TypeId}{inf:TypeInfo}(hu:P.underlying t=some (.slice e))(hi:P.info? e=some inf)(ad:Option Addr)(n cap l h:Nat)(lo ni:Option Value)
  (qX:(lo=none/\l=0)∨∃kk,lo=some (.int kk l)) (rn:(ni=none/\h=n)∨∃kk,ni=some (.int kk h)) (hl:l<=h) (hc:h<=cap) :
  (Instr.sliceAt t (.slice ad n cap) lo ni none).run P w=.ok (.slice (if cap=l then ad else ad.map (·.add (l*inf.size))) (h-l) (cap-l)) w:=by
 have e1:∀kk,(Instr.sliceBound (.int kk (h:Int)) cap (.sliceAcap)).run P w=.ok h w:=λkk=>by simp[Instr.sliceBound,asIntOf,hc]
 have e2:∀kk,(Instr.sliceBound (.int kk (l:Int)) h (.sliceB)).run P w=.ok l w:=λkk=>by simp[Instr.sliceBound,asIntOf,hl]
 rcases qX with ⟨rfl,rfl⟩|⟨kl,rfl⟩<;>rcases rn with ⟨rfl,rfl⟩|⟨kh,rfl⟩ <;>
  simp[Instr.sliceAt,gy hu,Instr.slice,Instr.sliceBounds,sizeOf,typeInfo,hi,e1,e2]
def Qs (F:Nat->Prop)(w:World)(os:List Own):Option AV->Option Value->Prop
 | none,none=>True
 | some x,some u=>Ae F w os x u
 | _,_=>False
theorem NJ {o:Option AV}{uo:Option Value}{d j:Int}(h:R6 o d=some j)(hr:Qs F w os o uo):(uo=none/\o=none/\j=d)∨∃kk,uo=some (.int kk j):=by
 unfold R6 at h;split at h
 ·simp only[ff]at h;cases uo with
  | none=>exact .inl ⟨rfl,rfl,h.symm⟩
  | some u=>exact hr.elim
 ·simp only[ff]at h;subst h;cases uo with
  | none=>exact hr.elim
  | some u=>simp only[Qs,Ae]at hr;exact .inr ⟨_,by rw[hr]⟩
 ·cases h
theorem X7 {t:TypeId}{x:AV}{ux:Value}{lo hi mx:Option AV}{rW rX wG:Option Value}{K:AV->List Row->Prop}(hr:Rel F os s a w)(h:TO P s.st t x lo hi mx K)(hx:Ae F w os x ux)
  (qX:Qs F w os lo rW) (rn:Qs F w os hi rX) (wH:Qs F w os mx wG):He P k F os s a w (Instr.sliceAt t ux rW rX wG) K:=by
 obtain⟨ei,he,h⟩:=BK h;obtain⟨inf,z,hu,ni,_,_,mH,lr,_⟩:=Ht he;cases mx with
 | some m=>
  cases m with
  | int km m=>
   obtain⟨rfl,rfl,hh,h9⟩:=h;cases hi with
   | none=>exact hh.elim
   | some hv=>
    cases hv with
    | int kh j=>
     simp only at hh;subst hh;cases rW with
     | some _=>exact qX.elim
     | none=>
      cases rX with
      | none=>exact rn.elim
      | some uh=>
       cases wG with
       | none=>exact wH.elim
       | some um=>
        simp only[Qs,Ae]at rn wH;subst rn;subst wH;have ln:∀ad n c,(Instr.sliceAt t (.slice ad n c) none (some (.int kh 0)) (some (.int km 0))).run P w=.ok (.slice ad 0 0) w:=λad n c=>by
         simp[Instr.sliceAt,gy hu,Instr.slice,Instr.sliceBounds,Instr.sliceBound,asIntOf,sizeOf,typeInfo,ni]
        have qV:∀ad n c,K .zc s.st->He P k F os s a w (Instr.sliceAt t (.slice ad n c) none (some (.int kh 0)) (some (.int km 0))) K:=λad n c hk=>
         ⟨_,_,_,_,os,hk,ln ad n c,hr,by simp[Ae],Ext.refl _ _ _ _⟩
        cases x with
        | sl xs=>simp only[Ae]at hx;obtain⟨ad,cap,rfl,_⟩:=hx;exact qV _ _ _ h9
        | zc=>simp only[Ae]at hx;obtain⟨ad,rfl⟩:=hx;exact qV _ _ _ h9
        | own id g n=>
         obtain⟨row,lQ,hg,hk⟩:=BK h9;simp only[Ae]at hx;obtain⟨o,ho,_,⟨ad,l,c,rfl⟩,_⟩:=hx;exact qV _ _ _ hk
        | _=>exact h9.elim
    | _=>exact hh.elim
  | _=>exact h.elim
 | none=>
  cases wG with
  | some _=>exact wH.elim
  | none=>
   cases x with
   | own id g n=>
    obtain⟨row,lQ,hg,rU,tj,h⟩:=BK h;obtain⟨j,hj,h0,qo,hk⟩:=BK h;obtain⟨o,ho,rfl⟩:=hr.row lQ;obtain⟨J,rfl⟩:=gv h0;simp only[ie]at hk;simp only[Ae]at hx;obtain⟨o',lz,ob,_,hx⟩:=hx;rw[ho]at lz;cases lz;obtain⟨th,hx⟩:=hx hg;simp only[LX rU]at hx;have lU:=hr.rows id o ho;have h1:=NJ (F:=F) (w:=w) (os:=os) (uo:=rW) tj qX;have h2:=NJ (F:=F) (w:=w) (os:=os) (uo:=rX) hj rn;have oU:∀o':Own,(os.set id o')[id]?=some o':=λo'=>fv (fe.1 ho).1;have nK:=hr.Ov (k:=k) (o':={ o with row:={ o.row with gen:=g+1,xs:=o.row.xs.take J } }) ho (w':=w) (HN.refl w _) (by simp[hg]) rfl (λe=>by simp[hg]at e) (λg hg=>.inl hg) (λlY=>by
     refine⟨lU.pos,λy hy=>lU.lens y (hX hy),λhn=>?_,λb mE=>?_,lU.mo,lU.deep.keep rfl (λ_ h=>h) rfl (λ_ _=>rfl) (λi x j e s ys hx hc=>by
      simp only[gR]at hx;split at hx
      ·exact⟨x,hx,hc⟩
      ·cases hx)⟩
     ·have:=lU.none hn;simp[this.1,this.2]
     ·obtain⟨h1,cur,h2,h3,h4,h5,h6⟩:=lU.some b mE;refine⟨h1,cur,h2,h3,by simp;omega,h5,λi y hy j c hc=>?_⟩;simp only[gR]at hy;split at hy
      ·obtain⟨u,e1,e2⟩:=h6 i y hy j c hc;exact⟨u,e1,lY _ _ e2⟩
      ·cases hy)
    have ln:∀ad cap,n<=cap->(Instr.sliceAt t (.slice ad n cap) rW rX none).run P w=.ok (.slice ad J cap) w:=λad cap oS=>by
     have:=NX (P:=P) (w:=w) hu ni ad n cap 0 J rW rX (by rcases h1 with ⟨e,_,_⟩|⟨kk,e⟩;exact .inl ⟨e,rfl⟩;exact .inr ⟨kk,by simpa using e⟩)
      (by rcases h2 with ⟨e,_,e2⟩|⟨kk,e⟩;exact .inl ⟨e,by omega⟩;exact .inr ⟨kk,e⟩) (gK _) (by omega)
     rw[this];cases ad with
     | none=>simp
     | some ad=>simp[Addr.add]
    rcases hx with ⟨pb,ad,rfl⟩|⟨b,JH,rfl⟩
    ·have pw:=lU.none pb;simp only[pw.1,iM,kD]at th;subst th;have hJ:J=0:=by omega
     subst hJ;refine⟨_,_,_,_,_,hk,ln _ _ (gA _),nK.1,?_,nK.2.1⟩;simp only[Ae];exact⟨_,oU _,gA _,⟨_,_,_,rfl⟩,λ_=>⟨gK _,.inl ⟨pb,_,rfl⟩⟩⟩
    ·obtain⟨_,_,_,_,h4,_⟩:=lU.some b JH;refine⟨_,_,_,_,_,hk,ln _ _ (by omega),nK.1,?_,nK.2.1⟩;simp only[Ae];exact⟨_,oU _,gA _,⟨_,_,_,rfl⟩,λ_=>⟨by simp;omega,.inr ⟨b,JH,(LX (o:=⟨⟨g+1,o.row.elem,o.row.size,o.row.xs.take J⟩,o.Fa,o.cap,o.more⟩) (by simp;omega)).symm⟩⟩⟩
   | sl xs=>
    obtain⟨l,hl,h⟩:=BK h;obtain⟨h',hh,h0,hlh,hhn,rV,hk⟩:=BK h;obtain⟨L,rfl⟩:=gv h0;obtain⟨H,rfl⟩:=gv (Int.le_trans h0 hlh);simp only[ie]at hk;have h1:=NJ (F:=F) (w:=w) (os:=os) (uo:=rW) hl qX;have h2:=NJ (F:=F) (w:=w) (os:=os) (uo:=rX) hh rn;simp only[Ae]at hx;obtain⟨ad,cap,rfl,oS,lv⟩:=hx;have ln:=NX (P:=P) (w:=w) hu ni ad xs.length cap L H rW rX (by rcases h1 with ⟨e,_,e2⟩|⟨kk,e⟩;exact .inl ⟨e,by omega⟩;exact .inr ⟨kk,e⟩)
     (by rcases h2 with ⟨e,_,e2⟩|⟨kk,e⟩;exact .inl ⟨e,by omega⟩;exact .inr ⟨kk,e⟩) (by omega) (by omega)
    refine⟨_,_,_,_,os,hk,ln,hr,?_,Ext.refl _ _ _ _⟩;simp only[Ae];have hlen:((xs.take H).drop L).length=H-L:=by simp;omega
    refine⟨_,_,by rw[hlen],by omega,λqz=>?_⟩;have lh:L<H:=by
     rcases iY L H with h|h
     ·exact h
     ·exact absurd (gY (by omega)) qz
    obtain⟨b,o,size,rfl,hb,hss,mg⟩:=lv (by intro e;subst e;simp at hhn;omega);have hL:L<xs.length:=by omega
    have GW:size=inf.size:=by rw[<- lr,<- rV _ (jG hL)];exact (hss _ (jG hL)).symm
    subst GW;refine⟨b,o+L*inf.size,inf.size,?_,hb,λx hx=>hss x (hX (iL hx)),Ko (λx hx=>hss x (hX (iL hx))) λi x hx=>?_⟩
    ·rw[fr (by omega)];simp[Cy]
    ·rw[gh,gR]at hx;split at hx
     ·have:=Jz hss mg _ x hx;rwa [gU,<- iO]at this
     ·cases hx
   | zc=>
    obtain⟨l,hl,h⟩:=BK h;obtain⟨h',hh,rfl,rfl,hk⟩:=BK h;have h1:=NJ (F:=F) (w:=w) (os:=os) (uo:=rW) hl qX;have h2:=NJ (F:=F) (w:=w) (os:=os) (uo:=rX) hh rn;simp only[Ae]at hx;obtain⟨ad,rfl⟩:=hx;have ln:=NX (P:=P) (w:=w) hu ni ad 0 0 0 0 rW rX (by rcases h1 with ⟨e,_,e2⟩|⟨kk,e⟩;exact .inl ⟨e,rfl⟩;exact .inr ⟨kk,e⟩)
     (by rcases h2 with ⟨e,_,e2⟩|⟨kk,e⟩;exact .inl ⟨e,rfl⟩;exact .inr ⟨kk,e⟩) (by omega) (by omega)
    exact⟨_,_,_,_,os,hk,ln,hr,by simp[Ae],Ext.refl _ _ _ _⟩
   | _=>exact h.elim
def L3 (place:Nat->Option (Nat×Nat)):List AV->List (Nat×AV)->Option (List AV)
 | cells,[]=>some cells
 | cells,(i,v)::r=>match place i with
  | none=>none
  | some (off,sz)=>match J6 v with
   | none=>none
   | some cs=>if cs.length=sz/\off+sz<=cells.length then L3 place (Gw cells off cs) r else none
def Jt (P:Program)(t:TypeId):Option (List (Nat×Nat)):=
 match P.underlying t with
 | some (.struct fs)=>some (fs.toList.map λf=>(f.offset,P.cellsOf f.type))
 | _=>none
def Ie (P:Program)(t:TypeId):Bool:=
 match P.underlying t with
 | some (.struct fs)=>fs.all λf=>(P.info? f.type).isSome
 | _=>false
def WY (P:Program)(t:TypeId)(parts:List (Nat×AV))(K:AV->Prop):Prop:=
 Ie P t=true/\Fb (Jt P t) λfs=>Fb (IL P t) λz=>Fb (L3 (fs[·]?) z parts) λcs=>K (.agg cs)
def chunk (size:Nat):Nat->List AV->List (List AV)
 | 0,_=>[]
 | n+1,cs=>cs.take size::chunk size n (cs.drop size)
def Ng (P:Program)(st:List Row)(t:TypeId)(len:Nat)(parts:List (Nat×AV))(K:AV->List Row->Prop):Prop:=
 Fb (Dt P t) λei=>len*ei.size<=16777216/\Fb (L3 (λi=>some (i*ei.size,ei.size)) ((List.replicate len ei.zero).flatten) parts) λcs=>
  K (.own st.length 0 len) (st++[⟨0,ei.e,ei.size,chunk ei.size len cs⟩])
theorem Wp {cells cs:List AV}{us vs:List Value}{off:Nat}(h1:Br F w os cells us)(h2:Br F w os cs vs)(hle:off+cs.length<=cells.length):
  Br F w os (Gw cells off cs) (us.take off++vs++us.drop (off+vs.length)):=by
 have l1:=BW h1;have l2:=BW h2;refine DV (by simp[Gw];omega) λi x u hx hu=>?_;rw[Oz _ _ _ _ (by omega)]at hx;have nC:(us.take off++vs++us.drop (off+vs.length))[i]?=if i<off then us[i]? else if i<off+vs.length then vs[i-off]? else us[i]?:=by
  have:=Jj (cur:=us.toArray) (us:=vs) (p:=off) (j:=i) (by simp;omega);simpa using this
 rw[nC]at hu;rw[l2]at hu;split at hx
 ·rename_i hi;rw[fq hi]at hu;obtain⟨u',e1,e2⟩:=CJ h1 i x hx;rw[e1]at hu;cases hu;exact e2
 ·rename_i hi;rw[fr hi]at hu;split at hx
  ·rename_i rp;rw[fq rp]at hu;obtain⟨u',e1,e2⟩:=CJ h2 _ x hx;rw[e1]at hu;cases hu;exact e2
  ·rename_i rp;rw[fr rp]at hu;obtain⟨u',e1,e2⟩:=CJ h1 i x hx;rw[e1]at hu;cases hu;exact e2
theorem VS (off:Nat):∀(vs:List Value) (j:Nat) (us:List Value),off+j+vs.length<=us.length->
  ((vs.zipIdx j).foldl (λ(cs:Array Value) (c:Value×Nat)=>cs.setIfInBounds (off+c.2) c.1) us.toArray)=(us.take (off+j)++vs++us.drop (off+j+vs.length)).toArray
 | [],j,us,_=>by simp
 | v::vs,j,us,h=>by
  simp only[gn]at h;simp only[List.zipIdx_cons,List.foldl_cons,List.setIfInBounds_toArray];rw[VS off vs (j+1) (us.set (off+j) v) (by simp;omega)];congr 1;have e:=list_seg_step us (off+j) v vs (by omega);simpa [iO] using e
theorem SD (place:Nat->Option (Nat×Nat)):∀(parts:List (Nat×AV)) (uparts:List (Nat×Value)) (cells nf:List AV) (us:List Value),uparts.map (·.1)=parts.map (·.1)->
  (∀(i:Nat) p up,parts[i]?=some p->uparts[i]?=some up->Ae F w os p.2 up.2)->Br F w os cells us->L3 place cells parts=some nf->
  ∃oN:List Value,Instr.fill place us.toArray uparts=some oN.toArray/\Br F w os nf oN/\oN.length=us.length/\((∀c∈cells,c.leaf=true)->∀c∈nf,c.leaf=true)
 | [],up,cells,nf,us,hm,_,hc,h=>by
  have:up=[]:=by simpa using hm
  subst this;simp only[L3,ff]at h;subst h;exact⟨us,rfl,hc,rfl,λh=>h⟩
 | (i,v)::r,[],_,_,_,hm,_,_,_=>by simp at hm
 | (i,v)::r,(i',u)::ur,cells,nf,us,hm,hp,hc,h=>by
  simp only[gP,jD]at hm;obtain⟨rfl,hm⟩:=hm;have hv:Ae F w os v u:=hp 0 (i',v) (i',u) rfl rfl;simp only[L3]at h;split at h
  ·cases h
  rename_i off sz wb;split at h
  ·cases h
  rename_i cs nP;split at h
  ·rename_i sN;obtain⟨pJ,mD⟩:=Oy nP hv;have hl:=BW pJ;have qm:=BW hc;simp only[iw]at hl;obtain⟨oN,e1,e2,e3,e4⟩:=SD place r ur (Gw cells off cs) nf (us.take off++u.cells.toList++us.drop (off+u.cells.toList.length)) hm
    (λj p up h1 h2=>hp (j+1) p up (by simpa using h1) (by simpa using h2)) (Wp hc pJ (by omega)) h
   refine⟨oN,?_,e2,?_,λqY=>e4 λc oV=>?_⟩
   ·simp only[Instr.fill,wb];rw[fr (by simp;omega)];rw[<- e1];congr 1;have:=VS off u.cells.toList 0 us (by simp;omega);simp only[jJ]at this;rw[<- this,<- Array.foldl_toList,Array.toList_zipIdx]
   ·rw[e3];simp;omega
   ·unfold Gw at oV;simp only[gS]at oV;rcases oV with (oV|oV)|oV
    ·exact qY c (hX oV)
    ·exact mD c oV
    ·exact qY c (iL oV)
  ·cases h
theorem OX {α β:Type}(g:α->Sem β)(f:α->β):∀(l:List α),(∀x∈l,(g x).run P w=.ok (f x) w)->(l.mapM g).run P w=.ok (l.map f) w
 | [],_=>by simp
 | x::l,h=>by
  have ih:=OX g f l (λy hy=>h y (by simp[hy]));simp[jk,h x (by simp),ih]
theorem Sy {α β:Type}(g:α->Sem β)(f:α->β)(xs:Array α)(h :∀x∈xs,(g x).run P w=.ok (f x) w):(xs.mapM g).run P w=.ok (xs.map f) w:=by
 have h1:=OX (P:=P) (w:=w) g f xs.toList (λx hx=>h x (by simpa using hx));rw[Array.mapM_eq_mapM_toList,Sem.run_map,h1];have:(List.map f xs.toList).toArray=Array.map f xs:=by apply jM;simp
 simp[this]
theorem Yh {t:TypeId}{parts:List (Nat×AV)}{uparts:Array (Nat×Value)}{K:AV->Prop}(h:WY P t parts K)(hm:uparts.toList.map (·.1)=parts.map (·.1))
  (hp :∀(i:Nat) p up,parts[i]?=some p->uparts.toList[i]?=some up->Ae F w os p.2 up.2):Yields P F w os (Instr.build t uparts) K:=by
 obtain⟨mY,h⟩:=h;obtain⟨fs,hfs,h⟩:=BK h;obtain⟨z,hz,h⟩:=BK h;obtain⟨cs,nP,hk⟩:=BK h;obtain⟨inf,zv,hi,hzv,rfl,hl,_⟩:=Se hz;unfold Jt at hfs;split at hfs
 case h_2=>cases hfs
 rename_i Lj hu;simp only[ff]at hfs;subst hfs;unfold Ie at mY;simp only[hu]at mY;obtain⟨oN,e1,e2,_⟩:=SD (F:=F) (w:=w) (os:=os) _ parts uparts.toList _ cs zv.cells.toList hm hp (Nl F w os _) nP;refine⟨_,.agg oN.toArray,hk,?_,by simp only[Ae];exact⟨oN,rfl,e2⟩⟩;have wc:=Sy (P:=P) (w:=w) (λf:Field=>(do pure (f.offset,<- sizeOf f.type):Sem (Nat×Nat))) (λf=>(f.offset,P.cellsOf f.type)) Lj (λf hf=>by
  have h1:=Array.all_eq_true_iff_forall_mem.1 mY f hf;obtain⟨fi,wI⟩:=Option.isSome_iff_exists.1 h1;simp[sizeOf,typeInfo,wI,Program.cellsOf])
 have sj:(λ(i:Nat)=>(Lj.map λf=>(f.offset,P.cellsOf f.type))[i]?)=λ(i:Nat)=>(Lj.toList.map λf=>(f.offset,P.cellsOf f.type))[i]?:=by
  funext i;simp
 simp only[jN]at e1;simp only[Instr.build,gr,zeroValue,typeInfo,run_program,gl,hi,hY,hzv,gy hu,wc];rw[sj,e1];simp
theorem Uo {size:Nat}:∀{n:Nat} {cs:List AV},cs.length=n*size->(chunk size n cs).length=n/\(∀x∈chunk size n cs,x.length=size)/\
  ∀(i:Nat) x,(chunk size n cs)[i]?=some x->∀(j:Nat) c,x[j]?=some c->cs[i*size+j]?=some c
 | 0,cs,h=>by simp[chunk]
 | n+1,cs,h=>by
  have hl:(cs.drop size).length=n*size:=by rw[jH,h,gU];omega
  obtain⟨h1,h2,h3⟩:=Uo hl;have h0:size<=cs.length:=by rw[h,gU];omega
  refine⟨by simp[chunk,h1],λx hx=>?_,λi x hx j c hc=>?_⟩
  ·simp only[chunk,fu]at hx;rcases hx with rfl|hx
   ·simp;omega
   ·exact h2 x hx
  ·cases i with
   | zero=>
    simp only[chunk,gQ,ff]at hx;subst hx;rw[gR]at hc;split at hc
    ·simpa using hc
    ·cases hc
   | succ i=>
    simp only[chunk,gZ]at hx;have:=h3 i x hx j c hc;rw[gh]at this;rw[<- this];congr 1;rw[gU];omega
theorem OA {t:TypeId}{len:Nat}{parts:List (Nat×AV)}{uparts:Array (Nat×Value)}{K:AV->List Row->Prop}(hr:Rel F os s a w)(h:Ng P s.st t len parts K)(hm:uparts.toList.map (·.1)=parts.map (·.1))
  (hp :∀(i:Nat) p up,parts[i]?=some p->uparts.toList[i]?=some up->Ae F w os p.2 up.2):He P k F os s a w (Instr.buildSlice t len uparts) K:=by
 obtain⟨ei,he,h⟩:=BK h;obtain⟨inf,z,hu,hi,hz,nz,mH,lr,hby,hzero,rB⟩:=Ht he;obtain⟨hle,h⟩:=h;obtain⟨cs,nP,hk⟩:=BK h;have sO:ei.zero.length=ei.size:=by rw[hzero,lr,<- nz];simp
 have uU:Br F w os ((List.replicate len ei.zero).flatten) (madeCells z.cells (len*ei.size)).toList:=by
  refine DV (by simp[madeCells,sO]) λi x u hx nC=>?_;have nQ:i<len*ei.size:=by have:=(fe.1 nC).1;simpa [madeCells] using this
  have uV:0<ei.size:=by omega
  have oO:ei.zero[i % ei.size]?=some x:=by
   rw[<- hx];have qM:∀(n i:Nat),i<n*ei.size->((List.replicate n ei.zero).flatten)[i]?=ei.zero[i % ei.size]?:=λn=>by
    induction n with
    | zero=>intro i hi;simp at hi
    | succ n ih=>
     intro i hi;rw[List.replicate_succ,List.flatten_cons];rw[gU]at hi;by_cases lh:i<ei.size
     ·rw[ft (by omega),jQ lh]
     ·rw[fw (by omega),sO,ih _ (by omega)];congr 1;rw[Nat.mod_eq_sub_mod (by omega:i ≥ ei.size)]
   exact (qM len i nQ).symm
  have pS:i % ei.size<z.cells.size:=by rw[nz,<- lr];exact Nat.mod_lt _ uV
  have nt:u=z.cells[i % ei.size]:=by
   have sP:i % z.cells.size<z.cells.size:=by rw[nz,<- lr];rw[nz,<- lr]at pS;exact pS
   simp[madeCells,nQ]at nC;rw[<- nC];have:i % z.cells.size=i % ei.size:=by rw[nz,lr]
   simp[this,pS]
  subst nt;rw[hzero]at oO;simp only[fg,il,iC pS,gu,ff]at oO;subst oO;exact LM F w os _
 obtain⟨oN,e1,e2,e3,e4⟩:=SD (F:=F) (w:=w) (os:=os) _ parts uparts.toList _ cs _ hm hp uU nP;have oo:oN.length=len*ei.size:=by rw[e3];simp[madeCells]
 have qY:cs.length=len*ei.size:=by rw[<- BW e2,oo]
 obtain⟨c1,c2,c3⟩:=Uo qY;have mD:∀c∈cs,c.leaf=true:=e4 (λc hc=>by
  simp only[List.mem_flatten,List.mem_replicate]at hc;obtain⟨l,⟨_,rfl⟩,hc⟩:=hc;exact rB c hc)
 have:=hr.NZ (k:=k) (.inl rfl) (cur:=oN.toArray) (e:=ei.e) (size:=ei.size) (cap:=len) (xs:=chunk ei.size len cs) (by omega) (λx hx=>⟨c2 x hx,λc hc=>by
   obtain⟨i,ni⟩:=gG.1 hx;obtain⟨j,hj⟩:=gG.1 hc;exact mD c (fc (c3 i x ni j c hj))⟩) (by simpa using oo) (by omega) (by
    simp only[maxLen];have:len<=len*ei.size:=Nat.le_mul_of_pos_right _ (by omega);omega) (λi x hx j c hc=>by
   obtain⟨u,f1,f2⟩:=CJ e2 _ _ (c3 i x hx j c hc);exact⟨u,by simpa using f1,f2⟩)
 refine⟨_,_,.slice (some ⟨w.heap.size,0,none⟩) len len,_,_,hk,?_,this.1,?_,this.2.1⟩
 ·have lh:¬ (16777216<len*inf.size):=by rw[<- lr];omega
  by_cases h0:len*inf.size=0
  ·have uW:len=0:=by rcases Nat.mul_eq_zero.1 h0 with h|h<;>omega
   subst uW;simp only[jy]at oo;have:oN=[]:=gY oo;subst this;have sk:Instr.fill (λi=>some (i*inf.size,inf.size)) (Array.map (λ_=>(default:Value)) (Array.range 0)) uparts.toList=some #[]:=by
    rw[<- lr];have:(Array.map (λ_=>(default:Value)) (Array.range 0))=(madeCells z.cells (0*ei.size)):=by simp[madeCells]
    rw[this];simpa using e1
   simp[Instr.buildSlice,gy hu,sizeOf,typeInfo,hi,newRow,sk]
  ·simp only[madeCells,jN]at e1;rw[lr]at e1;simp[Instr.buildSlice,gy hu,sizeOf,typeInfo,zeroValue,hi,hz,newRow,lh,h0,e1]
 ·simp only[Ae];exact⟨_,by rw[hr.len];exact JR _ _,gA _,⟨_,_,_,rfl⟩,λ_=>⟨by simp only;omega,.inr ⟨_,rfl,(LX (o:=⟨⟨0,ei.e,ei.size,chunk ei.size len cs⟩,some w.heap.size,len,FP⟩) (by simp only;omega)).symm⟩⟩⟩
end Go.Abs
