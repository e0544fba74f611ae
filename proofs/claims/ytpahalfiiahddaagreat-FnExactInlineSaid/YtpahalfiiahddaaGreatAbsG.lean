import Derived.Test.YtpahalfiiahddaaGreatAbsF
namespace Go.Abs
open Go
variable {P : Program} {F : Nat → Prop} {os : List Own} {s : St} {a : Act} {w : World} {k : Nat}
def RO (o:Option AV) (d:Int):Option Int:=
 match o with
 | none=>some d
 | some (.int _ j)=>some j
 | _=>none
def TH (P:Program) (st:List Row) (t:TypeId) (x:AV) (lo hi mx:Option AV) (K:AV→List Row→Prop):Prop:=
 Ep (By P t) fun ei=>match mx with
  | some (.int _ m)=>m=0∧lo=none∧(match hi with | some (.int _ j)=>j=0 | _=>False)∧(match x with | .sl _ | .zc=>K .zc st | .own id g _=>Ep st[id]? fun row=>row.gen=g∧K .zc st | _=>False)
  | some _=>False
  | none=>match x with
   | .own id g n=>Ep st[id]? fun row=>row.gen=g∧n=row.xs.length∧RO lo 0=some 0∧Ep (RO hi n) fun j=>0≤j∧j≤n∧K (.own id (g+1) j.toNat) (st.set id { row with gen:=g+1,xs:=row.xs.take j.toNat })
   | .sl xs=>Ep (RO lo 0) fun l=>Ep (RO hi xs.length) fun h=>0≤l∧l≤h∧h≤xs.length∧(∀x∈xs,x.length=ei.size)∧K (.sl ((xs.take h.toNat).drop l.toNat)) st
   | .zc=>Ep (RO lo 0) fun l=>Ep (RO hi 0) fun h=>l=0∧h=0∧K .zc st
   | _=>False
theorem Ke {t e:TypeId} {inf:TypeInfo} (hu:P.underlying t=some (.slice e)) (hi:P.info? e=some inf) (ad:Option Addr) (n cap l h:Nat) (lo hi':Option Value)
  (hlo:(lo=none∧l=0)∨∃kk,lo=some (.int kk l)) (hhi:(hi'=none∧h=n)∨∃kk,hi'=some (.int kk h)) (hl:l≤h) (hc:h≤cap) :
  (Instr.sliceAt t (.slice ad n cap) lo hi' none).run P w=.ok (.slice (if cap=l then ad else ad.map (·.add (l * inf.size))) (h - l) (cap - l)) w:=by
 have e1 :∀kk,(Instr.sliceBound (.int kk (h:Int)) cap (.sliceAcap)).run P w=.ok h w:=fun kk=>by simp[Instr.sliceBound,asIntOf,hc]
 have e2 :∀kk,(Instr.sliceBound (.int kk (l:Int)) h (.sliceB)).run P w=.ok l w:=fun kk=>by simp[Instr.sliceBound,asIntOf,hl]
 rcases hlo with ⟨rfl,rfl⟩ | ⟨kl,rfl⟩ <;> rcases hhi with ⟨rfl,rfl⟩ | ⟨kh,rfl⟩ <;>
  simp[Instr.sliceAt,run_underlying hu,Instr.slice,Instr.sliceBounds,sizeOf,typeInfo,hi,e1,e2]
def QU (F:Nat→Prop) (w:World) (os:List Own):Option AV→Option Value→Prop
 | none,none=>True
 | some x,some u=>Ae F w os x u
 | _,_=>False
theorem Ly {o:Option AV} {uo:Option Value} {d j:Int} (h:RO o d=some j) (hr:QU F w os o uo):(uo=none∧o=none∧j=d)∨∃kk,uo=some (.int kk j):=by
 unfold RO at h
 split at h
 ·simp only[Option.some.injEq] at h
  cases uo with
  | none=>exact .inl ⟨rfl,rfl,h.symm⟩
  | some u=>exact hr.elim
 ·simp only[Option.some.injEq] at h
  subst h
  cases uo with
  | none=>exact hr.elim
  | some u=>simp only[QU,Ae] at hr;exact .inr ⟨_,by rw[hr]⟩
 ·cases h
theorem Yj {t:TypeId} {x:AV} {ux:Value} {lo hi mx:Option AV} {ulo uhi umx:Option Value} {K:AV→List Row→Prop} (hr:Rel F os s a w) (h:TH P s.st t x lo hi mx K) (hx:Ae F w os x ux)
  (hlo:QU F w os lo ulo) (hhi:QU F w os hi uhi) (hmx:QU F w os mx umx):GR P k F os s a w (Instr.sliceAt t ux ulo uhi umx) K:=by
 obtain⟨ei,he,h⟩:=A0 h
 obtain⟨inf,z,hu,hi',_,_,hpos,hsz,_⟩:=FU he
 cases mx with
 | some m=>
  cases m with
  | int km m=>
   obtain⟨rfl,rfl,hh,h9⟩:=h
   cases hi with
   | none=>exact hh.elim
   | some hv=>
    cases hv with
    | int kh j=>
     simp only at hh
     subst hh
     cases ulo with
     | some _=>exact hlo.elim
     | none=>
      cases uhi with
      | none=>exact hhi.elim
      | some uh=>
       cases umx with
       | none=>exact hmx.elim
       | some um=>
        simp only[QU,Ae] at hhi hmx
        subst hhi;subst hmx
        have hrun :∀ad n c,(Instr.sliceAt t (.slice ad n c) none (some (.int kh 0)) (some (.int km 0))).run P w=.ok (.slice ad 0 0) w:=fun ad n c=>by
         simp[Instr.sliceAt,run_underlying hu,Instr.slice,Instr.sliceBounds,Instr.sliceBound,asIntOf,sizeOf,typeInfo,hi']
        have hfin :∀ad n c,K .zc s.st→GR P k F os s a w (Instr.sliceAt t (.slice ad n c) none (some (.int kh 0)) (some (.int km 0))) K:=fun ad n c hk=>
         ⟨_,_,_,_,os,hk,hrun ad n c,hr,by simp[Ae],Ext.refl _ _ _ _⟩
        cases x with
        | sl xs=>simp only[Ae] at hx;obtain⟨ad,cap,rfl,_⟩:=hx;exact hfin _ _ _ h9
        | zc=>simp only[Ae] at hx;obtain⟨ad,rfl⟩:=hx;exact hfin _ _ _ h9
        | own id g n=>
         obtain⟨row,hrow,hg,hk⟩:=A0 h9
         simp only[Ae] at hx
         obtain⟨o,ho,_,⟨ad,l,c,rfl⟩,_⟩:=hx
         exact hfin _ _ _ hk
        | _=>exact h9.elim
    | _=>exact hh.elim
  | _=>exact h.elim
 | none=>
  cases umx with
  | some _=>exact hmx.elim
  | none=>
   cases x with
   | own id g n=>
    obtain⟨row,hrow,hg,hnw,hl0,h⟩:=A0 h
    obtain⟨j,hj,h0,hjn,hk⟩:=A0 h
    obtain⟨o,ho,rfl⟩:=hr.row hrow
    obtain⟨J,rfl⟩:=Int.eq_ofNat_of_zero_le h0
    simp only[Int.toNat_natCast] at hk
    simp only[Ae] at hx
    obtain⟨o',ho',hge,_,hx⟩:=hx
    rw[ho] at ho';cases ho'
    obtain⟨hnl,hx⟩:=hx hg
    simp only[Km hnw] at hx
    have hok:=hr.rows id o ho
    have h1:=Ly (F:=F) (w:=w) (os:=os) (uo:=ulo) hl0 hlo
    have h2:=Ly (F:=F) (w:=w) (os:=os) (uo:=uhi) hj hhi
    have hset :∀o':Own,(os.set id o')[id]?=some o':=fun o'=>List.getElem?_set_self (List.getElem?_eq_some_iff.1 ho).1
    have hturn:=hr.I8 (k:=k) (o':={ o with row:={ o.row with gen:=g+1,xs:=o.row.xs.take J } }) ho (w':=w) (FF.refl w _) (by simp[hg]) rfl (fun e=>by simp[hg] at e) (fun g hg=>.inl hg) (fun hmono=>by
     refine⟨hok.pos,fun y hy=>hok.lens y (List.mem_of_mem_take hy),fun hn=>?_,fun b hb'=>?_,hok.mo,hok.deep.keep rfl (fun _ h=>h) rfl (fun _ _=>rfl) (fun i x j e s ys hx hc=>by
      simp only[List.getElem?_take] at hx
      split at hx
      ·exact⟨x,hx,hc⟩
      ·cases hx)⟩
     ·have:=hok.none hn;simp[this.1,this.2]
     ·obtain⟨h1,cur,h2,h3,h4,h5,h6⟩:=hok.some b hb'
      refine⟨h1,cur,h2,h3,by simp;omega,h5,fun i y hy j c hc=>?_⟩
      simp only[List.getElem?_take] at hy
      split at hy
      ·obtain⟨u,e1,e2⟩:=h6 i y hy j c hc;exact⟨u,e1,hmono _ _ e2⟩
      ·cases hy)
    have hrun :∀ad cap,n≤cap→(Instr.sliceAt t (.slice ad n cap) ulo uhi none).run P w=.ok (.slice ad J cap) w:=fun ad cap hcap=>by
     have:=Ke (P:=P) (w:=w) hu hi' ad n cap 0 J ulo uhi (by rcases h1 with ⟨e,_,_⟩ | ⟨kk,e⟩;exact .inl ⟨e,rfl⟩;exact .inr ⟨kk,by simpa using e⟩)
      (by rcases h2 with ⟨e,_,e2⟩ | ⟨kk,e⟩;exact .inl ⟨e,by omega⟩;exact .inr ⟨kk,e⟩) (Nat.zero_le _) (by omega)
     rw[this]
     cases ad with
     | none=>simp
     | some ad=>simp[Addr.add]
    rcases hx with ⟨hbn,ad,rfl⟩ | ⟨b,Gp,rfl⟩
    ·have hn0:=hok.none hbn
     simp only[hn0.1,List.length_nil,Nat.le_zero] at hnl
     subst hnl
     have hJ:J=0:=by omega
     subst hJ
     refine⟨_,_,_,_,_,hk,hrun _ _ (Nat.le_refl _),hturn.1,?_,hturn.2.1⟩
     simp only[Ae]
     exact⟨_,hset _,Nat.le_refl _,⟨_,_,_,rfl⟩,fun _=>⟨Nat.zero_le _,.inl ⟨hbn,_,rfl⟩⟩⟩
    ·obtain⟨_,_,_,_,h4,_⟩:=hok.some b Gp
     refine⟨_,_,_,_,_,hk,hrun _ _ (by omega),hturn.1,?_,hturn.2.1⟩
     simp only[Ae]
     exact⟨_,hset _,Nat.le_refl _,⟨_,_,_,rfl⟩,fun _=>⟨by simp;omega,.inr ⟨b,Gp,(Km (o:=⟨⟨g+1,o.row.elem,o.row.size,o.row.xs.take J⟩,o.Eb,o.cap,o.more⟩) (by simp;omega)).symm⟩⟩⟩
   | sl xs=>
    obtain⟨l,hl,h⟩:=A0 h
    obtain⟨h',hh,h0,hlh,hhn,hel,hk⟩:=A0 h
    obtain⟨L,rfl⟩:=Int.eq_ofNat_of_zero_le h0
    obtain⟨H,rfl⟩:=Int.eq_ofNat_of_zero_le (Int.le_trans h0 hlh)
    simp only[Int.toNat_natCast] at hk
    have h1:=Ly (F:=F) (w:=w) (os:=os) (uo:=ulo) hl hlo
    have h2:=Ly (F:=F) (w:=w) (os:=os) (uo:=uhi) hh hhi
    simp only[Ae] at hx
    obtain⟨ad,cap,rfl,hcap,hne⟩:=hx
    have hrun:=Ke (P:=P) (w:=w) hu hi' ad xs.length cap L H ulo uhi (by rcases h1 with ⟨e,_,e2⟩ | ⟨kk,e⟩;exact .inl ⟨e,by omega⟩;exact .inr ⟨kk,e⟩)
     (by rcases h2 with ⟨e,_,e2⟩ | ⟨kk,e⟩;exact .inl ⟨e,by omega⟩;exact .inr ⟨kk,e⟩) (by omega) (by omega)
    refine⟨_,_,_,_,os,hk,hrun,hr,?_,Ext.refl _ _ _ _⟩
    simp only[Ae]
    have hlen:((xs.take H).drop L).length=H - L:=by simp;omega
    refine⟨_,_,by rw[hlen],by omega,fun hne'=>?_⟩
    have hlt:L < H:=by
     rcases Nat.lt_or_ge L H with h | h
     ·exact h
     ·exact absurd (List.eq_nil_of_length_eq_zero (by omega)) hne'
    obtain⟨b,o,size,rfl,hb,hss,hrows⟩:=hne (by intro e;subst e;simp at hhn;omega)
    have hL:L < xs.length:=by omega
    have Dd:size=inf.size:=by rw[← hsz,← hel _ (List.getElem_mem hL)];exact (hss _ (List.getElem_mem hL)).symm
    subst Dd
    refine⟨b,o+L * inf.size,inf.size,?_,hb,fun x hx=>hss x (List.mem_of_mem_take (List.mem_of_mem_drop hx)),Is (fun x hx=>hss x (List.mem_of_mem_take (List.mem_of_mem_drop hx))) fun i x hx=>?_⟩
    ·rw[if_neg (by omega)];simp[B1]
    ·rw[List.getElem?_drop,List.getElem?_take] at hx
     split at hx
     ·have:=Gs hss hrows _ x hx
      rwa [Nat.add_mul,← Nat.add_assoc] at this
     ·cases hx
   | zc=>
    obtain⟨l,hl,h⟩:=A0 h
    obtain⟨h',hh,rfl,rfl,hk⟩:=A0 h
    have h1:=Ly (F:=F) (w:=w) (os:=os) (uo:=ulo) hl hlo
    have h2:=Ly (F:=F) (w:=w) (os:=os) (uo:=uhi) hh hhi
    simp only[Ae] at hx
    obtain⟨ad,rfl⟩:=hx
    have hrun:=Ke (P:=P) (w:=w) hu hi' ad 0 0 0 0 ulo uhi (by rcases h1 with ⟨e,_,e2⟩ | ⟨kk,e⟩;exact .inl ⟨e,rfl⟩;exact .inr ⟨kk,e⟩)
     (by rcases h2 with ⟨e,_,e2⟩ | ⟨kk,e⟩;exact .inl ⟨e,rfl⟩;exact .inr ⟨kk,e⟩) (by omega) (by omega)
    exact⟨_,_,_,_,os,hk,hrun,hr,by simp[Ae],Ext.refl _ _ _ _⟩
   | _=>exact h.elim
def Mx (place:Nat→Option (Nat×Nat)):List AV→List (Nat×AV)→Option (List AV)
 | cells,[]=>some cells
 | cells,(i,v) :: r=>match place i with
  | none=>none
  | some (off,sz)=>match JF v with
   | none=>none
   | some cs=>if cs.length=sz∧off+sz≤cells.length then Mx place (F7 cells off cs) r else none
def Ix (P:Program) (t:TypeId):Option (List (Nat×Nat)):=
 match P.underlying t with
 | some (.struct fs)=>some (fs.toList.map fun f=>(f.offset,P.cellsOf f.type))
 | _=>none
def Hl (P:Program) (t:TypeId):Bool:=
 match P.underlying t with
 | some (.struct fs)=>fs.all fun f=>(P.info? f.type).isSome
 | _=>false
def Wc (P:Program) (t:TypeId) (parts:List (Nat×AV)) (K:AV→Prop):Prop:=
 Hl P t=true∧Ep (Ix P t) fun fs=>Ep (HN P t) fun z=>Ep (Mx (fs[·]?) z parts) fun cs=>K (.agg cs)
def chunk (size:Nat):Nat→List AV→List (List AV)
 | 0,_=>[]
 | n+1,cs=>cs.take size :: chunk size n (cs.drop size)
def Mn (P:Program) (st:List Row) (t:TypeId) (len:Nat) (parts:List (Nat×AV)) (K:AV→List Row→Prop):Prop:=
 Ep (By P t) fun ei=>len * ei.size≤16777216∧Ep (Mx (fun i=>some (i * ei.size,ei.size)) ((List.replicate len ei.zero).flatten) parts) fun cs=>
  K (.own st.length 0 len) (st ++ [⟨0,ei.e,ei.size,chunk ei.size len cs⟩])
theorem Wv {cells cs:List AV} {us vs:List Value} {off:Nat} (h1:BG F w os cells us) (h2:BG F w os cs vs) (hle:off+cs.length≤cells.length) :
  BG F w os (F7 cells off cs) (us.take off ++ vs ++ us.drop (off+vs.length)):=by
 have l1:=A6 h1
 have l2:=A6 h2
 refine Cv (by simp[F7];omega) fun i x u hx hu=>?_
 rw[Nr _ _ _ _ (by omega)] at hx
 have hu':(us.take off ++ vs ++ us.drop (off+vs.length))[i]?=if i < off then us[i]? else if i < off+vs.length then vs[i - off]? else us[i]?:=by
  have:=Ir (cur:=us.toArray) (us:=vs) (p:=off) (j:=i) (by simp;omega)
  simpa using this
 rw[hu'] at hu
 rw[l2] at hu
 split at hx
 ·rename_i hi;rw[if_pos hi] at hu
  obtain⟨u',e1,e2⟩:=BX h1 i x hx
  rw[e1] at hu;cases hu;exact e2
 ·rename_i hi
  rw[if_neg hi] at hu
  split at hx
  ·rename_i hi2;rw[if_pos hi2] at hu
   obtain⟨u',e1,e2⟩:=BX h2 _ x hx
   rw[e1] at hu;cases hu;exact e2
  ·rename_i hi2;rw[if_neg hi2] at hu
   obtain⟨u',e1,e2⟩:=BX h1 i x hx
   rw[e1] at hu;cases hu;exact e2
theorem Vf (off:Nat) :∀(vs:List Value) (j:Nat) (us:List Value),off+j+vs.length≤us.length→
  ((vs.zipIdx j).foldl (fun (cs:Array Value) (c:Value×Nat)=>cs.setIfInBounds (off+c.2) c.1) us.toArray)=(us.take (off+j) ++ vs ++ us.drop (off+j+vs.length)).toArray
 | [],j,us,_=>by simp
 | v :: vs,j,us,h=>by
  simp only[List.length_cons] at h
  simp only[List.zipIdx_cons,List.foldl_cons,List.setIfInBounds_toArray]
  rw[Vf off vs (j+1) (us.set (off+j) v) (by simp;omega)]
  congr 1
  have e:=list_seg_step us (off+j) v vs (by omega)
  simpa [Nat.add_assoc] using e
theorem Rg (place:Nat→Option (Nat×Nat)) :∀(parts:List (Nat×AV)) (uparts:List (Nat×Value)) (cells cells':List AV) (us:List Value),uparts.map (·.1)=parts.map (·.1)→
  (∀(i:Nat) p up,parts[i]?=some p→uparts[i]?=some up→Ae F w os p.2 up.2)→BG F w os cells us→Mx place cells parts=some cells'→
  ∃us':List Value,Instr.fill place us.toArray uparts=some us'.toArray∧BG F w os cells' us'∧us'.length=us.length∧((∀c∈cells,c.leaf=true)→∀c∈cells',c.leaf=true)
 | [],up,cells,cells',us,hm,_,hc,h=>by
  have:up=[]:=by simpa using hm
  subst this
  simp only[Mx,Option.some.injEq] at h
  subst h
  exact⟨us,rfl,hc,rfl,fun h=>h⟩
 | (i,v) :: r,[],_,_,_,hm,_,_,_=>by simp at hm
 | (i,v) :: r,(i',u) :: ur,cells,cells',us,hm,hp,hc,h=>by
  simp only[List.map_cons,List.cons.injEq] at hm
  obtain⟨rfl,hm⟩:=hm
  have hv:Ae F w os v u:=hp 0 (i',v) (i',u) rfl rfl
  simp only[Mx] at h
  split at h
  ·cases h
  rename_i off sz hpl
  split at h
  ·cases h
  rename_i cs hcs
  split at h
  ·rename_i hif
   obtain⟨hrl,hleaf⟩:=OL hcs hv
   have hl:=A6 hrl
   have hlc:=A6 hc
   simp only[Array.length_toList] at hl
   obtain⟨us',e1,e2,e3,e4⟩:=Rg place r ur (F7 cells off cs) cells' (us.take off ++ u.cells.toList ++ us.drop (off+u.cells.toList.length)) hm
    (fun j p up h1 h2=>hp (j+1) p up (by simpa using h1) (by simpa using h2)) (Wv hc hrl (by omega)) h
   refine⟨us',?_,e2,?_,fun hcl=>e4 fun c hc'=>?_⟩
   ·simp only[Instr.fill,hpl]
    rw[if_neg (by simp;omega)]
    rw[← e1]
    congr 1
    have:=Vf off u.cells.toList 0 us (by simp;omega)
    simp only[Nat.add_zero] at this
    rw[← this,← Array.foldl_toList,Array.toList_zipIdx]
   ·rw[e3];simp;omega
   ·unfold F7 at hc'
    simp only[List.mem_append] at hc'
    rcases hc' with (hc' | hc') | hc'
    ·exact hcl c (List.mem_of_mem_take hc')
    ·exact hleaf c hc'
    ·exact hcl c (List.mem_of_mem_drop hc')
  ·cases h
theorem N3 {α β:Type} (g:α→Sem β) (f:α→β) :∀(l:List α),(∀x∈l,(g x).run P w=.ok (f x) w)→(l.mapM g).run P w=.ok (l.map f) w
 | [],_=>by simp
 | x :: l,h=>by
  have ih:=N3 g f l (fun y hy=>h y (by simp[hy]))
  simp[List.mapM_cons,h x (by simp),ih]
theorem Se {α β:Type} (g:α→Sem β) (f:α→β) (xs:Array α) (h :∀x∈xs,(g x).run P w=.ok (f x) w):(xs.mapM g).run P w=.ok (xs.map f) w:=by
 have h1:=N3 (P:=P) (w:=w) g f xs.toList (fun x hx=>h x (by simpa using hx))
 rw[Array.mapM_eq_mapM_toList,Sem.run_map,h1]
 have:(List.map f xs.toList).toArray=Array.map f xs:=by apply Array.ext';simp
 simp[this]
theorem YW {t:TypeId} {parts:List (Nat×AV)} {uparts:Array (Nat×Value)} {K:AV→Prop} (h:Wc P t parts K) (hm:uparts.toList.map (·.1)=parts.map (·.1))
  (hp :∀(i:Nat) p up,parts[i]?=some p→uparts.toList[i]?=some up→Ae F w os p.2 up.2):Yields P F w os (Instr.build t uparts) K:=by
 obtain⟨hall,h⟩:=h
 obtain⟨fs,hfs,h⟩:=A0 h
 obtain⟨z,hz,h⟩:=A0 h
 obtain⟨cs,hcs,hk⟩:=A0 h
 obtain⟨inf,zv,hi,hzv,rfl,hl,_⟩:=Sd hz
 unfold Ix at hfs
 split at hfs
 case h_2=>cases hfs
 rename_i NK hu
 simp only[Option.some.injEq] at hfs
 subst hfs
 unfold Hl at hall
 simp only[hu] at hall
 obtain⟨us',e1,e2,_⟩:=Rg (F:=F) (w:=w) (os:=os) _ parts uparts.toList _ cs zv.cells.toList hm hp (Mb F w os _) hcs
 refine⟨_,.agg us'.toArray,hk,?_,by simp only[Ae];exact⟨us',rfl,e2⟩⟩
 have hmap:=Se (P:=P) (w:=w) (fun f:Field=>(do pure (f.offset,← sizeOf f.type):Sem (Nat×Nat))) (fun f=>(f.offset,P.cellsOf f.type)) NK (fun f hf=>by
  have h1:=Array.all_eq_true_iff_forall_mem.1 hall f hf
  obtain⟨fi,hfi⟩:=Option.isSome_iff_exists.1 h1
  simp[sizeOf,typeInfo,hfi,Program.cellsOf])
 have hplace:(fun (i:Nat)=>(NK.map fun f=>(f.offset,P.cellsOf f.type))[i]?)=fun (i:Nat)=>(NK.toList.map fun f=>(f.offset,P.cellsOf f.type))[i]?:=by
  funext i;simp
 simp only[Array.toArray_toList] at e1
 simp only[Instr.build,Sem.run_bind,zeroValue,typeInfo,run_program,Result.andThen_ok,hi,Sem.run_pure,hzv,run_underlying hu,hmap]
 rw[hplace,e1]
 simp
theorem Uo {size:Nat} :∀{n:Nat} {cs:List AV},cs.length=n * size→(chunk size n cs).length=n∧(∀x∈chunk size n cs,x.length=size)∧
  ∀(i:Nat) x,(chunk size n cs)[i]?=some x→∀(j:Nat) c,x[j]?=some c→cs[i * size+j]?=some c
 | 0,cs,h=>by simp[chunk]
 | n+1,cs,h=>by
  have hl:(cs.drop size).length=n * size:=by rw[List.length_drop,h,Nat.add_mul];omega
  obtain⟨h1,h2,h3⟩:=Uo hl
  have h0:size≤cs.length:=by rw[h,Nat.add_mul];omega
  refine⟨by simp[chunk,h1],fun x hx=>?_,fun i x hx j c hc=>?_⟩
  ·simp only[chunk,List.mem_cons] at hx
   rcases hx with rfl | hx
   ·simp;omega
   ·exact h2 x hx
  ·cases i with
   | zero=>
    simp only[chunk,List.getElem?_cons_zero,Option.some.injEq] at hx
    subst hx
    rw[List.getElem?_take] at hc
    split at hc
    ·simpa using hc
    ·cases hc
   | succ i=>
    simp only[chunk,List.getElem?_cons_succ] at hx
    have:=h3 i x hx j c hc
    rw[List.getElem?_drop] at this
    rw[← this];congr 1;rw[Nat.add_mul];omega
theorem NH {t:TypeId} {len:Nat} {parts:List (Nat×AV)} {uparts:Array (Nat×Value)} {K:AV→List Row→Prop} (hr:Rel F os s a w) (h:Mn P s.st t len parts K) (hm:uparts.toList.map (·.1)=parts.map (·.1))
  (hp :∀(i:Nat) p up,parts[i]?=some p→uparts.toList[i]?=some up→Ae F w os p.2 up.2):GR P k F os s a w (Instr.buildSlice t len uparts) K:=by
 obtain⟨ei,he,h⟩:=A0 h
 obtain⟨inf,z,hu,hi,hz,hzs,hpos,hsz,hby,hzero,hzl⟩:=FU he
 obtain⟨hle,h⟩:=h
 obtain⟨cs,hcs,hk⟩:=A0 h
 have hzlen:ei.zero.length=ei.size:=by rw[hzero,hsz,← hzs];simp
 have hz0:BG F w os ((List.replicate len ei.zero).flatten) (madeCells z.cells (len * ei.size)).toList:=by
  refine Cv (by simp[madeCells,hzlen]) fun i x u hx hu'=>?_
  have hil:i < len * ei.size:=by have:=(List.getElem?_eq_some_iff.1 hu').1;simpa [madeCells] using this
  have hpos':0 < ei.size:=by omega
  have hx':ei.zero[i % ei.size]?=some x:=by
   rw[← hx]
   have hfl :∀(n i:Nat),i < n * ei.size→((List.replicate n ei.zero).flatten)[i]?=ei.zero[i % ei.size]?:=fun n=>by
    induction n with
    | zero=>intro i hi;simp at hi
    | succ n ih=>
     intro i hi
     rw[List.replicate_succ,List.flatten_cons]
     rw[Nat.add_mul] at hi
     by_cases hlt:i < ei.size
     ·rw[List.getElem?_append_left (by omega),Nat.mod_eq_of_lt hlt]
     ·rw[List.getElem?_append_right (by omega),hzlen,ih _ (by omega)]
      congr 1
      rw[Nat.mod_eq_sub_mod (by omega:i ≥ ei.size)]
   exact (hfl len i hil).symm
  have hmod:i % ei.size < z.cells.size:=by rw[hzs,← hsz];exact Nat.mod_lt _ hpos'
  have hu2:u=z.cells[i % ei.size]:=by
   have hmm:i % z.cells.size < z.cells.size:=by rw[hzs,← hsz];rw[hzs,← hsz] at hmod;exact hmod
   simp[madeCells,hil] at hu'
   rw[← hu']
   have:i % z.cells.size=i % ei.size:=by rw[hzs,hsz]
   simp[this,hmod]
  subst hu2
  rw[hzero] at hx'
  simp only[List.getElem?_map,Array.getElem?_toList,Array.getElem?_eq_getElem hmod,Option.map_some,Option.some.injEq] at hx'
  subst hx'
  exact JZ F w os _
 obtain⟨us',e1,e2,e3,e4⟩:=Rg (F:=F) (w:=w) (os:=os) _ parts uparts.toList _ cs _ hm hp hz0 hcs
 have hul:us'.length=len * ei.size:=by rw[e3];simp[madeCells]
 have hcl:cs.length=len * ei.size:=by rw[← A6 e2,hul]
 obtain⟨c1,c2,c3⟩:=Uo hcl
 have hleaf :∀c∈cs,c.leaf=true:=e4 (fun c hc=>by
  simp only[List.mem_flatten,List.mem_replicate] at hc
  obtain⟨l,⟨_,rfl⟩,hc⟩:=hc
  exact hzl c hc)
 have:=hr.Mv (k:=k) (.inl rfl) (cur:=us'.toArray) (e:=ei.e) (size:=ei.size) (cap:=len) (xs:=chunk ei.size len cs) (by omega) (fun x hx=>⟨c2 x hx,fun c hc=>by
   obtain⟨i,hi'⟩:=List.mem_iff_getElem?.1 hx
   obtain⟨j,hj⟩:=List.mem_iff_getElem?.1 hc
   exact hleaf c (List.mem_of_getElem? (c3 i x hi' j c hj))⟩) (by simpa using hul) (by omega) (by
    simp only[maxLen]
    have:len≤len * ei.size:=Nat.le_mul_of_pos_right _ (by omega)
    omega) (fun i x hx j c hc=>by
   obtain⟨u,f1,f2⟩:=BX e2 _ _ (c3 i x hx j c hc)
   exact⟨u,by simpa using f1,f2⟩)
 refine⟨_,_,.slice (some ⟨w.heap.size,0,none⟩) len len,_,_,hk,?_,this.1,?_,this.2.1⟩
 ·have hlt:¬ (16777216 < len * inf.size):=by rw[← hsz];omega
  by_cases h0:len * inf.size=0
  ·have hlen0:len=0:=by rcases Nat.mul_eq_zero.1 h0 with h | h <;> omega
   subst hlen0
   simp only[Nat.zero_mul] at hul
   have:us'=[]:=List.eq_nil_of_length_eq_zero hul
   subst this
   have e1':Instr.fill (fun i=>some (i * inf.size,inf.size)) (Array.map (fun _=>(default:Value)) (Array.range 0)) uparts.toList=some #[]:=by
    rw[← hsz]
    have:(Array.map (fun _=>(default:Value)) (Array.range 0))=(madeCells z.cells (0 * ei.size)):=by simp[madeCells]
    rw[this];simpa using e1
   simp[Instr.buildSlice,run_underlying hu,sizeOf,typeInfo,hi,newRow,e1']
  ·simp only[madeCells,Array.toArray_toList] at e1
   rw[hsz] at e1
   simp[Instr.buildSlice,run_underlying hu,sizeOf,typeInfo,zeroValue,hi,hz,newRow,hlt,h0,e1]
 ·simp only[Ae]
  exact⟨_,by rw[hr.len];exact Hg _ _,Nat.le_refl _,⟨_,_,_,rfl⟩,fun _=>⟨by simp only;omega,.inr ⟨_,rfl,(Km (o:=⟨⟨0,ei.e,ei.size,chunk ei.size len cs⟩,some w.heap.size,len,Dv⟩) (by simp only;omega)).symm⟩⟩⟩
end Go.Abs

