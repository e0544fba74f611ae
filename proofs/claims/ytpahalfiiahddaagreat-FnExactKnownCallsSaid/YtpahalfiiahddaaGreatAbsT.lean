import Derived.Test.YtpahalfiiahddaaGreatAbsP

namespace Go.Abs
open Go
variable {P : Program} {F : Nat → Prop} {os : List Own} {s : St} {a : Act} {w : World} {k : Nat}
def WA (m:Nat):AV→Bool
 | .own id _ _ | .ptr id _ _ _=>decide (id < m)
 | .fn .. | .agg _ | .Cm _=>false
 | _=>true
def under (m:Nat):AV→Bool
 | .fn _ cs | .agg cs | .Cm cs=>cs.all (WA m)
 | v=>WA m v
section
variable {ops : Array Oper} {Q : Exit → St → Prop} {ds : List (Option Tmp)} {r : List Oper} {n : Nat} {e : Nat → AV} {st st' : List Row} {ty : TypeId} {ps : String} {ed : Array Edge} {d : Option Tmp} {v v' : AV} {gd : Option (Nat × Bool)}
variable {f : FuncId} {ars : Array Operand} {ts : Array TypeId} {args : List AV} {rows0 rows1 rows2 rest : List Row}
end
def Bs (sel:List Nat) (row:Row):Row:={ row with xs:=row.xs.map (·.map (HJ sel)) }
theorem Wk.YE {n:Nat} {e:Nat→AV} {st:List Row} (sel:List Nat) (hk:sel.take k=List.range k) (hnd:sel.Nodup) (hlt :∀i∈sel,i < st.length) (hl:HE ((CE st sel).map (Bs sel))) :
  Wk k ⟨n,e,st⟩ ⟨n,fun t=>Ij sel (e t),(CE st sel).map (Bs sel)⟩:=fun F os a w hr=>by
 have hlen:st.length=os.length:=hr.len
 have hk' :∀i,i < k→sel[i]?=some i:=fun i hi=>by
  have h1:(sel.take k)[i]?=some i:=by rw[hk];simp[hi]
  rw[List.getElem?_take] at h1
  simpa [hi] using h1
 have hos1 :∀(j id:Nat),sel[j]?=some id→(sel.filterMap (os[·]?))[j]?=os[id]?:=by
  have :∀(l:List Nat),(∀i∈l,i < os.length)→∀(j id:Nat),l[j]?=some id→(l.filterMap (os[·]?))[j]?=os[id]?:=fun l=>by
   induction l with
   | nil=>intro _ j id h;simp at h
   | cons i l ih=>
    intro hl j id h
    have hi:=hl i (by simp)
    rw[List.filterMap_cons,List.getElem?_eq_getElem hi]
    cases j with
    | zero=>simp only[List.getElem?_cons_zero,Option.some.injEq] at h;subst h;simp[List.getElem?_eq_getElem hi]
    | succ j=>simp only[List.getElem?_cons_succ] at h ⊢;exact ih (fun x hx=>hl x (by simp[hx])) j id h
  exact this sel (fun i hi=>by rw[← hlen];exact hlt i hi)
 let so:Own→Own:=fun o=>{ o with row:=Bs sel o.row }
 let os2:=(sel.filterMap (os[·]?)).map so
 have hl2:(sel.filterMap (os[·]?)).length=sel.length:=by
  have :∀(l:List Nat),(∀i∈l,i < os.length)→(l.filterMap (os[·]?)).length=l.length:=fun l=>by
   induction l with
   | nil=>simp
   | cons i l ih=>intro hl;rw[List.filterMap_cons,List.getElem?_eq_getElem (hl i (by simp))];simp[ih (fun x hx=>hl x (by simp[hx]))]
  exact this sel (fun i hi=>by rw[← hlen];exact hlt i hi)
 have hget :∀(j:Nat) (o:Own),os2[j]?=some o→∃id o0,sel[j]?=some id∧os[id]?=some o0∧o=so o0:=fun j o h=>by
  simp only[os2,List.getElem?_map,Option.map_eq_some_iff] at h
  obtain⟨o0,h0,rfl⟩:=h
  have hj:j < sel.length:=by rw[← hl2];exact (List.getElem?_eq_some_iff.1 h0).1
  refine⟨sel[j],o0,List.getElem?_eq_getElem hj,?_,rfl⟩
  rw[← hos1 j _ (List.getElem?_eq_getElem hj)];exact h0
 have hren0 :∀x v,Am F w os x v→Am F w os2 (Ga sel x) v:=fun x v h=>by
  have hidx :∀id j,idx sel id=some j→os2[j]?=(os[id]?).map so:=fun id j hj=>by
   unfold idx at hj
   rw[List.findIdx?_eq_some_iff_getElem] at hj
   obtain⟨h1,h2,_⟩:=hj
   simp only[os2,List.getElem?_map]
   rw[hos1 j id (by rw[List.getElem?_eq_getElem h1];simpa using h2)]
  cases x with
  | own id g n=>
   simp only[Ga]
   split
   ·rename_i j hj
    simp only[Am] at h ⊢
    obtain⟨o,h1,h2,h3,h4⟩:=h
    exact⟨so o,by rw[hidx id j hj,h1];rfl,h2,h3,fun hg=>by
     obtain⟨a1,a2⟩:=h4 hg
     exact⟨by simpa [so,Bs] using a1,by simpa [so,Bs] using a2⟩⟩
   ·simp[Am]
  | ptr id g i off=>
   simp only[Ga]
   split
   ·rename_i j hj
    simp only[Am] at h ⊢
    obtain⟨o,h1,h2,h3,h4⟩:=h
    exact⟨so o,by rw[hidx id j hj,h1];rfl,h2,h3,fun hg=>by
     obtain⟨a1,a2,a3⟩:=h4 hg
     exact⟨by simpa [so,Bs] using a1,a2,a3⟩⟩
   ·simp[Am]
  | fn f cs=>simp[Ga,Am]
  | agg cs=>simp[Ga,Am]
  | Cm cs=>simp[Ga,Am]
  | _=>simp only[Ga,Am] at h ⊢ <;> exact h
 have hren1 :∀x v,Am F w os x v→Am F w os2 (HJ sel x) v:=Jt hren0
 have hrenL :∀cs us,BX F w os cs us→BX F w os2 (cs.map (HJ sel)) us:=fun cs us h=>
  Ck (by simp[BL h]) fun i x u hx hu=>by
   simp only[List.getElem?_map,Option.map_eq_some_iff] at hx
   obtain⟨y,hy,rfl⟩:=hx
   obtain⟨u',hu',hr'⟩:=Bj h i y hy
   rw[hu'] at hu;cases hu
   exact hren1 _ _ hr'
 have hren :∀x v,Am F w os x v→Am F w os2 (Ij sel x) v:=fun x v h=>by
  cases x with
  | fn f cs=>simp only[Ij,Am] at h ⊢;obtain⟨us,e,hl⟩:=h;exact⟨us,e,hrenL _ _ hl⟩
  | agg cs=>simp only[Ij,Am] at h ⊢;obtain⟨us,e,hl⟩:=h;exact⟨us,e,hrenL _ _ hl⟩
  | Cm cs=>simp only[Ij,Am] at h ⊢;obtain⟨us,e,hl⟩:=h;exact⟨us,e,hrenL _ _ hl⟩
  | _=>exact hren1 _ _ h
 have hstR:os2.map Own.row=(CE st sel).map (Bs sel):=by
  have h0:os.map Own.row=st:=hr.st
  simp only[os2,CE,← h0,List.map_map,List.map_filterMap]
  congr 1
  funext i
  simp only[List.getElem?_map]
  cases os[i]? <;> rfl
 refine⟨F,os2,⟨hstR,fun t=>hren _ _ (hr.env t),hr.size,fun j o ho=>?_,fun i j oi oj b hi hj hbi hbj=>?_,hr.En,hr.defers⟩,⟨rfl,rfl,rfl,Nat.le_refl _,fun _ h=>h,fun _ _=>rfl,fun b _ h1 h2=>⟨rfl,h1,fun o ho=>?_⟩,fun i o hi ho=>⟨so o,?_,Nat.le_refl _,rfl,fun _=>⟨rfl,rfl,by simp[so,Bs]⟩⟩⟩⟩
 ·have hrow:o.row∈(CE st sel).map (Bs sel):=by rw[← hstR];exact List.mem_map.2 ⟨o,List.mem_of_getElem? ho,rfl⟩
  obtain⟨id,o0,hid,ho0,rfl⟩:=hget j o ho
  have hok:=hr.rows id o0 ho0
  refine⟨hok.pos,fun x hx=>⟨?_,hl _ hrow x hx⟩,fun hb=>?_,fun b hb=>?_,hok.mo,hok.deep.mapped (HJ sel) (fun _ _ _ _ h=>T8 h) rfl rfl rfl rfl⟩
  ·simp only[so,Bs,List.mem_map] at hx
   obtain⟨y,hy,rfl⟩:=hx
   simpa [so,Bs] using (hok.lens y hy).1
  ·obtain⟨h1,h2⟩:=hok.none hb
   exact⟨by simp[so,Bs,h1],h2⟩
  ·obtain⟨h1,cur,h2,h3,h4,h5,h6⟩:=hok.some b hb
   refine⟨h1,cur,h2,h3,by simpa [so,Bs] using h4,h5,fun i x hx j' c hc=>?_⟩
   simp only[so,Bs,List.getElem?_map,Option.map_eq_some_iff] at hx
   obtain⟨y,hy,rfl⟩:=hx
   simp only[List.getElem?_map,Option.map_eq_some_iff] at hc
   obtain⟨c0,hc0,rfl⟩:=hc
   obtain⟨u,e1,e2⟩:=h6 i y hy j' c0 hc0
   exact⟨u,e1,hren1 _ _ e2⟩
 ·obtain⟨id,o0,hid,ho0,rfl⟩:=hget i oi hi
  obtain⟨id',o0',hid',ho0',rfl⟩:=hget j oj hj
  have he:=hr.inj id id' o0 o0' b ho0 ho0' hbi hbj
  subst he
  obtain⟨hi1,hi2⟩:=List.getElem?_eq_some_iff.1 hid
  obtain⟨hj1,hj2⟩:=List.getElem?_eq_some_iff.1 hid'
  have hp:=List.pairwise_iff_getElem.1 hnd
  rcases Nat.lt_trichotomy i j with h | h | h
  ·exact absurd (hi2.trans hj2.symm) (hp i j hi1 hj1 h)
  ·exact h
  ·exact absurd (hj2.trans hi2.symm) (hp j i hj1 hi1 h)
 ·simp only[os2,List.mem_map,List.mem_filterMap] at ho
  obtain⟨o0,⟨i,_,hi⟩,rfl⟩:=ho
  exact h2 o0 (List.mem_of_getElem? hi)
 ·simp only[os2,List.getElem?_map]
  rw[hos1 i i (hk' i hi),ho]
  rfl
theorem Nu {n:Nat} {e:Nat→AV} {st st':List Row} {L:List (Nat×AV)} (sel:List Nat) (hk:sel.take k=List.range k) (hnd:sel.Nodup) (hlt:sel.all (· < st.length)=true)
  (hst:(CE st sel).map (Bs sel)=st') (hl:HE st') (h:ME (fun t=>Ij sel (e t)) L):Wk k ⟨n,e,st⟩ ⟨n,AM L,st'⟩:=by
 subst hst
 exact (Wk.YE sel hk hnd (fun i hi=>by simpa using List.all_eq_true.1 hlt i hi) hl).trans (Ab h)
inductive SR (sel:List Nat):List Row→List Row→Prop
 | nil:SR sel [] []
 | deep {g size:Nat} {el:TypeId} {xs:List (List AV)} {r r':List Row} (hp:B9 xs) (hl:SR sel r r'):SR sel (⟨g,el,size,xs⟩ :: r) (⟨g,el,size,xs⟩ :: r')
 | raw {g size:Nat} {el:TypeId} {cs cs':List AV} {r r':List Row} (hc:cs.map (HJ sel)=cs') (hp:cs'.all AV.leaf=true) (hl:SR sel r r'):SR sel (⟨g,el,size,[cs]⟩ :: r) (⟨g,el,size,[cs']⟩ :: r')
 | hol {g size i:Nat} {el:TypeId} {zs:List (List AV)} {x x':List AV} {r r':List Row} (hp:B9 zs) (hz :∀z∈zs,z.all AV.kept=true) (hc:x.map (HJ sel)=x') (hk:x'.all AV.kept=true) (hl:SR sel r r'):SR sel (⟨g,el,size,zs.set i x⟩ :: r) (⟨g,el,size,zs.set i x'⟩ :: r')
theorem SR.pure {sel:List Nat} {g size:Nat} {el:TypeId} {xs:List (List AV)} {r r':List Row} (hp:C5 xs) (hl:SR sel r r'):SR sel (⟨g,el,size,xs⟩ :: r) (⟨g,el,size,xs⟩ :: r'):=.deep hp.any hl
theorem I9 {sel:List Nat} {c:AV} (h:De c=true):HJ sel c=c:=by cases c <;> simp[De,simple,HJ,two,Ga] at h ⊢
theorem SR.spec {sel:List Nat} {st0:List Row} (hle :∀row∈st0,∀x∈row.xs,∀c∈x,c.kept=true) :∀{l l':List Row},SR sel l l'→(∀row∈l,row∈st0)→l.map (Bs sel)=l'∧HE l'
 | _,_,.nil,_=>⟨rfl,fun _ h=>by cases h⟩
 | _,_,.deep hp hl,hm=>by
  obtain⟨h1,h2⟩:=SR.spec hle hl (fun row h=>hm row (List.mem_cons_of_mem _ h))
  have hlf:=hle _ (hm _ (List.mem_cons_self ..))
  refine⟨?_,?_⟩
  ·simp only[List.map_cons,h1]
   congr 1
   simp only[Bs]
   congr 1
   refine (List.map_congr_left (g:=id) fun x hx=>?_).trans (List.map_id _)
   refine (List.map_congr_left (g:=id) fun c hc=>?_).trans (List.map_id _)
   exact I9 (hp x hx c hc)
  ·intro row hrow
   rcases List.mem_cons.1 hrow with rfl | h
   ·exact hlf
   ·exact h2 row h
 | _,_,.raw hc hp hl,hm=>by
  obtain⟨h1,h2⟩:=SR.spec hle hl (fun row h=>hm row (List.mem_cons_of_mem _ h))
  refine⟨?_,?_⟩
  ·simp only[List.map_cons,h1,Bs,List.map_nil,hc]
  ·intro row hrow
   rcases List.mem_cons.1 hrow with rfl | h
   ·intro x hx c hcx
    simp only[List.mem_singleton] at hx
    subst hx
    exact Cc (List.all_eq_true.1 hp c hcx)
   ·exact h2 row h
 | _,_,.hol (zs:=zs) (i:=i) hp hz hc hk hl,hm=>by
  obtain⟨h1,h2⟩:=SR.spec hle hl (fun row h=>hm row (List.mem_cons_of_mem _ h))
  refine⟨?_,?_⟩
  ·simp only[List.map_cons,h1,Bs,List.map_set,hc]
   congr 3
   refine (List.map_congr_left (g:=id) fun x hx=>?_).trans (List.map_id _)
   refine (List.map_congr_left (g:=id) fun c hc=>?_).trans (List.map_id _)
   exact I9 (hp x hx c hc)
  ·intro row hrow
   rcases List.mem_cons.1 hrow with rfl | h
   ·intro x hx c hcx
    rcases List.mem_or_eq_of_mem_set hx with hx | rfl
    ·exact List.all_eq_true.1 (hz x hx) c hcx
    ·exact List.all_eq_true.1 hk c hcx
   ·exact h2 row h
theorem LO {n:Nat} {e:Nat→AV} {st:List Row} (hr:Rel F os ⟨n,e,st⟩ a w) :∀row∈st,∀x∈row.xs,∀c∈x,c.kept=true:=fun row hrow x hx c hc=>by
 have hst:=hr.st
 simp only at hst
 rw[← hst] at hrow
 obtain⟨o,ho,rfl⟩:=List.mem_map.1 hrow
 obtain⟨i,hi⟩:=List.mem_iff_getElem?.1 ho
 exact ((hr.rows i o hi).lens x hx).2 c hc
def RF (m:Nat) (st:List Row):AV→AV
 | .own id g n=>if id < m then .own id g n else match st[id]? with
  | some row=>if row.gen=g then .own id 0 n else .Dt
  | none=>.Dt
 | .ptr id g i off=>if id < m then .ptr id g i off else match st[id]? with
  | some row=>if row.gen=g then .ptr id 0 i off else .Dt
  | none=>.Dt
 | .fn .. | .agg _ | .Cm _=>.Dt
 | v=>v
def QL (m:Nat) (st:List Row) (x:AV):AV:=two (RF m st) x
theorem Ys {m:Nat} {st:List Row} {c:AV} {el s:Nat} {ys:List (List AV)} (h:QL m st c=.dv el s ys):c=.dv el s ys:=by
 refine Qm (X:=RF m st) (fun c h=>?_) h
 cases c <;> simp only[RF] at h <;> first | exact h | cases h | (repeat' split at h) <;> first | cases h | exact h
def rk (m:Nat) (st:List Row):AV→AV
 | .fn f cs=>.fn f (cs.map (QL m st))
 | .agg cs=>.agg (cs.map (QL m st))
 | .Cm cs=>.Cm (cs.map (QL m st))
 | v=>QL m st v
def ET (m:Nat) (st:List Row) (i:Nat) (row:Row):Row:={ row with gen:=if i < m then row.gen else 0,xs:=row.xs.map (·.map (QL m st)) }
theorem Wk.Yq {n:Nat} {e:Nat→AV} {st:List Row} (hl:HE (st.mapIdx (ET k st))):Wk k ⟨n,e,st⟩ ⟨n,fun t=>rk k st (e t),st.mapIdx (ET k st)⟩:=fun F os a w hr=>by
 let so:Nat→Own→Own:=fun i o=>{ o with row:=ET k st i o.row }
 let os2:=os.mapIdx so
 have hst0:os.map Own.row=st:=hr.st
 have hget :∀i,os2[i]?=(os[i]?).map (so i):=fun i=>by simp[os2]
 have hs :∀{id:Nat} {o:Own},os[id]?=some o→st[id]?=some o.row:=fun {id o} ho=>by rw[← hst0,List.getElem?_map,ho];rfl
 have h0' :∀x v,Am F w os x v→Am F w os2 (RF k st x) v:=fun x v h=>by
  cases x with
  | own id g n'=>
   simp only[Am] at h
   obtain⟨o,ho,hle,hsh,hv⟩:=h
   simp only[RF,hs ho]
   by_cases hk:id < k
   ·rw[if_pos hk]
    simp only[Am]
    refine⟨so id o,by rw[hget,ho];rfl,by simp only[so,ET,hk,if_true];exact hle,hsh,fun hg=>?_⟩
    simp only[so,ET,hk,if_true] at hg
    obtain⟨a1,a2⟩:=hv hg
    exact⟨by simpa [so,ET] using a1,by simpa [so,ET] using a2⟩
   ·rw[if_neg hk]
    split
    ·rename_i e
     obtain⟨a1,a2⟩:=hv e
     simp only[Am]
     exact⟨so id o,by rw[hget,ho];rfl,Nat.zero_le _,hsh,fun _=>⟨by simpa [so,ET] using a1,by simpa [so,ET] using a2⟩⟩
    ·simp[Am]
  | ptr id g i off=>
   simp only[Am] at h
   obtain⟨o,ho,hle,hsh,hv⟩:=h
   simp only[RF,hs ho]
   by_cases hk:id < k
   ·rw[if_pos hk]
    simp only[Am]
    refine⟨so id o,by rw[hget,ho];rfl,by simp only[so,ET,hk,if_true];exact hle,hsh,fun hg=>?_⟩
    simp only[so,ET,hk,if_true] at hg
    obtain⟨a1,a2,a3⟩:=hv hg
    exact⟨by simpa [so,ET] using a1,a2,a3⟩
   ·rw[if_neg hk]
    split
    ·rename_i e
     obtain⟨a1,a2,a3⟩:=hv e
     simp only[Am]
     exact⟨so id o,by rw[hget,ho];rfl,Nat.zero_le _,hsh,fun _=>⟨by simpa [so,ET] using a1,a2,a3⟩⟩
    ·simp[Am]
  | fn f caps=>simp[RF,Am]
  | agg cs=>simp[RF,Am]
  | Cm cs=>simp[RF,Am]
  | _=>simp only[RF,Am] at h ⊢ <;> exact h
 have h1 :∀x v,Am F w os x v→Am F w os2 (QL k st x) v:=Jt h0'
 have hL :∀cs us,BX F w os cs us→BX F w os2 (cs.map (QL k st)) us:=fun cs us h=>
  Ck (by simp[BL h]) fun i x u hx hu=>by
   simp only[List.getElem?_map,Option.map_eq_some_iff] at hx
   obtain⟨y,hy,rfl⟩:=hx
   obtain⟨u',hu',hr'⟩:=Bj h i y hy
   rw[hu'] at hu;cases hu
   exact h1 _ _ hr'
 have hb :∀x v,Am F w os x v→Am F w os2 (rk k st x) v:=fun x v h=>by
  cases x with
  | fn f cs=>simp only[rk,Am] at h ⊢;obtain⟨us,e,hl⟩:=h;exact⟨us,e,hL _ _ hl⟩
  | agg cs=>simp only[rk,Am] at h ⊢;obtain⟨us,e,hl⟩:=h;exact⟨us,e,hL _ _ hl⟩
  | Cm cs=>simp only[rk,Am] at h ⊢;obtain⟨us,e,hl⟩:=h;exact⟨us,e,hL _ _ hl⟩
  | _=>exact h1 _ _ h
 have hst2:os2.map Own.row=st.mapIdx (ET k st):=by
  apply List.ext_getElem?
  intro i
  have e1:st[i]?=(os[i]?).map Own.row:=by rw[← hst0,List.getElem?_map]
  rw[List.getElem?_map,hget,List.getElem?_mapIdx,e1]
  cases os[i]? <;> rfl
 refine⟨F,os2,⟨hst2,fun t=>hb _ _ (hr.env t),hr.size,fun i o ho=>?_,fun i j oi' oj' b hi hj hbi hbj=>?_,hr.En,hr.defers⟩,⟨rfl,rfl,rfl,Nat.le_refl _,fun _ h=>h,fun _ _=>rfl,fun b _ h1 h2=>⟨rfl,h1,fun o ho=>?_⟩,fun i o hi ho=>⟨so i o,by rw[hget,ho];rfl,by simp[so,ET,hi],rfl,fun _=>⟨rfl,rfl,by simp[so,ET]⟩⟩⟩⟩
 ·rw[hget,Option.map_eq_some_iff] at ho
  obtain⟨o0,ho0,rfl⟩:=ho
  have hok:=hr.rows i o0 ho0
  have hm:(so i o0).row∈st.mapIdx (ET k st):=by
   rw[← hst2]
   exact List.mem_map.2 ⟨so i o0,List.mem_of_getElem? (by rw[hget,ho0];rfl),rfl⟩
  refine⟨hok.pos,fun x hx=>⟨?_,hl _ hm x hx⟩,fun hbn=>?_,fun b hbb=>?_,hok.mo,hok.deep.mapped (QL k st) (fun _ _ _ _ h=>Ys h) rfl rfl rfl rfl⟩
  ·simp only[so,ET,List.mem_map] at hx
   obtain⟨y,hy,rfl⟩:=hx
   simpa [so,ET] using (hok.lens y hy).1
  ·obtain⟨h1,h2⟩:=hok.none hbn
   exact⟨by simp[so,ET,h1],h2⟩
  ·obtain⟨g1,cur,h2,h3,h4,h5,h6⟩:=hok.some b hbb
   refine⟨g1,cur,h2,h3,by simpa [so,ET] using h4,h5,fun i' x hx j c hc=>?_⟩
   simp only[so,ET,List.getElem?_map,Option.map_eq_some_iff] at hx
   obtain⟨y,hy,rfl⟩:=hx
   simp only[List.getElem?_map,Option.map_eq_some_iff] at hc
   obtain⟨c0,hc0,rfl⟩:=hc
   obtain⟨u,e1,e2⟩:=h6 i' y hy j c0 hc0
   exact⟨u,e1,h1 _ _ e2⟩
 ·rw[hget,Option.map_eq_some_iff] at hi hj
  obtain⟨o1,ho1,rfl⟩:=hi
  obtain⟨o2,ho2,rfl⟩:=hj
  exact hr.inj i j o1 o2 b ho1 ho2 hbi hbj
 ·obtain⟨i,hi⟩:=List.mem_iff_getElem?.1 ho
  rw[hget,Option.map_eq_some_iff] at hi
  obtain⟨o0,h0,rfl⟩:=hi
  exact h2 o0 (List.mem_of_getElem? h0)
inductive KR (m:Nat) (st:List Row):Nat→List Row→List Row→Prop
 | nil {i:Nat}:KR m st i [] []
 | deep {i g g' size:Nat} {el:TypeId} {xs:List (List AV)} {r r':List Row} (hg:g'=if i < m then g else 0) (hp:B9 xs) (hl:KR m st (i+1) r r'):KR m st i (⟨g,el,size,xs⟩ :: r) (⟨g',el,size,xs⟩ :: r')
 | raw {i g g' size:Nat} {el:TypeId} {cs cs':List AV} {r r':List Row} (hg:g'=if i < m then g else 0) (hc:cs.map (QL m st)=cs') (hp:cs'.all AV.leaf=true) (hl:KR m st (i+1) r r'):KR m st i (⟨g,el,size,[cs]⟩ :: r) (⟨g',el,size,[cs']⟩ :: r')
theorem KR.pure {m:Nat} {st:List Row} {i g g' size:Nat} {el:TypeId} {xs:List (List AV)} {r r':List Row} (hg:g'=if i < m then g else 0) (hp:C5 xs) (hl:KR m st (i+1) r r'):KR m st i (⟨g,el,size,xs⟩ :: r) (⟨g',el,size,xs⟩ :: r'):=.deep hg hp.any hl
theorem S8 {m:Nat} {st:List Row} {c:AV} (h:De c=true):QL m st c=c:=by cases c <;> simp[De,simple,QL,two,RF] at h ⊢
theorem KR.spec {m:Nat} {st st0:List Row} (hle :∀row∈st0,∀x∈row.xs,∀c∈x,c.kept=true) :∀{i:Nat} {l l':List Row},KR m st i l l'→(∀row∈l,row∈st0)→l.mapIdx (fun j=>ET m st (i+j))=l'∧HE l'
 | _,_,_,.nil,_=>⟨rfl,fun _ h=>by cases h⟩
 | i,_,_,.deep (r:=r) hg hp hl,hm=>by
  obtain⟨h1,h2⟩:=KR.spec hle hl (fun row h=>hm row (List.mem_cons_of_mem _ h))
  have hlf:=hle _ (hm _ (List.mem_cons_self ..))
  refine⟨?_,?_⟩
  ·rw[List.mapIdx_cons]
   have e:(fun j=>ET m st (i+(j+1)))=fun j=>ET m st (i+1+j):=by funext j;congr 1;omega
   rw[e,h1]
   congr 1
   subst hg
   simp only[ET,Nat.add_zero]
   congr 1
   refine (List.map_congr_left (g:=fun x=>x) fun x hx=>?_).trans (List.map_id _)
   refine (List.map_congr_left (g:=fun x=>x) fun c hc=>?_).trans (List.map_id _)
   exact S8 (hp x hx c hc)
  ·intro row hrow
   rcases List.mem_cons.1 hrow with rfl | h
   ·exact hlf
   ·exact h2 row h
 | i,_,_,.raw hg hc hp hl,hm=>by
  obtain⟨h1,h2⟩:=KR.spec hle hl (fun row h=>hm row (List.mem_cons_of_mem _ h))
  refine⟨?_,?_⟩
  ·rw[List.mapIdx_cons]
   have e:(fun j=>ET m st (i+(j+1)))=fun j=>ET m st (i+1+j):=by funext j;congr 1;omega
   rw[e,h1]
   subst hg
   simp only[ET,Nat.add_zero,List.map_cons,List.map_nil,hc]
  ·intro row hrow
   rcases List.mem_cons.1 hrow with rfl | h
   ·intro x hx c hcx
    simp only[List.mem_singleton] at hx
    subst hx
    exact Cc (List.all_eq_true.1 hp c hcx)
   ·exact h2 row h
theorem Tz {n:Nat} {e:Nat→AV} {st st':List Row} {L:List (Nat×AV)} (hg:KR k st 0 st st') (h:ME (fun t=>Abs.rk k st (e t)) L):Wk k ⟨n,e,st⟩ ⟨n,AM L,st'⟩:=fun F os a w hr=>by
 obtain⟨h1,h2⟩:=hg.spec (st0:=st) (LO hr) (fun _ h=>h)
 simp only[Nat.zero_add] at h1
 have h3:=Wk.Yq (k:=k) (n:=n) (e:=e) (st:=st) (by rw[h1];exact h2)
 rw[h1] at h3
 exact (h3.trans (Ab h)) F os a w hr
end Go.Abs

