import Derived.Test.YtpahalfiiahddaaAbsP

namespace Go.Abs
open Go
variable {P : Program} {F : Nat → Prop} {os : List Own} {s : St} {a : Act} {w : World} {k : Nat}
def Un (m:Nat):AV→Bool
 | .own id _ _ | .ptr id _ _ _=>decide (id < m)
 | .fn .. | .agg _ | .CO _=>false
 | _=>true
def under (m:Nat):AV→Bool
 | .fn _ cs | .agg cs | .CO cs=>cs.all (Un m)
 | v=>Un m v
section
variable {ops : Array Oper} {Q : Exit → St → Prop} {ds : List (Option Tmp)} {r : List Oper} {n : Nat} {e : Nat → AV} {st st' : List Row} {ty : TypeId} {ps : String} {ed : Array Edge} {d : Option Tmp} {v v' : AV} {gd : Option (Nat × Bool)}
variable {f : FuncId} {ars : Array Operand} {ts : Array TypeId} {args : List AV} {rows0 rows1 rows2 rest : List Row}
end
def CF (An:List Nat) (row:Row):Row:={ row with xs:=row.xs.map (·.map (ID An)) }
theorem Wk.V1 {n:Nat} {e:Nat→AV} {st:List Row} (An:List Nat) (hk:An.take k=List.range k) (hnd:An.Nodup) (hlt :∀i∈An,i < st.length) (hl:GP ((Bv st An).map (CF An))) :
  Wk k ⟨n,e,st⟩ ⟨n,fun t=>IC An (e t),(Bv st An).map (CF An)⟩:=fun F os a w hr=>by
 have hlen:st.length=os.length:=hr.len
 have hk' :∀i,i < k→An[i]?=some i:=fun i hi=>by
  have h1:(An.take k)[i]?=some i:=by rw[hk];simp[hi]
  rw[List.getElem?_take] at h1
  simpa [hi] using h1
 have hos1 :∀(j id:Nat),An[j]?=some id→(An.filterMap (os[·]?))[j]?=os[id]?:=by
  have :∀(l:List Nat),(∀i∈l,i < os.length)→∀(j id:Nat),l[j]?=some id→(l.filterMap (os[·]?))[j]?=os[id]?:=fun l=>by
   induction l with
   | nil=>intro _ j id h;simp at h
   | cons i l ih=>
    intro hl j id h
    have hi:=hl i (by simp)
    rw[List.filterMap_cons,List.getElem?_eq_getElem hi]
    cases j with
    | zero=>simp only[List.getElem?_cons_zero,Option.some.injEq] at h;subst h;simp[List.getElem?_eq_getElem hi]
    | succ j=>simp only[List.getElem?_cons_succ] at h ⊢;exact ih (fun x hx=>hl x (by simp[hx])) j id h
  exact this An (fun i hi=>by rw[← hlen];exact hlt i hi)
 let so:Own→Own:=fun o=>{ o with row:=CF An o.row }
 let os2:=(An.filterMap (os[·]?)).map so
 have hl2:(An.filterMap (os[·]?)).length=An.length:=by
  have :∀(l:List Nat),(∀i∈l,i < os.length)→(l.filterMap (os[·]?)).length=l.length:=fun l=>by
   induction l with
   | nil=>simp
   | cons i l ih=>intro hl;rw[List.filterMap_cons,List.getElem?_eq_getElem (hl i (by simp))];simp[ih (fun x hx=>hl x (by simp[hx]))]
  exact this An (fun i hi=>by rw[← hlen];exact hlt i hi)
 have hget :∀(j:Nat) (o:Own),os2[j]?=some o→∃id o0,An[j]?=some id∧os[id]?=some o0∧o=so o0:=fun j o h=>by
  simp only[os2,List.getElem?_map,Option.map_eq_some_iff] at h
  obtain⟨o0,h0,rfl⟩:=h
  have hj:j < An.length:=by rw[← hl2];exact (List.getElem?_eq_some_iff.1 h0).1
  refine⟨An[j],o0,List.getElem?_eq_getElem hj,?_,rfl⟩
  rw[← hos1 j _ (List.getElem?_eq_getElem hj)];exact h0
 have hren0 :∀x v,Ak F w os x v→Ak F w os2 (GJ An x) v:=fun x v h=>by
  have hidx :∀id j,idx An id=some j→os2[j]?=(os[id]?).map so:=fun id j hj=>by
   unfold idx at hj
   rw[List.findIdx?_eq_some_iff_getElem] at hj
   obtain⟨h1,h2,_⟩:=hj
   simp only[os2,List.getElem?_map]
   rw[hos1 j id (by rw[List.getElem?_eq_getElem h1];simpa using h2)]
  cases x with
  | own id g n=>
   simp only[GJ]
   split
   ·rename_i j hj
    simp only[Ak] at h ⊢
    obtain⟨o,h1,h2,h3,h4⟩:=h
    exact⟨so o,by rw[hidx id j hj,h1];rfl,h2,h3,fun hg=>by
     obtain⟨a1,a2⟩:=h4 hg
     exact⟨by simpa [so,CF] using a1,by simpa [so,CF] using a2⟩⟩
   ·simp[Ak]
  | ptr id g i off=>
   simp only[GJ]
   split
   ·rename_i j hj
    simp only[Ak] at h ⊢
    obtain⟨o,h1,h2,h3,h4⟩:=h
    exact⟨so o,by rw[hidx id j hj,h1];rfl,h2,h3,fun hg=>by
     obtain⟨a1,a2,a3⟩:=h4 hg
     exact⟨by simpa [so,CF] using a1,a2,a3⟩⟩
   ·simp[Ak]
  | fn f cs=>simp[GJ,Ak]
  | agg cs=>simp[GJ,Ak]
  | CO cs=>simp[GJ,Ak]
  | _=>simp only[GJ,Ak] at h ⊢ <;> exact h
 have hren1 :∀x v,Ak F w os x v→Ak F w os2 (ID An x) v:=Ij hren0
 have hrenL :∀cs us,Bd F w os cs us→Bd F w os2 (cs.map (ID An)) us:=fun cs us h=>
  C8 (by simp[BP h]) fun i x u hx hu=>by
   simp only[List.getElem?_map,Option.map_eq_some_iff] at hx
   obtain⟨y,hy,rfl⟩:=hx
   obtain⟨u',hu',hr'⟩:=Bq h i y hy
   rw[hu'] at hu;cases hu
   exact hren1 _ _ hr'
 have hren :∀x v,Ak F w os x v→Ak F w os2 (IC An x) v:=fun x v h=>by
  cases x with
  | fn f cs=>simp only[IC,Ak] at h ⊢;obtain⟨us,e,hl⟩:=h;exact⟨us,e,hrenL _ _ hl⟩
  | agg cs=>simp only[IC,Ak] at h ⊢;obtain⟨us,e,hl⟩:=h;exact⟨us,e,hrenL _ _ hl⟩
  | CO cs=>simp only[IC,Ak] at h ⊢;obtain⟨us,e,hl⟩:=h;exact⟨us,e,hrenL _ _ hl⟩
  | _=>exact hren1 _ _ h
 have hstR:os2.map Own.row=(Bv st An).map (CF An):=by
  have h0:os.map Own.row=st:=hr.st
  simp only[os2,Bv,← h0,List.map_map,List.map_filterMap]
  congr 1
  funext i
  simp only[List.getElem?_map]
  cases os[i]? <;> rfl
 refine⟨F,os2,⟨hstR,fun t=>hren _ _ (hr.env t),hr.size,fun j o ho=>?_,fun i j oi oj b hi hj hbi hbj=>?_,hr.E6,hr.defers⟩,⟨rfl,rfl,rfl,Nat.le_refl _,fun _ h=>h,fun _ _=>rfl,fun b _ h1 h2=>⟨rfl,h1,fun o ho=>?_⟩,fun i o hi ho=>⟨so o,?_,Nat.le_refl _,rfl,fun _=>⟨rfl,rfl,by simp[so,CF]⟩⟩⟩⟩
 ·have hrow:o.row∈(Bv st An).map (CF An):=by rw[← hstR];exact List.mem_map.2 ⟨o,List.mem_of_getElem? ho,rfl⟩
  obtain⟨id,o0,hid,ho0,rfl⟩:=hget j o ho
  have hok:=hr.rows id o0 ho0
  refine⟨hok.pos,fun x hx=>⟨?_,hl _ hrow x hx⟩,fun hb=>?_,fun b hb=>?_,hok.mo,hok.deep.mapped (ID An) (fun _ _ _ _ h=>S0 h) rfl rfl rfl rfl⟩
  ·simp only[so,CF,List.mem_map] at hx
   obtain⟨y,hy,rfl⟩:=hx
   simpa [so,CF] using (hok.lens y hy).1
  ·obtain⟨h1,h2⟩:=hok.none hb
   exact⟨by simp[so,CF,h1],h2⟩
  ·obtain⟨h1,cur,h2,h3,h4,h5,h6⟩:=hok.some b hb
   refine⟨h1,cur,h2,h3,by simpa [so,CF] using h4,h5,fun i x hx j' c hc=>?_⟩
   simp only[so,CF,List.getElem?_map,Option.map_eq_some_iff] at hx
   obtain⟨y,hy,rfl⟩:=hx
   simp only[List.getElem?_map,Option.map_eq_some_iff] at hc
   obtain⟨c0,hc0,rfl⟩:=hc
   obtain⟨u,e1,e2⟩:=h6 i y hy j' c0 hc0
   exact⟨u,e1,hren1 _ _ e2⟩
 ·obtain⟨id,o0,hid,ho0,rfl⟩:=hget i oi hi
  obtain⟨id',o0',hid',ho0',rfl⟩:=hget j oj hj
  have he:=hr.inj id id' o0 o0' b ho0 ho0' hbi hbj
  subst he
  obtain⟨hi1,hi2⟩:=List.getElem?_eq_some_iff.1 hid
  obtain⟨hj1,hj2⟩:=List.getElem?_eq_some_iff.1 hid'
  have hp:=List.pairwise_iff_getElem.1 hnd
  rcases Nat.lt_trichotomy i j with h | h | h
  ·exact absurd (hi2.trans hj2.symm) (hp i j hi1 hj1 h)
  ·exact h
  ·exact absurd (hj2.trans hi2.symm) (hp j i hj1 hi1 h)
 ·simp only[os2,List.mem_map,List.mem_filterMap] at ho
  obtain⟨o0,⟨i,_,hi⟩,rfl⟩:=ho
  exact h2 o0 (List.mem_of_getElem? hi)
 ·simp only[os2,List.getElem?_map]
  rw[hos1 i i (hk' i hi),ho]
  rfl
theorem Wk.ZV {n:Nat} {e:Nat→AV} {st st':List Row} {L:List (Nat×AV)} (An:List Nat) (hk:An.take k=List.range k) (hnd:An.Nodup) (hlt:An.all (· < st.length)=true)
  (hst:(Bv st An).map (CF An)=st') (hl:GP st') (h:ME (fun t=>IC An (e t)) L):Wk k ⟨n,e,st⟩ ⟨n,Aa L,st'⟩:=by
 subst hst
 exact (Wk.V1 An hk hnd (fun i hi=>by simpa using List.all_eq_true.1 hlt i hi) hl).trans (Ah h)
inductive SR (An:List Nat):List Row→List Row→Prop
 | nil:SR An [] []
 | deep {g size:Nat} {el:TypeId} {xs:List (List AV)} {r r':List Row} (hp:Cr xs) (hl:SR An r r'):SR An (⟨g,el,size,xs⟩ :: r) (⟨g,el,size,xs⟩ :: r')
 | raw {g size:Nat} {el:TypeId} {cs cs':List AV} {r r':List Row} (hc:cs.map (ID An)=cs') (hp:cs'.all AV.leaf=true) (hl:SR An r r'):SR An (⟨g,el,size,[cs]⟩ :: r) (⟨g,el,size,[cs']⟩ :: r')
 | hol {g size i:Nat} {el:TypeId} {zs:List (List AV)} {x x':List AV} {r r':List Row} (hp:Cr zs) (hz :∀z∈zs,z.all AV.kept=true) (hc:x.map (ID An)=x') (hk:x'.all AV.kept=true) (hl:SR An r r'):SR An (⟨g,el,size,zs.set i x⟩ :: r) (⟨g,el,size,zs.set i x'⟩ :: r')
theorem SR.pure {An:List Nat} {g size:Nat} {el:TypeId} {xs:List (List AV)} {r r':List Row} (hp:DA xs) (hl:SR An r r'):SR An (⟨g,el,size,xs⟩ :: r) (⟨g,el,size,xs⟩ :: r'):=.deep hp.any hl
theorem Mh {An:List Nat} {c:AV} (h:D1 c=true):ID An c=c:=by cases c <;> simp[D1,simple,ID,two,GJ] at h ⊢
theorem SR.spec {An:List Nat} {st0:List Row} (hle :∀row∈st0,∀x∈row.xs,∀c∈x,c.kept=true) :∀{l l':List Row},SR An l l'→(∀row∈l,row∈st0)→l.map (CF An)=l'∧GP l'
 | _,_,.nil,_=>⟨rfl,fun _ h=>by cases h⟩
 | _,_,.deep hp hl,hm=>by
  obtain⟨h1,h2⟩:=SR.spec hle hl (fun row h=>hm row (List.mem_cons_of_mem _ h))
  have hlf:=hle _ (hm _ (List.mem_cons_self ..))
  refine⟨?_,?_⟩
  ·simp only[List.map_cons,h1]
   congr 1
   simp only[CF]
   congr 1
   refine (List.map_congr_left (g:=id) fun x hx=>?_).trans (List.map_id _)
   refine (List.map_congr_left (g:=id) fun c hc=>?_).trans (List.map_id _)
   exact Mh (hp x hx c hc)
  ·intro row hrow
   rcases List.mem_cons.1 hrow with rfl | h
   ·exact hlf
   ·exact h2 row h
 | _,_,.raw hc hp hl,hm=>by
  obtain⟨h1,h2⟩:=SR.spec hle hl (fun row h=>hm row (List.mem_cons_of_mem _ h))
  refine⟨?_,?_⟩
  ·simp only[List.map_cons,h1,CF,List.map_nil,hc]
  ·intro row hrow
   rcases List.mem_cons.1 hrow with rfl | h
   ·intro x hx c hcx
    simp only[List.mem_singleton] at hx
    subst hx
    exact CP (List.all_eq_true.1 hp c hcx)
   ·exact h2 row h
 | _,_,.hol (zs:=zs) (i:=i) hp hz hc hk hl,hm=>by
  obtain⟨h1,h2⟩:=SR.spec hle hl (fun row h=>hm row (List.mem_cons_of_mem _ h))
  refine⟨?_,?_⟩
  ·simp only[List.map_cons,h1,CF,List.map_set,hc]
   congr 3
   refine (List.map_congr_left (g:=id) fun x hx=>?_).trans (List.map_id _)
   refine (List.map_congr_left (g:=id) fun c hc=>?_).trans (List.map_id _)
   exact Mh (hp x hx c hc)
  ·intro row hrow
   rcases List.mem_cons.1 hrow with rfl | h
   ·intro x hx c hcx
    rcases List.mem_or_eq_of_mem_set hx with hx | rfl
    ·exact List.all_eq_true.1 (hz x hx) c hcx
    ·exact List.all_eq_true.1 hk c hcx
   ·exact h2 row h
theorem MP {n:Nat} {e:Nat→AV} {st:List Row} (hr:Rel F os ⟨n,e,st⟩ a w) :∀row∈st,∀x∈row.xs,∀c∈x,c.kept=true:=fun row hrow x hx c hc=>by
 have hst:=hr.st
 simp only at hst
 rw[← hst] at hrow
 obtain⟨o,ho,rfl⟩:=List.mem_map.1 hrow
 obtain⟨i,hi⟩:=List.mem_iff_getElem?.1 ho
 exact ((hr.rows i o hi).lens x hx).2 c hc
def P8 (id g:Nat):AV→AV
 | .own id' g' n=>if id'=id∧g'=g then .own id (g+1) n else .own id' g' n
 | .ptr id' g' i off=>if id'=id∧g'=g then .ptr id (g+1) i off else .ptr id' g' i off
 | .fn .. | .agg _ | .CO _=>.D4
 | v=>v
def OS (id g:Nat) (x:AV):AV:=two (P8 id g) x
theorem Xn {id g:Nat} {c:AV} {el s:Nat} {ys:List (List AV)} (h:OS id g c=.dv el s ys):c=.dv el s ys:=by
 refine NX (X:=P8 id g) (fun c h=>?_) h
 cases c <;> simp only[P8] at h <;> first | exact h | cases h | (repeat' split at h) <;> first | cases h | exact h
def bp (id g:Nat):AV→AV
 | .fn f cs=>.fn f (cs.map (OS id g))
 | .agg cs=>.agg (cs.map (OS id g))
 | .CO cs=>.CO (cs.map (OS id g))
 | v=>OS id g v
def J3 (id g:Nat) (row:Row):Row:={ row with xs:=row.xs.map (·.map (OS id g)) }
def VD (row:Row):Row:={ row with gen:=row.gen+1 }
theorem Wk.Yn {n:Nat} {e:Nat→AV} {st:List Row} {id:Nat} {row:Row} (hrow:st[id]?=some row) (hl:GP (st.map (J3 id row.gen))) :
  Wk k ⟨n,e,st⟩ ⟨n,fun t=>bp id row.gen (e t),(st.map (J3 id row.gen)).modify id VD⟩:=fun F os a w hr=>by
 let so:Nat→Own→Own:=fun i o=>{ o with row:=if i=id then VD (J3 id row.gen o.row) else J3 id row.gen o.row }
 let os2:=os.mapIdx so
 have hst0:os.map Own.row=st:=hr.st
 obtain⟨oi,hoi,hoir⟩ :∃o,os[id]?=some o∧o.row=row:=by
  rw[← hst0,List.getElem?_map,Option.map_eq_some_iff] at hrow
  exact hrow
 have hget :∀i,os2[i]?=(os[i]?).map (so i):=fun i=>by simp[os2]
 have hsx :∀i o,(so i o).row.xs=o.row.xs.map (·.map (OS id row.gen)):=fun i o=>by
  simp only[so];split <;> rfl
 have hsz :∀i o,(so i o).row.size=o.row.size:=fun i o=>by simp only[so];split <;> rfl
 have hse :∀i o,(so i o).row.elem=o.row.elem:=fun i o=>by simp only[so];split <;> rfl
 have hsg :∀i o,(so i o).row.gen=if i=id then o.row.gen+1 else o.row.gen:=fun i o=>by simp only[so];split <;> rfl
 have hb0 :∀x v,Ak F w os x v→Ak F w os2 (P8 id row.gen x) v:=fun x v h=>by
  cases x with
  | own id' g' n'=>
   simp only[Ak] at h
   obtain⟨o,h1,h2,h3,h4⟩:=h
   simp only[P8]
   by_cases hc:id'=id∧g'=row.gen
   ·rw[if_pos hc]
    obtain⟨rfl,rfl⟩:=hc
    have:o=oi:=by rw[hoi] at h1;cases h1;rfl
    subst this
    simp only[Ak]
    refine⟨so id' o,by rw[hget,hoi];rfl,by rw[hsg];simp[hoir],h3,fun _=>?_⟩
    obtain⟨a1,a2⟩:=h4 (by rw[hoir])
    exact⟨by rw[hsx];simpa using a1,by rw[hsx,hsz,List.length_map];exact a2⟩
   ·rw[if_neg hc]
    simp only[Ak]
    refine⟨so id' o,by rw[hget,h1];rfl,by rw[hsg];split <;> omega,h3,fun hg=>?_⟩
    rw[hsg] at hg
    by_cases hi:id'=id
    ·subst hi
     rw[hoi] at h1;cases h1
     rw[if_pos rfl] at hg
     omega
    ·rw[if_neg hi] at hg
     obtain⟨a1,a2⟩:=h4 hg
     exact⟨by rw[hsx];simpa using a1,by rw[hsx,hsz,List.length_map];exact a2⟩
  | ptr id' g' i' off=>
   simp only[Ak] at h
   obtain⟨o,h1,h2,h3,h4⟩:=h
   simp only[P8]
   by_cases hc:id'=id∧g'=row.gen
   ·rw[if_pos hc]
    obtain⟨rfl,rfl⟩:=hc
    have:o=oi:=by rw[hoi] at h1;cases h1;rfl
    subst this
    simp only[Ak]
    refine⟨so id' o,by rw[hget,hoi];rfl,by rw[hsg];simp[hoir],h3,fun _=>?_⟩
    obtain⟨a1,a2,a3⟩:=h4 (by rw[hoir])
    exact⟨by rw[hsx];simpa using a1,by rw[hsz];exact a2,by rw[hsz];exact a3⟩
   ·rw[if_neg hc]
    simp only[Ak]
    refine⟨so id' o,by rw[hget,h1];rfl,by rw[hsg];split <;> omega,h3,fun hg=>?_⟩
    rw[hsg] at hg
    by_cases hi:id'=id
    ·subst hi
     rw[hoi] at h1;cases h1
     rw[if_pos rfl] at hg
     omega
    ·rw[if_neg hi] at hg
     obtain⟨a1,a2,a3⟩:=h4 hg
     exact⟨by rw[hsx];simpa using a1,by rw[hsz];exact a2,by rw[hsz];exact a3⟩
  | fn f caps=>simp[P8,Ak]
  | agg cs=>simp[P8,Ak]
  | CO cs=>simp[P8,Ak]
  | _=>simp only[P8,Ak] at h ⊢ <;> exact h
 have hb1 :∀x v,Ak F w os x v→Ak F w os2 (OS id row.gen x) v:=Ij hb0
 have hbL :∀cs us,Bd F w os cs us→Bd F w os2 (cs.map (OS id row.gen)) us:=fun cs us h=>
  C8 (by simp[BP h]) fun i x u hx hu=>by
   simp only[List.getElem?_map,Option.map_eq_some_iff] at hx
   obtain⟨y,hy,rfl⟩:=hx
   obtain⟨u',hu',hr'⟩:=Bq h i y hy
   rw[hu'] at hu;cases hu
   exact hb1 _ _ hr'
 have hb :∀x v,Ak F w os x v→Ak F w os2 (bp id row.gen x) v:=fun x v h=>by
  cases x with
  | fn f cs=>simp only[bp,Ak] at h ⊢;obtain⟨us,e,hl⟩:=h;exact⟨us,e,hbL _ _ hl⟩
  | agg cs=>simp only[bp,Ak] at h ⊢;obtain⟨us,e,hl⟩:=h;exact⟨us,e,hbL _ _ hl⟩
  | CO cs=>simp only[bp,Ak] at h ⊢;obtain⟨us,e,hl⟩:=h;exact⟨us,e,hbL _ _ hl⟩
  | _=>exact hb1 _ _ h
 have hst2:os2.map Own.row=(st.map (J3 id row.gen)).modify id VD:=by
  apply List.ext_getElem?
  intro i
  rw[List.getElem?_map,hget,List.getElem?_modify,List.getElem?_map,← hst0,List.getElem?_map]
  cases os[i]? with
  | none=>rfl
  | some o=>
   simp only[Option.map_some,so]
   by_cases hi:i=id
   ·simp[hi]
   ·have:¬ id=i:=fun h=>hi h.symm
    simp[hi,this]
 refine⟨F,os2,⟨hst2,fun t=>hb _ _ (hr.env t),hr.size,fun i o ho=>?_,fun i j oi' oj' b hi hj hbi hbj=>?_,hr.E6,hr.defers⟩,⟨rfl,rfl,rfl,Nat.le_refl _,fun _ h=>h,fun _ _=>rfl,fun b _ h1 h2=>⟨rfl,h1,fun o ho=>?_⟩,fun i o hi ho=>⟨so i o,by rw[hget,ho];rfl,by rw[hsg];split <;> omega,hsz i o,fun _=>⟨rfl,rfl,by rw[hsx];simp⟩⟩⟩⟩
 ·rw[hget,Option.map_eq_some_iff] at ho
  obtain⟨o0,ho0,rfl⟩:=ho
  have hok:=hr.rows i o0 ho0
  have hm:J3 id row.gen o0.row∈st.map (J3 id row.gen):=List.mem_map.2 ⟨o0.row,by rw[← hst0];exact List.mem_map.2 ⟨o0,List.mem_of_getElem? ho0,rfl⟩,rfl⟩
  refine⟨by rw[hsz];exact hok.pos,fun x hx=>?_,fun hbn=>?_,fun b hbb=>?_,hok.mo,hok.deep.mapped (OS id row.gen) (fun _ _ _ _ h=>Xn h) rfl rfl (hsz _ _) (hsx _ _)⟩
  ·rw[hsx] at hx
   refine⟨?_,hl _ hm x hx⟩
   obtain⟨y,hy,rfl⟩:=List.mem_map.1 hx
   rw[hsz,List.length_map];exact (hok.lens y hy).1
  ·obtain⟨h1,h2⟩:=hok.none hbn
   exact⟨by rw[hsx,h1];rfl,h2⟩
  ·obtain⟨h1,cur,h2,h3,h4,h5,h6⟩:=hok.some b hbb
   refine⟨h1,cur,by rw[hse];exact h2,by rw[hsz];exact h3,by rw[hsx,List.length_map];exact h4,h5,fun i' x hx j c hc=>?_⟩
   rw[hsx,List.getElem?_map,Option.map_eq_some_iff] at hx
   obtain⟨y,hy,rfl⟩:=hx
   rw[List.getElem?_map,Option.map_eq_some_iff] at hc
   obtain⟨c0,hc0,rfl⟩:=hc
   obtain⟨u,e1,e2⟩:=h6 i' y hy j c0 hc0
   exact⟨u,by rw[hsz];exact e1,hb1 _ _ e2⟩
 ·rw[hget,Option.map_eq_some_iff] at hi hj
  obtain⟨o1,ho1,rfl⟩:=hi
  obtain⟨o2,ho2,rfl⟩:=hj
  exact hr.inj i j o1 o2 b ho1 ho2 hbi hbj
 ·obtain⟨i,hi⟩:=List.mem_iff_getElem?.1 ho
  rw[hget,Option.map_eq_some_iff] at hi
  obtain⟨o0,h0,rfl⟩:=hi
  exact h2 o0 (List.mem_of_getElem? h0)
inductive BR (id g:Nat):List Row→List Row→Prop
 | nil:BR id g [] []
 | deep {g' size:Nat} {el:TypeId} {xs:List (List AV)} {r r':List Row} (hp:Cr xs) (hl:BR id g r r'):BR id g (⟨g',el,size,xs⟩ :: r) (⟨g',el,size,xs⟩ :: r')
 | raw {g' size:Nat} {el:TypeId} {cs cs':List AV} {r r':List Row} (hc:cs.map (OS id g)=cs') (hp:cs'.all AV.leaf=true) (hl:BR id g r r'):BR id g (⟨g',el,size,[cs]⟩ :: r) (⟨g',el,size,[cs']⟩ :: r')
theorem BR.pure {id g:Nat} {g' size:Nat} {el:TypeId} {xs:List (List AV)} {r r':List Row} (hp:DA xs) (hl:BR id g r r'):BR id g (⟨g',el,size,xs⟩ :: r) (⟨g',el,size,xs⟩ :: r'):=.deep hp.any hl
theorem Sz {id g:Nat} {c:AV} (h:D1 c=true):OS id g c=c:=by cases c <;> simp[D1,simple,OS,two,P8] at h ⊢
theorem BR.spec {id g:Nat} {st0:List Row} (hle :∀row∈st0,∀x∈row.xs,∀c∈x,c.kept=true) :∀{l l':List Row},BR id g l l'→(∀row∈l,row∈st0)→l.map (J3 id g)=l'∧GP l'
 | _,_,.nil,_=>⟨rfl,fun _ h=>by cases h⟩
 | _,_,.deep hp hl,hm=>by
  obtain⟨h1,h2⟩:=BR.spec hle hl (fun row h=>hm row (List.mem_cons_of_mem _ h))
  have hlf:=hle _ (hm _ (List.mem_cons_self ..))
  refine⟨?_,?_⟩
  ·simp only[List.map_cons,h1]
   congr 1
   simp only[J3]
   congr 1
   refine (List.map_congr_left (g:=fun x=>x) fun x hx=>?_).trans (List.map_id _)
   refine (List.map_congr_left (g:=fun x=>x) fun c hc=>?_).trans (List.map_id _)
   exact Sz (hp x hx c hc)
  ·intro row hrow
   rcases List.mem_cons.1 hrow with rfl | h
   ·exact hlf
   ·exact h2 row h
 | _,_,.raw hc hp hl,hm=>by
  obtain⟨h1,h2⟩:=BR.spec hle hl (fun row h=>hm row (List.mem_cons_of_mem _ h))
  refine⟨?_,?_⟩
  ·simp only[List.map_cons,h1,J3,List.map_nil,hc]
  ·intro row hrow
   rcases List.mem_cons.1 hrow with rfl | h
   ·intro x hx c hcx
    simp only[List.mem_singleton] at hx
    subst hx
    exact CP (List.all_eq_true.1 hp c hcx)
   ·exact h2 row h
theorem JU {n:Nat} {e:Nat→AV} {st st1 st':List Row} {L:List (Nat×AV)} (id:Nat) {row:Row} (hrow:st[id]?=some row) (hb:BR id row.gen st st1) (hst:st1.modify id VD=st') (h:ME (fun t=>bp id row.gen (e t)) L):Wk k ⟨n,e,st⟩ ⟨n,Aa L,st'⟩:=fun F os a w hr=>by
 obtain⟨h1,h2⟩:=hb.spec (st0:=st) (MP hr) (fun _ h=>h)
 have h3:=Wk.Yn (k:=k) (n:=n) (e:=e) hrow (by rw[h1];exact h2)
 rw[h1,hst] at h3
 exact (h3.trans (Ah h)) F os a w hr
def QZ (m:Nat) (st:List Row):AV→AV
 | .own id g n=>if id < m then .own id g n else match st[id]? with
  | some row=>if row.gen=g then .own id 0 n else .D4
  | none=>.D4
 | .ptr id g i off=>if id < m then .ptr id g i off else match st[id]? with
  | some row=>if row.gen=g then .ptr id 0 i off else .D4
  | none=>.D4
 | .fn .. | .agg _ | .CO _=>.D4
 | v=>v
def Ps (m:Nat) (st:List Row) (x:AV):AV:=two (QZ m st) x
theorem Xk {m:Nat} {st:List Row} {c:AV} {el s:Nat} {ys:List (List AV)} (h:Ps m st c=.dv el s ys):c=.dv el s ys:=by
 refine NX (X:=QZ m st) (fun c h=>?_) h
 cases c <;> simp only[QZ] at h <;> first | exact h | cases h | (repeat' split at h) <;> first | cases h | exact h
def rk (m:Nat) (st:List Row):AV→AV
 | .fn f cs=>.fn f (cs.map (Ps m st))
 | .agg cs=>.agg (cs.map (Ps m st))
 | .CO cs=>.CO (cs.map (Ps m st))
 | v=>Ps m st v
def EX (m:Nat) (st:List Row) (i:Nat) (row:Row):Row:={ row with gen:=if i < m then row.gen else 0,xs:=row.xs.map (·.map (Ps m st)) }
theorem Wk.XH {n:Nat} {e:Nat→AV} {st:List Row} (hl:GP (st.mapIdx (EX k st))):Wk k ⟨n,e,st⟩ ⟨n,fun t=>rk k st (e t),st.mapIdx (EX k st)⟩:=fun F os a w hr=>by
 let so:Nat→Own→Own:=fun i o=>{ o with row:=EX k st i o.row }
 let os2:=os.mapIdx so
 have hst0:os.map Own.row=st:=hr.st
 have hget :∀i,os2[i]?=(os[i]?).map (so i):=fun i=>by simp[os2]
 have hs :∀{id:Nat} {o:Own},os[id]?=some o→st[id]?=some o.row:=fun {id o} ho=>by rw[← hst0,List.getElem?_map,ho];rfl
 have h0' :∀x v,Ak F w os x v→Ak F w os2 (QZ k st x) v:=fun x v h=>by
  cases x with
  | own id g n'=>
   simp only[Ak] at h
   obtain⟨o,ho,hle,hsh,hv⟩:=h
   simp only[QZ,hs ho]
   by_cases hk:id < k
   ·rw[if_pos hk]
    simp only[Ak]
    refine⟨so id o,by rw[hget,ho];rfl,by simp only[so,EX,hk,if_true];exact hle,hsh,fun hg=>?_⟩
    simp only[so,EX,hk,if_true] at hg
    obtain⟨a1,a2⟩:=hv hg
    exact⟨by simpa [so,EX] using a1,by simpa [so,EX] using a2⟩
   ·rw[if_neg hk]
    split
    ·rename_i e
     obtain⟨a1,a2⟩:=hv e
     simp only[Ak]
     exact⟨so id o,by rw[hget,ho];rfl,Nat.zero_le _,hsh,fun _=>⟨by simpa [so,EX] using a1,by simpa [so,EX] using a2⟩⟩
    ·simp[Ak]
  | ptr id g i off=>
   simp only[Ak] at h
   obtain⟨o,ho,hle,hsh,hv⟩:=h
   simp only[QZ,hs ho]
   by_cases hk:id < k
   ·rw[if_pos hk]
    simp only[Ak]
    refine⟨so id o,by rw[hget,ho];rfl,by simp only[so,EX,hk,if_true];exact hle,hsh,fun hg=>?_⟩
    simp only[so,EX,hk,if_true] at hg
    obtain⟨a1,a2,a3⟩:=hv hg
    exact⟨by simpa [so,EX] using a1,a2,a3⟩
   ·rw[if_neg hk]
    split
    ·rename_i e
     obtain⟨a1,a2,a3⟩:=hv e
     simp only[Ak]
     exact⟨so id o,by rw[hget,ho];rfl,Nat.zero_le _,hsh,fun _=>⟨by simpa [so,EX] using a1,a2,a3⟩⟩
    ·simp[Ak]
  | fn f caps=>simp[QZ,Ak]
  | agg cs=>simp[QZ,Ak]
  | CO cs=>simp[QZ,Ak]
  | _=>simp only[QZ,Ak] at h ⊢ <;> exact h
 have h1 :∀x v,Ak F w os x v→Ak F w os2 (Ps k st x) v:=Ij h0'
 have hL :∀cs us,Bd F w os cs us→Bd F w os2 (cs.map (Ps k st)) us:=fun cs us h=>
  C8 (by simp[BP h]) fun i x u hx hu=>by
   simp only[List.getElem?_map,Option.map_eq_some_iff] at hx
   obtain⟨y,hy,rfl⟩:=hx
   obtain⟨u',hu',hr'⟩:=Bq h i y hy
   rw[hu'] at hu;cases hu
   exact h1 _ _ hr'
 have hb :∀x v,Ak F w os x v→Ak F w os2 (rk k st x) v:=fun x v h=>by
  cases x with
  | fn f cs=>simp only[rk,Ak] at h ⊢;obtain⟨us,e,hl⟩:=h;exact⟨us,e,hL _ _ hl⟩
  | agg cs=>simp only[rk,Ak] at h ⊢;obtain⟨us,e,hl⟩:=h;exact⟨us,e,hL _ _ hl⟩
  | CO cs=>simp only[rk,Ak] at h ⊢;obtain⟨us,e,hl⟩:=h;exact⟨us,e,hL _ _ hl⟩
  | _=>exact h1 _ _ h
 have hst2:os2.map Own.row=st.mapIdx (EX k st):=by
  apply List.ext_getElem?
  intro i
  have e1:st[i]?=(os[i]?).map Own.row:=by rw[← hst0,List.getElem?_map]
  rw[List.getElem?_map,hget,List.getElem?_mapIdx,e1]
  cases os[i]? <;> rfl
 refine⟨F,os2,⟨hst2,fun t=>hb _ _ (hr.env t),hr.size,fun i o ho=>?_,fun i j oi' oj' b hi hj hbi hbj=>?_,hr.E6,hr.defers⟩,⟨rfl,rfl,rfl,Nat.le_refl _,fun _ h=>h,fun _ _=>rfl,fun b _ h1 h2=>⟨rfl,h1,fun o ho=>?_⟩,fun i o hi ho=>⟨so i o,by rw[hget,ho];rfl,by simp[so,EX,hi],rfl,fun _=>⟨rfl,rfl,by simp[so,EX]⟩⟩⟩⟩
 ·rw[hget,Option.map_eq_some_iff] at ho
  obtain⟨o0,ho0,rfl⟩:=ho
  have hok:=hr.rows i o0 ho0
  have hm:(so i o0).row∈st.mapIdx (EX k st):=by
   rw[← hst2]
   exact List.mem_map.2 ⟨so i o0,List.mem_of_getElem? (by rw[hget,ho0];rfl),rfl⟩
  refine⟨hok.pos,fun x hx=>⟨?_,hl _ hm x hx⟩,fun hbn=>?_,fun b hbb=>?_,hok.mo,hok.deep.mapped (Ps k st) (fun _ _ _ _ h=>Xk h) rfl rfl rfl rfl⟩
  ·simp only[so,EX,List.mem_map] at hx
   obtain⟨y,hy,rfl⟩:=hx
   simpa [so,EX] using (hok.lens y hy).1
  ·obtain⟨h1,h2⟩:=hok.none hbn
   exact⟨by simp[so,EX,h1],h2⟩
  ·obtain⟨g1,cur,h2,h3,h4,h5,h6⟩:=hok.some b hbb
   refine⟨g1,cur,h2,h3,by simpa [so,EX] using h4,h5,fun i' x hx j c hc=>?_⟩
   simp only[so,EX,List.getElem?_map,Option.map_eq_some_iff] at hx
   obtain⟨y,hy,rfl⟩:=hx
   simp only[List.getElem?_map,Option.map_eq_some_iff] at hc
   obtain⟨c0,hc0,rfl⟩:=hc
   obtain⟨u,e1,e2⟩:=h6 i' y hy j c0 hc0
   exact⟨u,e1,h1 _ _ e2⟩
 ·rw[hget,Option.map_eq_some_iff] at hi hj
  obtain⟨o1,ho1,rfl⟩:=hi
  obtain⟨o2,ho2,rfl⟩:=hj
  exact hr.inj i j o1 o2 b ho1 ho2 hbi hbj
 ·obtain⟨i,hi⟩:=List.mem_iff_getElem?.1 ho
  rw[hget,Option.map_eq_some_iff] at hi
  obtain⟨o0,h0,rfl⟩:=hi
  exact h2 o0 (List.mem_of_getElem? h0)
inductive KR (m:Nat) (st:List Row):Nat→List Row→List Row→Prop
 | nil {i:Nat}:KR m st i [] []
 | deep {i g g' size:Nat} {el:TypeId} {xs:List (List AV)} {r r':List Row} (hg:g'=if i < m then g else 0) (hp:Cr xs) (hl:KR m st (i+1) r r'):KR m st i (⟨g,el,size,xs⟩ :: r) (⟨g',el,size,xs⟩ :: r')
 | raw {i g g' size:Nat} {el:TypeId} {cs cs':List AV} {r r':List Row} (hg:g'=if i < m then g else 0) (hc:cs.map (Ps m st)=cs') (hp:cs'.all AV.leaf=true) (hl:KR m st (i+1) r r'):KR m st i (⟨g,el,size,[cs]⟩ :: r) (⟨g',el,size,[cs']⟩ :: r')
theorem KR.pure {m:Nat} {st:List Row} {i g g' size:Nat} {el:TypeId} {xs:List (List AV)} {r r':List Row} (hg:g'=if i < m then g else 0) (hp:DA xs) (hl:KR m st (i+1) r r'):KR m st i (⟨g,el,size,xs⟩ :: r) (⟨g',el,size,xs⟩ :: r'):=.deep hg hp.any hl
theorem Sl {m:Nat} {st:List Row} {c:AV} (h:D1 c=true):Ps m st c=c:=by cases c <;> simp[D1,simple,Ps,two,QZ] at h ⊢
theorem KR.spec {m:Nat} {st st0:List Row} (hle :∀row∈st0,∀x∈row.xs,∀c∈x,c.kept=true) :∀{i:Nat} {l l':List Row},KR m st i l l'→(∀row∈l,row∈st0)→l.mapIdx (fun j=>EX m st (i+j))=l'∧GP l'
 | _,_,_,.nil,_=>⟨rfl,fun _ h=>by cases h⟩
 | i,_,_,.deep (r:=r) hg hp hl,hm=>by
  obtain⟨h1,h2⟩:=KR.spec hle hl (fun row h=>hm row (List.mem_cons_of_mem _ h))
  have hlf:=hle _ (hm _ (List.mem_cons_self ..))
  refine⟨?_,?_⟩
  ·rw[List.mapIdx_cons]
   have e:(fun j=>EX m st (i+(j+1)))=fun j=>EX m st (i+1+j):=by funext j;congr 1;omega
   rw[e,h1]
   congr 1
   subst hg
   simp only[EX,Nat.add_zero]
   congr 1
   refine (List.map_congr_left (g:=fun x=>x) fun x hx=>?_).trans (List.map_id _)
   refine (List.map_congr_left (g:=fun x=>x) fun c hc=>?_).trans (List.map_id _)
   exact Sl (hp x hx c hc)
  ·intro row hrow
   rcases List.mem_cons.1 hrow with rfl | h
   ·exact hlf
   ·exact h2 row h
 | i,_,_,.raw hg hc hp hl,hm=>by
  obtain⟨h1,h2⟩:=KR.spec hle hl (fun row h=>hm row (List.mem_cons_of_mem _ h))
  refine⟨?_,?_⟩
  ·rw[List.mapIdx_cons]
   have e:(fun j=>EX m st (i+(j+1)))=fun j=>EX m st (i+1+j):=by funext j;congr 1;omega
   rw[e,h1]
   subst hg
   simp only[EX,Nat.add_zero,List.map_cons,List.map_nil,hc]
  ·intro row hrow
   rcases List.mem_cons.1 hrow with rfl | h
   ·intro x hx c hcx
    simp only[List.mem_singleton] at hx
    subst hx
    exact CP (List.all_eq_true.1 hp c hcx)
   ·exact h2 row h
theorem CA {n:Nat} {e:Nat→AV} {st st':List Row} {L:List (Nat×AV)} (hg:KR k st 0 st st') (h:ME (fun t=>Abs.rk k st (e t)) L):Wk k ⟨n,e,st⟩ ⟨n,Aa L,st'⟩:=fun F os a w hr=>by
 obtain⟨h1,h2⟩:=hg.spec (st0:=st) (MP hr) (fun _ h=>h)
 simp only[Nat.zero_add] at h1
 have h3:=Wk.XH (k:=k) (n:=n) (e:=e) (st:=st) (by rw[h1];exact h2)
 rw[h1] at h3
 exact (h3.trans (Ah h)) F os a w hr
end Go.Abs

