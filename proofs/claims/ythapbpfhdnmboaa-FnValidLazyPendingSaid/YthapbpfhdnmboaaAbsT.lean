import Derived.Test.YthapbpfhdnmboaaAbsP

namespace Go.Abs
open Go
variable {P : Program} {F : Nat → Prop} {os : List Ai} {s : St} {a : Act} {w : World} {k : Nat}
def PK (m:Nat):AV→Bool
 | .own id _ _ | .ptr id _ _ _=>decide (id < m)
 | .fn .. | .agg _ | .BI _=>false
 | _=>true
def under (m:Nat):AV→Bool
 | .fn _ cs | .agg cs | .BI cs=>cs.all (PK m)
 | v=>PK m v
section
variable {ops : Array Oper} {Q : Exit → St → Prop} {ds : List (Option Tmp)} {r : List Oper} {n : Nat} {e : Nat → AV} {st st' : List Row} {ty : TypeId} {ps : String} {ed : Array Edge} {d : Option Tmp} {v v' : AV} {gd : Option (Nat × Bool)}
variable {f : FuncId} {ars : Array Operand} {ts : Array TypeId} {args : List AV} {rows0 rows1 rows2 rest : List Row}
end
def BM (Ab:List Nat) (row:Row):Row:={ row with xs:=row.xs.map (·.map (E7 Ab)) }
theorem Wk.QB {n:Nat} {e:Nat→AV} {st:List Row} (Ab:List Nat) (hk:Ab.take k=List.range k) (hnd:Ab.Nodup) (hlt :∀i∈Ab,i < st.length) (hl:Du ((Bl st Ab).map (BM Ab))) :
  Wk k ⟨n,e,st⟩ ⟨n,fun t=>Fv Ab (e t),(Bl st Ab).map (BM Ab)⟩:=fun F os a w hr=>by
 have hlen:st.length=os.length:=hr.len
 have hk' :∀i,i < k→Ab[i]?=some i:=fun i hi=>by
  have h1:(Ab.take k)[i]?=some i:=by rw[hk];simp[hi]
  rw[List.getElem?_take] at h1
  simpa [hi] using h1
 have hos1 :∀(j id:Nat),Ab[j]?=some id→(Ab.filterMap (os[·]?))[j]?=os[id]?:=by
  have :∀(l:List Nat),(∀i∈l,i < os.length)→∀(j id:Nat),l[j]?=some id→(l.filterMap (os[·]?))[j]?=os[id]?:=fun l=>by
   induction l with
   | nil=>intro _ j id h;simp at h
   | cons i l ih=>
    intro hl j id h
    have hi:=hl i (by simp)
    rw[List.filterMap_cons,List.getElem?_eq_getElem hi]
    cases j with
    | zero=>simp only[List.getElem?_cons_zero,Option.some.injEq] at h;subst h;simp[List.getElem?_eq_getElem hi]
    | succ j=>simp only[List.getElem?_cons_succ] at h ⊢;exact ih (fun x hx=>hl x (by simp[hx])) j id h
  exact this Ab (fun i hi=>by rw[← hlen];exact hlt i hi)
 let so:Ai→Ai:=fun o=>{ o with row:=BM Ab o.row }
 let os2:=(Ab.filterMap (os[·]?)).map so
 have hl2:(Ab.filterMap (os[·]?)).length=Ab.length:=by
  have :∀(l:List Nat),(∀i∈l,i < os.length)→(l.filterMap (os[·]?)).length=l.length:=fun l=>by
   induction l with
   | nil=>simp
   | cons i l ih=>intro hl;rw[List.filterMap_cons,List.getElem?_eq_getElem (hl i (by simp))];simp[ih (fun x hx=>hl x (by simp[hx]))]
  exact this Ab (fun i hi=>by rw[← hlen];exact hlt i hi)
 have hget :∀(j:Nat) (o:Ai),os2[j]?=some o→∃id o0,Ab[j]?=some id∧os[id]?=some o0∧o=so o0:=fun j o h=>by
  simp only[os2,List.getElem?_map,Option.map_eq_some_iff] at h
  obtain⟨o0,h0,rfl⟩:=h
  have hj:j < Ab.length:=by rw[← hl2];exact (List.getElem?_eq_some_iff.1 h0).1
  refine⟨Ab[j],o0,List.getElem?_eq_getElem hj,?_,rfl⟩
  rw[← hos1 j _ (List.getElem?_eq_getElem hj)];exact h0
 have hren0 :∀x v,AT F w os x v→AT F w os2 (Dk Ab x) v:=fun x v h=>by
  have hidx :∀id j,idx Ab id=some j→os2[j]?=(os[id]?).map so:=fun id j hj=>by
   unfold idx at hj
   rw[List.findIdx?_eq_some_iff_getElem] at hj
   obtain⟨h1,h2,_⟩:=hj
   simp only[os2,List.getElem?_map]
   rw[hos1 j id (by rw[List.getElem?_eq_getElem h1];simpa using h2)]
  cases x with
  | own id g n=>
   simp only[Dk]
   split
   ·rename_i j hj
    simp only[AT] at h ⊢
    obtain⟨o,h1,h2,h3,h4⟩:=h
    exact⟨so o,by rw[hidx id j hj,h1];rfl,h2,h3,fun hg=>by
     obtain⟨a1,a2⟩:=h4 hg
     exact⟨by simpa [so,BM] using a1,by simpa [so,BM] using a2⟩⟩
   ·simp[AT]
  | ptr id g i off=>
   simp only[Dk]
   split
   ·rename_i j hj
    simp only[AT] at h ⊢
    obtain⟨o,h1,h2,h3,h4⟩:=h
    exact⟨so o,by rw[hidx id j hj,h1];rfl,h2,h3,fun hg=>by
     obtain⟨a1,a2,a3⟩:=h4 hg
     exact⟨by simpa [so,BM] using a1,a2,a3⟩⟩
   ·simp[AT]
  | fn f cs=>simp[Dk,AT]
  | agg cs=>simp[Dk,AT]
  | BI cs=>simp[Dk,AT]
  | _=>simp only[Dk,AT] at h ⊢ <;> exact h
 have hren1 :∀x v,AT F w os x v→AT F w os2 (E7 Ab x) v:=FO hren0
 have hrenL :∀cs us,Ay F w os cs us→Ay F w os2 (cs.map (E7 Ab)) us:=fun cs us h=>
  Bg (by simp[Ao h]) fun i x u hx hu=>by
   simp only[List.getElem?_map,Option.map_eq_some_iff] at hx
   obtain⟨y,hy,rfl⟩:=hx
   obtain⟨u',hu',hr'⟩:=A6 h i y hy
   rw[hu'] at hu;cases hu
   exact hren1 _ _ hr'
 have hren :∀x v,AT F w os x v→AT F w os2 (Fv Ab x) v:=fun x v h=>by
  cases x with
  | fn f cs=>simp only[Fv,AT] at h ⊢;obtain⟨us,e,hl⟩:=h;exact⟨us,e,hrenL _ _ hl⟩
  | agg cs=>simp only[Fv,AT] at h ⊢;obtain⟨us,e,hl⟩:=h;exact⟨us,e,hrenL _ _ hl⟩
  | BI cs=>simp only[Fv,AT] at h ⊢;obtain⟨us,e,hl⟩:=h;exact⟨us,e,hrenL _ _ hl⟩
  | _=>exact hren1 _ _ h
 have hstR:os2.map Ai.row=(Bl st Ab).map (BM Ab):=by
  have h0:os.map Ai.row=st:=hr.st
  simp only[os2,Bl,← h0,List.map_map,List.map_filterMap]
  congr 1
  funext i
  simp only[List.getElem?_map]
  cases os[i]? <;> rfl
 refine⟨F,os2,⟨hstR,fun t=>hren _ _ (hr.env t),hr.size,fun j o ho=>?_,fun i j oi oj b hi hj hbi hbj=>?_,hr.DB,hr.defers⟩,⟨rfl,rfl,rfl,Nat.le_refl _,fun _ h=>h,fun _ _=>rfl,fun b _ h1 h2=>⟨rfl,h1,fun o ho=>?_⟩,fun i o hi ho=>⟨so o,?_,Nat.le_refl _,rfl,fun _=>⟨rfl,rfl,by simp[so,BM]⟩⟩⟩⟩
 ·have hrow:o.row∈(Bl st Ab).map (BM Ab):=by rw[← hstR];exact List.mem_map.2 ⟨o,List.mem_of_getElem? ho,rfl⟩
  obtain⟨id,o0,hid,ho0,rfl⟩:=hget j o ho
  have hok:=hr.rows id o0 ho0
  refine⟨hok.pos,fun x hx=>⟨?_,hl _ hrow x hx⟩,fun hb=>?_,fun b hb=>?_,hok.mo,hok.deep.mapped (E7 Ab) (fun _ _ _ _ h=>Nn h) rfl rfl rfl rfl⟩
  ·simp only[so,BM,List.mem_map] at hx
   obtain⟨y,hy,rfl⟩:=hx
   simpa [so,BM] using (hok.lens y hy).1
  ·obtain⟨h1,h2⟩:=hok.none hb
   exact⟨by simp[so,BM,h1],h2⟩
  ·obtain⟨h1,cur,h2,h3,h4,h5,h6⟩:=hok.some b hb
   refine⟨h1,cur,h2,h3,by simpa [so,BM] using h4,h5,fun i x hx j' c hc=>?_⟩
   simp only[so,BM,List.getElem?_map,Option.map_eq_some_iff] at hx
   obtain⟨y,hy,rfl⟩:=hx
   simp only[List.getElem?_map,Option.map_eq_some_iff] at hc
   obtain⟨c0,hc0,rfl⟩:=hc
   obtain⟨u,e1,e2⟩:=h6 i y hy j' c0 hc0
   exact⟨u,e1,hren1 _ _ e2⟩
 ·obtain⟨id,o0,hid,ho0,rfl⟩:=hget i oi hi
  obtain⟨id',o0',hid',ho0',rfl⟩:=hget j oj hj
  have he:=hr.inj id id' o0 o0' b ho0 ho0' hbi hbj
  subst he
  obtain⟨hi1,hi2⟩:=List.getElem?_eq_some_iff.1 hid
  obtain⟨hj1,hj2⟩:=List.getElem?_eq_some_iff.1 hid'
  have hp:=List.pairwise_iff_getElem.1 hnd
  rcases Nat.lt_trichotomy i j with h | h | h
  ·exact absurd (hi2.trans hj2.symm) (hp i j hi1 hj1 h)
  ·exact h
  ·exact absurd (hj2.trans hi2.symm) (hp j i hj1 hi1 h)
 ·simp only[os2,List.mem_map,List.mem_filterMap] at ho
  obtain⟨o0,⟨i,_,hi⟩,rfl⟩:=ho
  exact h2 o0 (List.mem_of_getElem? hi)
 ·simp only[os2,List.getElem?_map]
  rw[hos1 i i (hk' i hi),ho]
  rfl
theorem Wk.Sp {n:Nat} {e:Nat→AV} {st st':List Row} {L:List (Nat×AV)} (Ab:List Nat) (hk:Ab.take k=List.range k) (hnd:Ab.Nodup) (hlt:Ab.all (· < st.length)=true)
  (hst:(Bl st Ab).map (BM Ab)=st') (hl:Du st') (h:ME (fun t=>Fv Ab (e t)) L):Wk k ⟨n,e,st⟩ ⟨n,AM L,st'⟩:=by
 subst hst
 exact (Wk.QB Ab hk hnd (fun i hi=>by simpa using List.all_eq_true.1 hlt i hi) hl).trans (AF h)
inductive SR (Ab:List Nat):List Row→List Row→Prop
 | nil:SR Ab [] []
 | deep {g size:Nat} {el:TypeId} {xs:List (List AV)} {r r':List Row} (hp:Ba xs) (hl:SR Ab r r'):SR Ab (⟨g,el,size,xs⟩ :: r) (⟨g,el,size,xs⟩ :: r')
 | raw {g size:Nat} {el:TypeId} {cs cs':List AV} {r r':List Row} (hc:cs.map (E7 Ab)=cs') (hp:cs'.all AV.leaf=true) (hl:SR Ab r r'):SR Ab (⟨g,el,size,[cs]⟩ :: r) (⟨g,el,size,[cs']⟩ :: r')
 | hol {g size i:Nat} {el:TypeId} {zs:List (List AV)} {x x':List AV} {r r':List Row} (hp:Ba zs) (hz :∀z∈zs,z.all AV.kept=true) (hc:x.map (E7 Ab)=x') (hk:x'.all AV.kept=true) (hl:SR Ab r r'):SR Ab (⟨g,el,size,zs.set i x⟩ :: r) (⟨g,el,size,zs.set i x'⟩ :: r')
theorem SR.pure {Ab:List Nat} {g size:Nat} {el:TypeId} {xs:List (List AV)} {r r':List Row} (hp:DC xs) (hl:SR Ab r r'):SR Ab (⟨g,el,size,xs⟩ :: r) (⟨g,el,size,xs⟩ :: r'):=.deep hp.any hl
theorem IC {Ab:List Nat} {c:AV} (h:CP c=true):E7 Ab c=c:=by cases c <;> simp[CP,simple,E7,two,Dk] at h ⊢
theorem SR.spec {Ab:List Nat} {st0:List Row} (hle :∀row∈st0,∀x∈row.xs,∀c∈x,c.kept=true) :∀{l l':List Row},SR Ab l l'→(∀row∈l,row∈st0)→l.map (BM Ab)=l'∧Du l'
 | _,_,.nil,_=>⟨rfl,fun _ h=>by cases h⟩
 | _,_,.deep hp hl,hm=>by
  obtain⟨h1,h2⟩:=SR.spec hle hl (fun row h=>hm row (List.mem_cons_of_mem _ h))
  have hlf:=hle _ (hm _ (List.mem_cons_self ..))
  refine⟨?_,?_⟩
  ·simp only[List.map_cons,h1]
   congr 1
   simp only[BM]
   congr 1
   refine (List.map_congr_left (g:=id) fun x hx=>?_).trans (List.map_id _)
   refine (List.map_congr_left (g:=id) fun c hc=>?_).trans (List.map_id _)
   exact IC (hp x hx c hc)
  ·intro row hrow
   rcases List.mem_cons.1 hrow with rfl | h
   ·exact hlf
   ·exact h2 row h
 | _,_,.raw hc hp hl,hm=>by
  obtain⟨h1,h2⟩:=SR.spec hle hl (fun row h=>hm row (List.mem_cons_of_mem _ h))
  refine⟨?_,?_⟩
  ·simp only[List.map_cons,h1,BM,List.map_nil,hc]
  ·intro row hrow
   rcases List.mem_cons.1 hrow with rfl | h
   ·intro x hx c hcx
    simp only[List.mem_singleton] at hx
    subst hx
    exact B0 (List.all_eq_true.1 hp c hcx)
   ·exact h2 row h
 | _,_,.hol (zs:=zs) (i:=i) hp hz hc hk hl,hm=>by
  obtain⟨h1,h2⟩:=SR.spec hle hl (fun row h=>hm row (List.mem_cons_of_mem _ h))
  refine⟨?_,?_⟩
  ·simp only[List.map_cons,h1,BM,List.map_set,hc]
   congr 3
   refine (List.map_congr_left (g:=id) fun x hx=>?_).trans (List.map_id _)
   refine (List.map_congr_left (g:=id) fun c hc=>?_).trans (List.map_id _)
   exact IC (hp x hx c hc)
  ·intro row hrow
   rcases List.mem_cons.1 hrow with rfl | h
   ·intro x hx c hcx
    rcases List.mem_or_eq_of_mem_set hx with hx | rfl
    ·exact List.all_eq_true.1 (hz x hx) c hcx
    ·exact List.all_eq_true.1 hk c hcx
   ·exact h2 row h
theorem H3 {n:Nat} {e:Nat→AV} {st:List Row} (hr:Rel F os ⟨n,e,st⟩ a w) :∀row∈st,∀x∈row.xs,∀c∈x,c.kept=true:=fun row hrow x hx c hc=>by
 have hst:=hr.st
 simp only at hst
 rw[← hst] at hrow
 obtain⟨o,ho,rfl⟩:=List.mem_map.1 hrow
 obtain⟨i,hi⟩:=List.mem_iff_getElem?.1 ho
 exact ((hr.rows i o hi).lens x hx).2 c hc
def LC (id g:Nat):AV→AV
 | .own id' g' n=>if id'=id∧g'=g then .own id (g+1) n else .own id' g' n
 | .ptr id' g' i off=>if id'=id∧g'=g then .ptr id (g+1) i off else .ptr id' g' i off
 | .fn .. | .agg _ | .BI _=>.CV
 | v=>v
def JQ (id g:Nat) (x:AV):AV:=two (LC id g) x
theorem Q8 {id g:Nat} {c:AV} {el s:Nat} {ys:List (List AV)} (h:JQ id g c=.dv el s ys):c=.dv el s ys:=by
 refine JF (X:=LC id g) (fun c h=>?_) h
 cases c <;> simp only[LC] at h <;> first | exact h | cases h | (repeat' split at h) <;> first | cases h | exact h
def bp (id g:Nat):AV→AV
 | .fn f cs=>.fn f (cs.map (JQ id g))
 | .agg cs=>.agg (cs.map (JQ id g))
 | .BI cs=>.BI (cs.map (JQ id g))
 | v=>JQ id g v
def GV (id g:Nat) (row:Row):Row:={ row with xs:=row.xs.map (·.map (JQ id g)) }
def PM (row:Row):Row:={ row with gen:=row.gen+1 }
theorem Wk.SL {n:Nat} {e:Nat→AV} {st:List Row} {id:Nat} {row:Row} (hrow:st[id]?=some row) (hl:Du (st.map (GV id row.gen))) :
  Wk k ⟨n,e,st⟩ ⟨n,fun t=>bp id row.gen (e t),(st.map (GV id row.gen)).modify id PM⟩:=fun F os a w hr=>by
 let so:Nat→Ai→Ai:=fun i o=>{ o with row:=if i=id then PM (GV id row.gen o.row) else GV id row.gen o.row }
 let os2:=os.mapIdx so
 have hst0:os.map Ai.row=st:=hr.st
 obtain⟨oi,hoi,hoir⟩ :∃o,os[id]?=some o∧o.row=row:=by
  rw[← hst0,List.getElem?_map,Option.map_eq_some_iff] at hrow
  exact hrow
 have hget :∀i,os2[i]?=(os[i]?).map (so i):=fun i=>by simp[os2]
 have hsx :∀i o,(so i o).row.xs=o.row.xs.map (·.map (JQ id row.gen)):=fun i o=>by
  simp only[so];split <;> rfl
 have hsz :∀i o,(so i o).row.size=o.row.size:=fun i o=>by simp only[so];split <;> rfl
 have hse :∀i o,(so i o).row.elem=o.row.elem:=fun i o=>by simp only[so];split <;> rfl
 have hsg :∀i o,(so i o).row.gen=if i=id then o.row.gen+1 else o.row.gen:=fun i o=>by simp only[so];split <;> rfl
 have hb0 :∀x v,AT F w os x v→AT F w os2 (LC id row.gen x) v:=fun x v h=>by
  cases x with
  | own id' g' n'=>
   simp only[AT] at h
   obtain⟨o,h1,h2,h3,h4⟩:=h
   simp only[LC]
   by_cases hc:id'=id∧g'=row.gen
   ·rw[if_pos hc]
    obtain⟨rfl,rfl⟩:=hc
    have:o=oi:=by rw[hoi] at h1;cases h1;rfl
    subst this
    simp only[AT]
    refine⟨so id' o,by rw[hget,hoi];rfl,by rw[hsg];simp[hoir],h3,fun _=>?_⟩
    obtain⟨a1,a2⟩:=h4 (by rw[hoir])
    exact⟨by rw[hsx];simpa using a1,by rw[hsx,hsz,List.length_map];exact a2⟩
   ·rw[if_neg hc]
    simp only[AT]
    refine⟨so id' o,by rw[hget,h1];rfl,by rw[hsg];split <;> omega,h3,fun hg=>?_⟩
    rw[hsg] at hg
    by_cases hi:id'=id
    ·subst hi
     rw[hoi] at h1;cases h1
     rw[if_pos rfl] at hg
     omega
    ·rw[if_neg hi] at hg
     obtain⟨a1,a2⟩:=h4 hg
     exact⟨by rw[hsx];simpa using a1,by rw[hsx,hsz,List.length_map];exact a2⟩
  | ptr id' g' i' off=>
   simp only[AT] at h
   obtain⟨o,h1,h2,h3,h4⟩:=h
   simp only[LC]
   by_cases hc:id'=id∧g'=row.gen
   ·rw[if_pos hc]
    obtain⟨rfl,rfl⟩:=hc
    have:o=oi:=by rw[hoi] at h1;cases h1;rfl
    subst this
    simp only[AT]
    refine⟨so id' o,by rw[hget,hoi];rfl,by rw[hsg];simp[hoir],h3,fun _=>?_⟩
    obtain⟨a1,a2,a3⟩:=h4 (by rw[hoir])
    exact⟨by rw[hsx];simpa using a1,by rw[hsz];exact a2,by rw[hsz];exact a3⟩
   ·rw[if_neg hc]
    simp only[AT]
    refine⟨so id' o,by rw[hget,h1];rfl,by rw[hsg];split <;> omega,h3,fun hg=>?_⟩
    rw[hsg] at hg
    by_cases hi:id'=id
    ·subst hi
     rw[hoi] at h1;cases h1
     rw[if_pos rfl] at hg
     omega
    ·rw[if_neg hi] at hg
     obtain⟨a1,a2,a3⟩:=h4 hg
     exact⟨by rw[hsx];simpa using a1,by rw[hsz];exact a2,by rw[hsz];exact a3⟩
  | fn f caps=>simp[LC,AT]
  | agg cs=>simp[LC,AT]
  | BI cs=>simp[LC,AT]
  | _=>simp only[LC,AT] at h ⊢ <;> exact h
 have hb1 :∀x v,AT F w os x v→AT F w os2 (JQ id row.gen x) v:=FO hb0
 have hbL :∀cs us,Ay F w os cs us→Ay F w os2 (cs.map (JQ id row.gen)) us:=fun cs us h=>
  Bg (by simp[Ao h]) fun i x u hx hu=>by
   simp only[List.getElem?_map,Option.map_eq_some_iff] at hx
   obtain⟨y,hy,rfl⟩:=hx
   obtain⟨u',hu',hr'⟩:=A6 h i y hy
   rw[hu'] at hu;cases hu
   exact hb1 _ _ hr'
 have hb :∀x v,AT F w os x v→AT F w os2 (bp id row.gen x) v:=fun x v h=>by
  cases x with
  | fn f cs=>simp only[bp,AT] at h ⊢;obtain⟨us,e,hl⟩:=h;exact⟨us,e,hbL _ _ hl⟩
  | agg cs=>simp only[bp,AT] at h ⊢;obtain⟨us,e,hl⟩:=h;exact⟨us,e,hbL _ _ hl⟩
  | BI cs=>simp only[bp,AT] at h ⊢;obtain⟨us,e,hl⟩:=h;exact⟨us,e,hbL _ _ hl⟩
  | _=>exact hb1 _ _ h
 have hst2:os2.map Ai.row=(st.map (GV id row.gen)).modify id PM:=by
  apply List.ext_getElem?
  intro i
  rw[List.getElem?_map,hget,List.getElem?_modify,List.getElem?_map,← hst0,List.getElem?_map]
  cases os[i]? with
  | none=>rfl
  | some o=>
   simp only[Option.map_some,so]
   by_cases hi:i=id
   ·simp[hi]
   ·have:¬ id=i:=fun h=>hi h.symm
    simp[hi,this]
 refine⟨F,os2,⟨hst2,fun t=>hb _ _ (hr.env t),hr.size,fun i o ho=>?_,fun i j oi' oj' b hi hj hbi hbj=>?_,hr.DB,hr.defers⟩,⟨rfl,rfl,rfl,Nat.le_refl _,fun _ h=>h,fun _ _=>rfl,fun b _ h1 h2=>⟨rfl,h1,fun o ho=>?_⟩,fun i o hi ho=>⟨so i o,by rw[hget,ho];rfl,by rw[hsg];split <;> omega,hsz i o,fun _=>⟨rfl,rfl,by rw[hsx];simp⟩⟩⟩⟩
 ·rw[hget,Option.map_eq_some_iff] at ho
  obtain⟨o0,ho0,rfl⟩:=ho
  have hok:=hr.rows i o0 ho0
  have hm:GV id row.gen o0.row∈st.map (GV id row.gen):=List.mem_map.2 ⟨o0.row,by rw[← hst0];exact List.mem_map.2 ⟨o0,List.mem_of_getElem? ho0,rfl⟩,rfl⟩
  refine⟨by rw[hsz];exact hok.pos,fun x hx=>?_,fun hbn=>?_,fun b hbb=>?_,hok.mo,hok.deep.mapped (JQ id row.gen) (fun _ _ _ _ h=>Q8 h) rfl rfl (hsz _ _) (hsx _ _)⟩
  ·rw[hsx] at hx
   refine⟨?_,hl _ hm x hx⟩
   obtain⟨y,hy,rfl⟩:=List.mem_map.1 hx
   rw[hsz,List.length_map];exact (hok.lens y hy).1
  ·obtain⟨h1,h2⟩:=hok.none hbn
   exact⟨by rw[hsx,h1];rfl,h2⟩
  ·obtain⟨h1,cur,h2,h3,h4,h5,h6⟩:=hok.some b hbb
   refine⟨h1,cur,by rw[hse];exact h2,by rw[hsz];exact h3,by rw[hsx,List.length_map];exact h4,h5,fun i' x hx j c hc=>?_⟩
   rw[hsx,List.getElem?_map,Option.map_eq_some_iff] at hx
   obtain⟨y,hy,rfl⟩:=hx
   rw[List.getElem?_map,Option.map_eq_some_iff] at hc
   obtain⟨c0,hc0,rfl⟩:=hc
   obtain⟨u,e1,e2⟩:=h6 i' y hy j c0 hc0
   exact⟨u,by rw[hsz];exact e1,hb1 _ _ e2⟩
 ·rw[hget,Option.map_eq_some_iff] at hi hj
  obtain⟨o1,ho1,rfl⟩:=hi
  obtain⟨o2,ho2,rfl⟩:=hj
  exact hr.inj i j o1 o2 b ho1 ho2 hbi hbj
 ·obtain⟨i,hi⟩:=List.mem_iff_getElem?.1 ho
  rw[hget,Option.map_eq_some_iff] at hi
  obtain⟨o0,h0,rfl⟩:=hi
  exact h2 o0 (List.mem_of_getElem? h0)
inductive BR (id g:Nat):List Row→List Row→Prop
 | nil:BR id g [] []
 | deep {g' size:Nat} {el:TypeId} {xs:List (List AV)} {r r':List Row} (hp:Ba xs) (hl:BR id g r r'):BR id g (⟨g',el,size,xs⟩ :: r) (⟨g',el,size,xs⟩ :: r')
 | raw {g' size:Nat} {el:TypeId} {cs cs':List AV} {r r':List Row} (hc:cs.map (JQ id g)=cs') (hp:cs'.all AV.leaf=true) (hl:BR id g r r'):BR id g (⟨g',el,size,[cs]⟩ :: r) (⟨g',el,size,[cs']⟩ :: r')
theorem BR.pure {id g:Nat} {g' size:Nat} {el:TypeId} {xs:List (List AV)} {r r':List Row} (hp:DC xs) (hl:BR id g r r'):BR id g (⟨g',el,size,xs⟩ :: r) (⟨g',el,size,xs⟩ :: r'):=.deep hp.any hl
theorem Mr {id g:Nat} {c:AV} (h:CP c=true):JQ id g c=c:=by cases c <;> simp[CP,simple,JQ,two,LC] at h ⊢
theorem BR.spec {id g:Nat} {st0:List Row} (hle :∀row∈st0,∀x∈row.xs,∀c∈x,c.kept=true) :∀{l l':List Row},BR id g l l'→(∀row∈l,row∈st0)→l.map (GV id g)=l'∧Du l'
 | _,_,.nil,_=>⟨rfl,fun _ h=>by cases h⟩
 | _,_,.deep hp hl,hm=>by
  obtain⟨h1,h2⟩:=BR.spec hle hl (fun row h=>hm row (List.mem_cons_of_mem _ h))
  have hlf:=hle _ (hm _ (List.mem_cons_self ..))
  refine⟨?_,?_⟩
  ·simp only[List.map_cons,h1]
   congr 1
   simp only[GV]
   congr 1
   refine (List.map_congr_left (g:=fun x=>x) fun x hx=>?_).trans (List.map_id _)
   refine (List.map_congr_left (g:=fun x=>x) fun c hc=>?_).trans (List.map_id _)
   exact Mr (hp x hx c hc)
  ·intro row hrow
   rcases List.mem_cons.1 hrow with rfl | h
   ·exact hlf
   ·exact h2 row h
 | _,_,.raw hc hp hl,hm=>by
  obtain⟨h1,h2⟩:=BR.spec hle hl (fun row h=>hm row (List.mem_cons_of_mem _ h))
  refine⟨?_,?_⟩
  ·simp only[List.map_cons,h1,GV,List.map_nil,hc]
  ·intro row hrow
   rcases List.mem_cons.1 hrow with rfl | h
   ·intro x hx c hcx
    simp only[List.mem_singleton] at hx
    subst hx
    exact B0 (List.all_eq_true.1 hp c hcx)
   ·exact h2 row h
theorem LJ {n:Nat} {e:Nat→AV} {st st1 st':List Row} {L:List (Nat×AV)} (id:Nat) {row:Row} (hrow:st[id]?=some row) (hb:BR id row.gen st st1) (hst:st1.modify id PM=st') (h:ME (fun t=>bp id row.gen (e t)) L):Wk k ⟨n,e,st⟩ ⟨n,AM L,st'⟩:=fun F os a w hr=>by
 obtain⟨h1,h2⟩:=hb.spec (st0:=st) (H3 hr) (fun _ h=>h)
 have h3:=Wk.SL (k:=k) (n:=n) (e:=e) hrow (by rw[h1];exact h2)
 rw[h1,hst] at h3
 exact (h3.trans (AF h)) F os a w hr
def I4 (m:Nat) (st:List Row):AV→AV
 | .own id g n=>if id < m then .own id g n else match st[id]? with
  | some row=>if row.gen=g then .own id 0 n else .CV
  | none=>.CV
 | .ptr id g i off=>if id < m then .ptr id g i off else match st[id]? with
  | some row=>if row.gen=g then .ptr id 0 i off else .CV
  | none=>.CV
 | .fn .. | .agg _ | .BI _=>.CV
 | v=>v
def J2 (m:Nat) (st:List Row) (x:AV):AV:=two (I4 m st) x
theorem RF {m:Nat} {st:List Row} {c:AV} {el s:Nat} {ys:List (List AV)} (h:J2 m st c=.dv el s ys):c=.dv el s ys:=by
 refine JF (X:=I4 m st) (fun c h=>?_) h
 cases c <;> simp only[I4] at h <;> first | exact h | cases h | (repeat' split at h) <;> first | cases h | exact h
def rk (m:Nat) (st:List Row):AV→AV
 | .fn f cs=>.fn f (cs.map (J2 m st))
 | .agg cs=>.agg (cs.map (J2 m st))
 | .BI cs=>.BI (cs.map (J2 m st))
 | v=>J2 m st v
def CZ (m:Nat) (st:List Row) (i:Nat) (row:Row):Row:={ row with gen:=if i < m then row.gen else 0,xs:=row.xs.map (·.map (J2 m st)) }
theorem Wk.RK {n:Nat} {e:Nat→AV} {st:List Row} (hl:Du (st.mapIdx (CZ k st))):Wk k ⟨n,e,st⟩ ⟨n,fun t=>rk k st (e t),st.mapIdx (CZ k st)⟩:=fun F os a w hr=>by
 let so:Nat→Ai→Ai:=fun i o=>{ o with row:=CZ k st i o.row }
 let os2:=os.mapIdx so
 have hst0:os.map Ai.row=st:=hr.st
 have hget :∀i,os2[i]?=(os[i]?).map (so i):=fun i=>by simp[os2]
 have hs :∀{id:Nat} {o:Ai},os[id]?=some o→st[id]?=some o.row:=fun {id o} ho=>by rw[← hst0,List.getElem?_map,ho];rfl
 have h0' :∀x v,AT F w os x v→AT F w os2 (I4 k st x) v:=fun x v h=>by
  cases x with
  | own id g n'=>
   simp only[AT] at h
   obtain⟨o,ho,hle,hsh,hv⟩:=h
   simp only[I4,hs ho]
   by_cases hk:id < k
   ·rw[if_pos hk]
    simp only[AT]
    refine⟨so id o,by rw[hget,ho];rfl,by simp only[so,CZ,hk,if_true];exact hle,hsh,fun hg=>?_⟩
    simp only[so,CZ,hk,if_true] at hg
    obtain⟨a1,a2⟩:=hv hg
    exact⟨by simpa [so,CZ] using a1,by simpa [so,CZ] using a2⟩
   ·rw[if_neg hk]
    split
    ·rename_i e
     obtain⟨a1,a2⟩:=hv e
     simp only[AT]
     exact⟨so id o,by rw[hget,ho];rfl,Nat.zero_le _,hsh,fun _=>⟨by simpa [so,CZ] using a1,by simpa [so,CZ] using a2⟩⟩
    ·simp[AT]
  | ptr id g i off=>
   simp only[AT] at h
   obtain⟨o,ho,hle,hsh,hv⟩:=h
   simp only[I4,hs ho]
   by_cases hk:id < k
   ·rw[if_pos hk]
    simp only[AT]
    refine⟨so id o,by rw[hget,ho];rfl,by simp only[so,CZ,hk,if_true];exact hle,hsh,fun hg=>?_⟩
    simp only[so,CZ,hk,if_true] at hg
    obtain⟨a1,a2,a3⟩:=hv hg
    exact⟨by simpa [so,CZ] using a1,a2,a3⟩
   ·rw[if_neg hk]
    split
    ·rename_i e
     obtain⟨a1,a2,a3⟩:=hv e
     simp only[AT]
     exact⟨so id o,by rw[hget,ho];rfl,Nat.zero_le _,hsh,fun _=>⟨by simpa [so,CZ] using a1,a2,a3⟩⟩
    ·simp[AT]
  | fn f caps=>simp[I4,AT]
  | agg cs=>simp[I4,AT]
  | BI cs=>simp[I4,AT]
  | _=>simp only[I4,AT] at h ⊢ <;> exact h
 have h1 :∀x v,AT F w os x v→AT F w os2 (J2 k st x) v:=FO h0'
 have hL :∀cs us,Ay F w os cs us→Ay F w os2 (cs.map (J2 k st)) us:=fun cs us h=>
  Bg (by simp[Ao h]) fun i x u hx hu=>by
   simp only[List.getElem?_map,Option.map_eq_some_iff] at hx
   obtain⟨y,hy,rfl⟩:=hx
   obtain⟨u',hu',hr'⟩:=A6 h i y hy
   rw[hu'] at hu;cases hu
   exact h1 _ _ hr'
 have hb :∀x v,AT F w os x v→AT F w os2 (rk k st x) v:=fun x v h=>by
  cases x with
  | fn f cs=>simp only[rk,AT] at h ⊢;obtain⟨us,e,hl⟩:=h;exact⟨us,e,hL _ _ hl⟩
  | agg cs=>simp only[rk,AT] at h ⊢;obtain⟨us,e,hl⟩:=h;exact⟨us,e,hL _ _ hl⟩
  | BI cs=>simp only[rk,AT] at h ⊢;obtain⟨us,e,hl⟩:=h;exact⟨us,e,hL _ _ hl⟩
  | _=>exact h1 _ _ h
 have hst2:os2.map Ai.row=st.mapIdx (CZ k st):=by
  apply List.ext_getElem?
  intro i
  have e1:st[i]?=(os[i]?).map Ai.row:=by rw[← hst0,List.getElem?_map]
  rw[List.getElem?_map,hget,List.getElem?_mapIdx,e1]
  cases os[i]? <;> rfl
 refine⟨F,os2,⟨hst2,fun t=>hb _ _ (hr.env t),hr.size,fun i o ho=>?_,fun i j oi' oj' b hi hj hbi hbj=>?_,hr.DB,hr.defers⟩,⟨rfl,rfl,rfl,Nat.le_refl _,fun _ h=>h,fun _ _=>rfl,fun b _ h1 h2=>⟨rfl,h1,fun o ho=>?_⟩,fun i o hi ho=>⟨so i o,by rw[hget,ho];rfl,by simp[so,CZ,hi],rfl,fun _=>⟨rfl,rfl,by simp[so,CZ]⟩⟩⟩⟩
 ·rw[hget,Option.map_eq_some_iff] at ho
  obtain⟨o0,ho0,rfl⟩:=ho
  have hok:=hr.rows i o0 ho0
  have hm:(so i o0).row∈st.mapIdx (CZ k st):=by
   rw[← hst2]
   exact List.mem_map.2 ⟨so i o0,List.mem_of_getElem? (by rw[hget,ho0];rfl),rfl⟩
  refine⟨hok.pos,fun x hx=>⟨?_,hl _ hm x hx⟩,fun hbn=>?_,fun b hbb=>?_,hok.mo,hok.deep.mapped (J2 k st) (fun _ _ _ _ h=>RF h) rfl rfl rfl rfl⟩
  ·simp only[so,CZ,List.mem_map] at hx
   obtain⟨y,hy,rfl⟩:=hx
   simpa [so,CZ] using (hok.lens y hy).1
  ·obtain⟨h1,h2⟩:=hok.none hbn
   exact⟨by simp[so,CZ,h1],h2⟩
  ·obtain⟨g1,cur,h2,h3,h4,h5,h6⟩:=hok.some b hbb
   refine⟨g1,cur,h2,h3,by simpa [so,CZ] using h4,h5,fun i' x hx j c hc=>?_⟩
   simp only[so,CZ,List.getElem?_map,Option.map_eq_some_iff] at hx
   obtain⟨y,hy,rfl⟩:=hx
   simp only[List.getElem?_map,Option.map_eq_some_iff] at hc
   obtain⟨c0,hc0,rfl⟩:=hc
   obtain⟨u,e1,e2⟩:=h6 i' y hy j c0 hc0
   exact⟨u,e1,h1 _ _ e2⟩
 ·rw[hget,Option.map_eq_some_iff] at hi hj
  obtain⟨o1,ho1,rfl⟩:=hi
  obtain⟨o2,ho2,rfl⟩:=hj
  exact hr.inj i j o1 o2 b ho1 ho2 hbi hbj
 ·obtain⟨i,hi⟩:=List.mem_iff_getElem?.1 ho
  rw[hget,Option.map_eq_some_iff] at hi
  obtain⟨o0,h0,rfl⟩:=hi
  exact h2 o0 (List.mem_of_getElem? h0)
inductive KR (m:Nat) (st:List Row):Nat→List Row→List Row→Prop
 | nil {i:Nat}:KR m st i [] []
 | deep {i g g' size:Nat} {el:TypeId} {xs:List (List AV)} {r r':List Row} (hg:g'=if i < m then g else 0) (hp:Ba xs) (hl:KR m st (i+1) r r'):KR m st i (⟨g,el,size,xs⟩ :: r) (⟨g',el,size,xs⟩ :: r')
 | raw {i g g' size:Nat} {el:TypeId} {cs cs':List AV} {r r':List Row} (hg:g'=if i < m then g else 0) (hc:cs.map (J2 m st)=cs') (hp:cs'.all AV.leaf=true) (hl:KR m st (i+1) r r'):KR m st i (⟨g,el,size,[cs]⟩ :: r) (⟨g',el,size,[cs']⟩ :: r')
theorem KR.pure {m:Nat} {st:List Row} {i g g' size:Nat} {el:TypeId} {xs:List (List AV)} {r r':List Row} (hg:g'=if i < m then g else 0) (hp:DC xs) (hl:KR m st (i+1) r r'):KR m st i (⟨g,el,size,xs⟩ :: r) (⟨g',el,size,xs⟩ :: r'):=.deep hg hp.any hl
theorem Mj {m:Nat} {st:List Row} {c:AV} (h:CP c=true):J2 m st c=c:=by cases c <;> simp[CP,simple,J2,two,I4] at h ⊢
theorem KR.spec {m:Nat} {st st0:List Row} (hle :∀row∈st0,∀x∈row.xs,∀c∈x,c.kept=true) :∀{i:Nat} {l l':List Row},KR m st i l l'→(∀row∈l,row∈st0)→l.mapIdx (fun j=>CZ m st (i+j))=l'∧Du l'
 | _,_,_,.nil,_=>⟨rfl,fun _ h=>by cases h⟩
 | i,_,_,.deep (r:=r) hg hp hl,hm=>by
  obtain⟨h1,h2⟩:=KR.spec hle hl (fun row h=>hm row (List.mem_cons_of_mem _ h))
  have hlf:=hle _ (hm _ (List.mem_cons_self ..))
  refine⟨?_,?_⟩
  ·rw[List.mapIdx_cons]
   have e:(fun j=>CZ m st (i+(j+1)))=fun j=>CZ m st (i+1+j):=by funext j;congr 1;omega
   rw[e,h1]
   congr 1
   subst hg
   simp only[CZ,Nat.add_zero]
   congr 1
   refine (List.map_congr_left (g:=fun x=>x) fun x hx=>?_).trans (List.map_id _)
   refine (List.map_congr_left (g:=fun x=>x) fun c hc=>?_).trans (List.map_id _)
   exact Mj (hp x hx c hc)
  ·intro row hrow
   rcases List.mem_cons.1 hrow with rfl | h
   ·exact hlf
   ·exact h2 row h
 | i,_,_,.raw hg hc hp hl,hm=>by
  obtain⟨h1,h2⟩:=KR.spec hle hl (fun row h=>hm row (List.mem_cons_of_mem _ h))
  refine⟨?_,?_⟩
  ·rw[List.mapIdx_cons]
   have e:(fun j=>CZ m st (i+(j+1)))=fun j=>CZ m st (i+1+j):=by funext j;congr 1;omega
   rw[e,h1]
   subst hg
   simp only[CZ,Nat.add_zero,List.map_cons,List.map_nil,hc]
  ·intro row hrow
   rcases List.mem_cons.1 hrow with rfl | h
   ·intro x hx c hcx
    simp only[List.mem_singleton] at hx
    subst hx
    exact B0 (List.all_eq_true.1 hp c hcx)
   ·exact h2 row h
theorem Dc {n:Nat} {e:Nat→AV} {st st':List Row} {L:List (Nat×AV)} (hg:KR k st 0 st st') (h:ME (fun t=>Abs.rk k st (e t)) L):Wk k ⟨n,e,st⟩ ⟨n,AM L,st'⟩:=fun F os a w hr=>by
 obtain⟨h1,h2⟩:=hg.spec (st0:=st) (H3 hr) (fun _ h=>h)
 simp only[Nat.zero_add] at h1
 have h3:=Wk.RK (k:=k) (n:=n) (e:=e) (st:=st) (by rw[h1];exact h2)
 rw[h1] at h3
 exact (h3.trans (AF h)) F os a w hr
end Go.Abs

