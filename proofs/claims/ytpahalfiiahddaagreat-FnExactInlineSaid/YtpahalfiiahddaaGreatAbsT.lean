import Derived.Test.YtpahalfiiahddaaGreatAbsP

namespace Go.Abs
open Go
variable {P : Program} {F : Nat → Prop} {os : List Own} {s : St} {a : Act} {w : World} {k : Nat}
section
variable {ops : Array Oper} {Q : Exit → St → Prop} {ds : List (Option Tmp)} {r : List Oper} {n : Nat} {e : Nat → AV} {st st' : List Row} {ty : TypeId} {ps : String} {ed : Array Edge} {d : Option Tmp} {v v' : AV} {gd : Option (Nat × Bool)}
variable {f : FuncId} {ars : Array Operand} {ts : Array TypeId} {args : List AV} {rows0 rows1 rows2 rest : List Row}
end
def Bp (sel:List Nat) (row:Row):Row:={ row with xs:=row.xs.map (·.map (JH sel)) }
theorem Wk.bX {n:Nat} {e:Nat→AV} {st:List Row} (sel:List Nat) (hk:sel.take k=List.range k) (hnd:sel.Nodup) (hlt :∀i∈sel,i < st.length) (hl:Ko ((CG st sel).map (Bp sel))) :
  Wk k ⟨n,e,st⟩ ⟨n,fun t=>Jm sel (e t),(CG st sel).map (Bp sel)⟩:=fun F os a w hr=>by
 have hlen:st.length=os.length:=hr.len
 have hk' :∀i,i < k→sel[i]?=some i:=fun i hi=>by
  have h1:(sel.take k)[i]?=some i:=by rw[hk];simp[hi]
  rw[List.getElem?_take] at h1
  simpa [hi] using h1
 have hos1 :∀(j id:Nat),sel[j]?=some id→(sel.filterMap (os[·]?))[j]?=os[id]?:=by
  have :∀(l:List Nat),(∀i∈l,i < os.length)→∀(j id:Nat),l[j]?=some id→(l.filterMap (os[·]?))[j]?=os[id]?:=fun l=>by
   induction l with
   | nil=>intro _ j id h;simp at h
   | cons i l ih=>
    intro hl j id h
    have hi:=hl i (by simp)
    rw[List.filterMap_cons,List.getElem?_eq_getElem hi]
    cases j with
    | zero=>simp only[List.getElem?_cons_zero,Option.some.injEq] at h;subst h;simp[List.getElem?_eq_getElem hi]
    | succ j=>simp only[List.getElem?_cons_succ] at h ⊢;exact ih (fun x hx=>hl x (by simp[hx])) j id h
  exact this sel (fun i hi=>by rw[← hlen];exact hlt i hi)
 let so:Own→Own:=fun o=>{ o with row:=Bp sel o.row }
 let os2:=(sel.filterMap (os[·]?)).map so
 have hl2:(sel.filterMap (os[·]?)).length=sel.length:=by
  have :∀(l:List Nat),(∀i∈l,i < os.length)→(l.filterMap (os[·]?)).length=l.length:=fun l=>by
   induction l with
   | nil=>simp
   | cons i l ih=>intro hl;rw[List.filterMap_cons,List.getElem?_eq_getElem (hl i (by simp))];simp[ih (fun x hx=>hl x (by simp[hx]))]
  exact this sel (fun i hi=>by rw[← hlen];exact hlt i hi)
 have hget :∀(j:Nat) (o:Own),os2[j]?=some o→∃id o0,sel[j]?=some id∧os[id]?=some o0∧o=so o0:=fun j o h=>by
  simp only[os2,List.getElem?_map,Option.map_eq_some_iff] at h
  obtain⟨o0,h0,rfl⟩:=h
  have hj:j < sel.length:=by rw[← hl2];exact (List.getElem?_eq_some_iff.1 h0).1
  refine⟨sel[j],o0,List.getElem?_eq_getElem hj,?_,rfl⟩
  rw[← hos1 j _ (List.getElem?_eq_getElem hj)];exact h0
 have hren0 :∀x v,Ae F w os x v→Ae F w os2 (HI sel x) v:=fun x v h=>by
  have hidx :∀id j,idx sel id=some j→os2[j]?=(os[id]?).map so:=fun id j hj=>by
   unfold idx at hj
   rw[List.findIdx?_eq_some_iff_getElem] at hj
   obtain⟨h1,h2,_⟩:=hj
   simp only[os2,List.getElem?_map]
   rw[hos1 j id (by rw[List.getElem?_eq_getElem h1];simpa using h2)]
  cases x with
  | own id g n=>
   simp only[HI]
   split
   ·rename_i j hj
    simp only[Ae] at h ⊢
    obtain⟨o,h1,h2,h3,h4⟩:=h
    exact⟨so o,by rw[hidx id j hj,h1];rfl,h2,h3,fun hg=>by
     obtain⟨a1,a2⟩:=h4 hg
     exact⟨by simpa [so,Bp] using a1,by simpa [so,Bp] using a2⟩⟩
   ·simp[Ae]
  | ptr id g i off=>
   simp only[HI]
   split
   ·rename_i j hj
    simp only[Ae] at h ⊢
    obtain⟨o,h1,h2,h3,h4⟩:=h
    exact⟨so o,by rw[hidx id j hj,h1];rfl,h2,h3,fun hg=>by
     obtain⟨a1,a2,a3⟩:=h4 hg
     exact⟨by simpa [so,Bp] using a1,a2,a3⟩⟩
   ·simp[Ae]
  | fn f cs=>simp[HI,Ae]
  | agg cs=>simp[HI,Ae]
  | DE cs=>simp[HI,Ae]
  | _=>simp only[HI,Ae] at h ⊢ <;> exact h
 have hren1 :∀x v,Ae F w os x v→Ae F w os2 (JH sel x) v:=MT hren0
 have hrenL :∀cs us,BG F w os cs us→BG F w os2 (cs.map (JH sel)) us:=fun cs us h=>
  Cv (by simp[A6 h]) fun i x u hx hu=>by
   simp only[List.getElem?_map,Option.map_eq_some_iff] at hx
   obtain⟨y,hy,rfl⟩:=hx
   obtain⟨u',hu',hr'⟩:=BX h i y hy
   rw[hu'] at hu;cases hu
   exact hren1 _ _ hr'
 have hren :∀x v,Ae F w os x v→Ae F w os2 (Jm sel x) v:=fun x v h=>by
  cases x with
  | fn f cs=>simp only[Jm,Ae] at h ⊢;obtain⟨us,e,hl⟩:=h;exact⟨us,e,hrenL _ _ hl⟩
  | agg cs=>simp only[Jm,Ae] at h ⊢;obtain⟨us,e,hl⟩:=h;exact⟨us,e,hrenL _ _ hl⟩
  | DE cs=>simp only[Jm,Ae] at h ⊢;obtain⟨us,e,hl⟩:=h;exact⟨us,e,hrenL _ _ hl⟩
  | _=>exact hren1 _ _ h
 have hstR:os2.map Own.row=(CG st sel).map (Bp sel):=by
  have h0:os.map Own.row=st:=hr.st
  simp only[os2,CG,← h0,List.map_map,List.map_filterMap]
  congr 1
  funext i
  simp only[List.getElem?_map]
  cases os[i]? <;> rfl
 refine⟨F,os2,⟨hstR,fun t=>hren _ _ (hr.env t),hr.size,fun j o ho=>?_,fun i j oi oj b hi hj hbi hbj=>?_,hr.EO,hr.defers⟩,⟨rfl,rfl,rfl,Nat.le_refl _,fun _ h=>h,fun _ _=>rfl,fun b _ h1 h2=>⟨rfl,h1,fun o ho=>?_⟩,fun i o hi ho=>⟨so o,?_,Nat.le_refl _,rfl,fun _=>⟨rfl,rfl,by simp[so,Bp]⟩⟩⟩⟩
 ·have hrow:o.row∈(CG st sel).map (Bp sel):=by rw[← hstR];exact List.mem_map.2 ⟨o,List.mem_of_getElem? ho,rfl⟩
  obtain⟨id,o0,hid,ho0,rfl⟩:=hget j o ho
  have hok:=hr.rows id o0 ho0
  refine⟨hok.pos,fun x hx=>⟨?_,hl _ hrow x hx⟩,fun hb=>?_,fun b hb=>?_,hok.mo,hok.deep.mapped (JH sel) (fun _ _ _ _ h=>Xh h) rfl rfl rfl rfl⟩
  ·simp only[so,Bp,List.mem_map] at hx
   obtain⟨y,hy,rfl⟩:=hx
   simpa [so,Bp] using (hok.lens y hy).1
  ·obtain⟨h1,h2⟩:=hok.none hb
   exact⟨by simp[so,Bp,h1],h2⟩
  ·obtain⟨h1,cur,h2,h3,h4,h5,h6⟩:=hok.some b hb
   refine⟨h1,cur,h2,h3,by simpa [so,Bp] using h4,h5,fun i x hx j' c hc=>?_⟩
   simp only[so,Bp,List.getElem?_map,Option.map_eq_some_iff] at hx
   obtain⟨y,hy,rfl⟩:=hx
   simp only[List.getElem?_map,Option.map_eq_some_iff] at hc
   obtain⟨c0,hc0,rfl⟩:=hc
   obtain⟨u,e1,e2⟩:=h6 i y hy j' c0 hc0
   exact⟨u,e1,hren1 _ _ e2⟩
 ·obtain⟨id,o0,hid,ho0,rfl⟩:=hget i oi hi
  obtain⟨id',o0',hid',ho0',rfl⟩:=hget j oj hj
  have he:=hr.inj id id' o0 o0' b ho0 ho0' hbi hbj
  subst he
  obtain⟨hi1,hi2⟩:=List.getElem?_eq_some_iff.1 hid
  obtain⟨hj1,hj2⟩:=List.getElem?_eq_some_iff.1 hid'
  have hp:=List.pairwise_iff_getElem.1 hnd
  rcases Nat.lt_trichotomy i j with h | h | h
  ·exact absurd (hi2.trans hj2.symm) (hp i j hi1 hj1 h)
  ·exact h
  ·exact absurd (hj2.trans hi2.symm) (hp j i hj1 hi1 h)
 ·simp only[os2,List.mem_map,List.mem_filterMap] at ho
  obtain⟨o0,⟨i,_,hi⟩,rfl⟩:=ho
  exact h2 o0 (List.mem_of_getElem? hi)
 ·simp only[os2,List.getElem?_map]
  rw[hos1 i i (hk' i hi),ho]
  rfl
theorem UI {n:Nat} {e:Nat→AV} {st st':List Row} {L:List (Nat×AV)} (sel:List Nat) (hk:sel.take k=List.range k) (hnd:sel.Nodup) (hlt:sel.all (· < st.length)=true)
  (hst:(CG st sel).map (Bp sel)=st') (hl:Ko st') (h:ME (fun t=>Jm sel (e t)) L):Wk k ⟨n,e,st⟩ ⟨n,AL L,st'⟩:=by
 subst hst
 exact (Wk.bX sel hk hnd (fun i hi=>by simpa using List.all_eq_true.1 hlt i hi) hl).trans (AS h)
inductive SR (sel:List Nat):List Row→List Row→Prop
 | nil:SR sel [] []
 | deep {g size:Nat} {el:TypeId} {xs:List (List AV)} {r r':List Row} (hp:CO xs) (hl:SR sel r r'):SR sel (⟨g,el,size,xs⟩ :: r) (⟨g,el,size,xs⟩ :: r')
 | raw {g size:Nat} {el:TypeId} {cs cs':List AV} {r r':List Row} (hc:cs.map (JH sel)=cs') (hp:cs'.all AV.leaf=true) (hl:SR sel r r'):SR sel (⟨g,el,size,[cs]⟩ :: r) (⟨g,el,size,[cs']⟩ :: r')
 | hol {g size i:Nat} {el:TypeId} {zs:List (List AV)} {x x':List AV} {r r':List Row} (hp:CO zs) (hz :∀z∈zs,z.all AV.kept=true) (hc:x.map (JH sel)=x') (hk:x'.all AV.kept=true) (hl:SR sel r r'):SR sel (⟨g,el,size,zs.set i x⟩ :: r) (⟨g,el,size,zs.set i x'⟩ :: r')
theorem SR.pure {sel:List Nat} {g size:Nat} {el:TypeId} {xs:List (List AV)} {r r':List Row} (hp:Dj xs) (hl:SR sel r r'):SR sel (⟨g,el,size,xs⟩ :: r) (⟨g,el,size,xs⟩ :: r'):=.deep hp.any hl
theorem Ll {sel:List Nat} {c:AV} (h:Eg c=true):JH sel c=c:=by cases c <;> simp[Eg,simple,JH,two,HI] at h ⊢
theorem SR.spec {sel:List Nat} {st0:List Row} (hle :∀row∈st0,∀x∈row.xs,∀c∈x,c.kept=true) :∀{l l':List Row},SR sel l l'→(∀row∈l,row∈st0)→l.map (Bp sel)=l'∧Ko l'
 | _,_,.nil,_=>⟨rfl,fun _ h=>by cases h⟩
 | _,_,.deep hp hl,hm=>by
  obtain⟨h1,h2⟩:=SR.spec hle hl (fun row h=>hm row (List.mem_cons_of_mem _ h))
  have hlf:=hle _ (hm _ (List.mem_cons_self ..))
  refine⟨?_,?_⟩
  ·simp only[List.map_cons,h1]
   congr 1
   simp only[Bp]
   congr 1
   refine (List.map_congr_left (g:=id) fun x hx=>?_).trans (List.map_id _)
   refine (List.map_congr_left (g:=id) fun c hc=>?_).trans (List.map_id _)
   exact Ll (hp x hx c hc)
  ·intro row hrow
   rcases List.mem_cons.1 hrow with rfl | h
   ·exact hlf
   ·exact h2 row h
 | _,_,.raw hc hp hl,hm=>by
  obtain⟨h1,h2⟩:=SR.spec hle hl (fun row h=>hm row (List.mem_cons_of_mem _ h))
  refine⟨?_,?_⟩
  ·simp only[List.map_cons,h1,Bp,List.map_nil,hc]
  ·intro row hrow
   rcases List.mem_cons.1 hrow with rfl | h
   ·intro x hx c hcx
    simp only[List.mem_singleton] at hx
    subst hx
    exact Cp (List.all_eq_true.1 hp c hcx)
   ·exact h2 row h
 | _,_,.hol (zs:=zs) (i:=i) hp hz hc hk hl,hm=>by
  obtain⟨h1,h2⟩:=SR.spec hle hl (fun row h=>hm row (List.mem_cons_of_mem _ h))
  refine⟨?_,?_⟩
  ·simp only[List.map_cons,h1,Bp,List.map_set,hc]
   congr 3
   refine (List.map_congr_left (g:=id) fun x hx=>?_).trans (List.map_id _)
   refine (List.map_congr_left (g:=id) fun c hc=>?_).trans (List.map_id _)
   exact Ll (hp x hx c hc)
  ·intro row hrow
   rcases List.mem_cons.1 hrow with rfl | h
   ·intro x hx c hcx
    rcases List.mem_or_eq_of_mem_set hx with hx | rfl
    ·exact List.all_eq_true.1 (hz x hx) c hcx
    ·exact List.all_eq_true.1 hk c hcx
   ·exact h2 row h
theorem R5 {n:Nat} {e:Nat→AV} {st:List Row} (hr:Rel F os ⟨n,e,st⟩ a w) :∀row∈st,∀x∈row.xs,∀c∈x,c.kept=true:=fun row hrow x hx c hc=>by
 have hst:=hr.st
 simp only at hst
 rw[← hst] at hrow
 obtain⟨o,ho,rfl⟩:=List.mem_map.1 hrow
 obtain⟨i,hi⟩:=List.mem_iff_getElem?.1 ho
 exact ((hr.rows i o hi).lens x hx).2 c hc
end Go.Abs

