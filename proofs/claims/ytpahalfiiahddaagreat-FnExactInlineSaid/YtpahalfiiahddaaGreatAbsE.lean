import Derived.Test.YtpahalfiiahddaaGreatAbsD
namespace Go.Abs
open Go
def JF (v:AV):Option (List AV):=
 match v with
 | .agg cs=>if cs.all AV.leaf then some cs else none
 | v=>if v.leaf then some [v] else none
def HN (P:Program) (e:TypeId):Option (List AV):=
 match P.info? e with
 | some i=>match i.zero with
  | some z=>if (z.cells.toList.map Kd).all AV.leaf && !z.cells.isEmpty then some (z.cells.toList.map Kd) else none
  | none=>none
 | none=>none
def F7 (x:List AV) (off:Nat) (cs:List AV):List AV:=x.take off ++ cs ++ x.drop (off+cs.length)
def Ze (P:Program) (e:TypeId) (st:List Row) (K:AV→List Row→Prop):Prop:=
 Ep (HN P e) fun z=>K (.ptr st.length 0 0 0) (st ++ [⟨0,e,z.length,[z]⟩])
def df (e:TypeId) (st:List Row) (v:AV) (K:AV→List Row→Prop):Prop:=
 Ep (JF v) fun cs=>cs≠[]∧K (.ptr st.length 0 0 0) (st ++ [⟨0,e,cs.length,[cs]⟩])
def Vw (P:Program) (st:List Row) (t:TypeId) (p v:AV) (K:List Row→Prop):Prop:=
 Ep (Ch P t) fun ti=>match p with
  | .ptr id g i off=>Ep st[id]? fun row=>row.gen=g∧Ep row.xs[i]? fun x=>Ep (JF v) fun cs=>
    cs.length=ti.2∧off+cs.length≤row.size∧K (st.set id { row with xs:=row.xs.set i (F7 x off cs) })
  | _=>False
def Yk (P:Program) (st:List Row) (t:TypeId) (l c:AV) (K:AV→List Row→Prop):Prop:=
 Ep (By P t) fun ei=>match l,c with
  | .int _ n,.int _ m=>n=m∧0≤n∧n * (ei.bytes:Int)≤281474976710656∧n≤9223372036854775807∧K (.own st.length 0 n.toNat) (st ++ [⟨0,ei.e,ei.size,List.replicate n.toNat ei.zero⟩])
  | _,_=>False
def Wa (st:List Row) (x:AV) (K:List (List AV)→Prop):Prop:=
 match x with
 | .sl ys=>K ys
 | .zc=>K []
 | .own id g n=>Ep st[id]? fun row=>row.gen=g∧(∀y∈row.xs,∀c∈y,c.leaf=true)∧n=row.xs.length∧K (row.xs.take n)
 | _=>False
def Ub (P:Program) (st:List Row) (t:TypeId) (d x:AV) (K:AV→List Row→Prop):Prop:=
 Ep (By P t) fun ei=>Wa st x fun ys=>(∀y∈ys,y.length=ei.size)∧match d with
  | .zc=>ys.length * ei.bytes≤140737488355328∧ys.length≤9223372036854775807∧K (.own st.length 0 ys.length) (st ++ [⟨0,ei.e,ei.size,ys⟩])
  | .own id g n=>Ep st[id]? fun row=>row.gen=g∧n=row.xs.length∧row.elem=ei.e∧row.size=ei.size∧(n+ys.length) * ei.bytes≤140737488355328∧n+ys.length≤9223372036854775807∧
    K (.own id (g+1) (n+ys.length)) (st.set id { row with gen:=g+1,xs:=row.xs.take n ++ ys })
  | _=>False
variable {P : Program} {F : Nat → Prop} {os : List Own} {s : St} {a : Act} {w : World} {k : Nat}
def GR (P:Program) (k:Nat) (F:Nat→Prop) (os:List Own) (s:St) (a:Act) (w:World) (Lv:Sem Value) (K:AV→List Row→Prop):Prop:=
 ∃v st' u w' os',K v st'∧Lv.run P w=.ok u w'∧Rel F os' { s with st:=st' } a w'∧Ae F w' os' v u∧Ext F os w F os' w' k
theorem Rel.len (hr:Rel F os s a w):s.st.length=os.length:=by rw[← hr.st];simp
theorem XI (hr:Rel F os s a w) {w':World} {o:Own} (hb:o.Eb=some w.heap.size) (hx:0 < o.row.xs.length) (hg:o.row.gen=0):Ae F w' (os ++ [o]) (.ptr s.st.length 0 0 0) (.pointer (some ⟨w.heap.size,0,none⟩)):=by
 simp only[Ae]
 exact⟨o,by rw[hr.len];simp,by omega,⟨_,rfl⟩,fun _=>⟨hx,Nat.zero_le _,_,hb,by simp⟩⟩
theorem OL {v:AV} {u:Value} {cs:List AV} (h:JF v=some cs) (hv:Ae F w os v u):BG F w os cs u.cells.toList∧(∀c∈cs,c.leaf=true):=by
 cases v with
 | agg xs=>
  simp only[JF] at h
  split at h <;> simp only[Option.some.injEq,reduceCtorEq] at h
  subst h
  rename_i hl
  simp only[Ae] at hv
  obtain⟨us,rfl,hus⟩:=hv
  exact⟨by simpa [Value.cells] using hus,fun c hc=>List.all_eq_true.1 hl c hc⟩
 | _=>
  simp only[JF] at h
  split at h <;> simp only[Option.some.injEq,reduceCtorEq] at h
  subst h
  rename_i hl
  refine⟨?_,by simpa using hl⟩
  have h1:=Mi hl hv
  have:u.cells.toList=[u]:=by cases u <;> simp_all [Value.cells,Value.oneCell']
  rw[this]
  simp only[BG]
  exact⟨u,[],rfl,hv,rfl⟩
theorem T3 (hr:Rel F os s a w) {e:TypeId} {v:Value} {cs:List AV} (hl:BG F w os cs v.cells.toList) (hleaf :∀c∈cs,c.leaf=true) (hne:cs≠[]) {K:AV→List Row→Prop}
  (hk:K (.ptr s.st.length 0 0 0) (s.st ++ [⟨0,e,cs.length,[cs]⟩])):GR P k F os s a w (do pure (.pointer (some (← newVar e v)))) K:=by
 have hlen:=A6 hl
 simp only[Array.length_toList] at hlen
 have hpos:0 < cs.length:=List.length_pos_iff.2 hne
 have:=hr.Mv (k:=k) (.inl rfl) (cur:=v.cells) (e:=e) (size:=cs.length) (cap:=1) (xs:=[cs]) hpos (by simpa using hleaf) (by simpa using hlen) (by simp) (by simp[maxLen]) (fun i x hx j c hc=>by
  cases i with
  | zero=>
   simp only[List.getElem?_cons_zero,Option.some.injEq] at hx;subst hx
   obtain⟨u,h1,h2⟩:=BX hl j c hc
   exact⟨u,by simpa using h1,h2⟩
  | succ i=>simp at hx)
 refine⟨_,_,.pointer (some ⟨w.heap.size,0,none⟩),_,_,hk,?_,this.1,XI hr rfl (by simp) rfl,this.2.1⟩
 simp[newVar,newRow]
theorem cI {e:TypeId} {v:AV} {u:Value} {K:AV→List Row→Prop} (hr:Rel F os s a w) (h:df e s.st v K) (hv:Ae F w os v u):GR P k F os s a w (Instr.box e u) K:=by
 obtain⟨cs,hcs,hne,hk⟩:=A0 h
 obtain⟨h1,h2⟩:=OL hcs hv
 exact T3 hr h1 h2 hne hk
theorem Sd {e:TypeId} {z:List AV} (h:HN P e=some z) :∃i v,P.info? e=some i∧i.zero=some v∧z=v.cells.toList.map Kd∧(∀c∈z,c.leaf=true)∧z≠[]:=by
 unfold HN at h
 split at h <;> try (cases h;done)
 rename_i i hi
 split at h <;> try (cases h;done)
 rename_i v hv
 split at h <;> try (cases h;done)
 rename_i hc
 simp only[Bool.and_eq_true,Bool.not_eq_true',Array.isEmpty_eq_false_iff] at hc
 simp only[Option.some.injEq] at h
 subst h
 refine⟨i,v,hi,hv,rfl,fun c hm=>List.all_eq_true.1 hc.1 c hm,?_⟩
 simpa using hc.2
theorem ZB {e:TypeId} {K:AV→List Row→Prop} (hr:Rel F os s a w) (h:Ze P e s.st K):GR P k F os s a w (Instr.alloc e true (.tuple #[])) K:=by
 obtain⟨z,hz,hk⟩:=A0 h
 obtain⟨i,v,hi,hv,rfl,hl,hne⟩:=Sd hz
 obtain⟨x,st',u,w',os',h1,h2,h3⟩:=T3 (P:=P) (k:=k) (v:=v) hr (Mb F w os _) hl hne hk
 refine⟨x,st',u,w',os',h1,?_,h3⟩
 have hz':(zeroValue e).run P w=.ok v w:=by simp[zeroValue,typeInfo,hi,hv]
 simpa [Instr.alloc,hz'] using h2
theorem T2 {x cs:List AV} {off n:Nat} (hx:x.length=n) (h:off+cs.length≤n):(F7 x off cs).length=n:=by
 simp[F7];omega
theorem Nr (x cs:List AV) (off j:Nat) (hoff:off≤x.length):(F7 x off cs)[j]?=if j < off then x[j]? else if j < off+cs.length then cs[j - off]? else x[j]?:=by
 unfold F7
 by_cases h1:j < off
 ·rw[if_pos h1,List.append_assoc,List.getElem?_append_left (by simp;omega),List.getElem?_take,if_pos h1]
 ·rw[if_neg h1]
  by_cases h2:j < off+cs.length
  ·rw[if_pos h2,List.getElem?_append_left (by simp;omega),List.getElem?_append_right (by simp;omega)]
   simp[Nat.min_eq_left hoff]
  ·rw[if_neg h2,List.getElem?_append_right (by simp;omega),List.getElem?_drop]
   congr 1
   simp[Nat.min_eq_left hoff];omega
theorem Ir {cur:Array Value} {us:List Value} {p j:Nat} (h:p+us.length≤cur.size) :
  ((cur.toList.take p ++ us ++ cur.toList.drop (p+us.length)).toArray)[j]?=if j < p then cur[j]? else if j < p+us.length then us[j - p]? else cur[j]?:=by
 simp only[List.getElem?_toArray]
 by_cases h1:j < p
 ·rw[if_pos h1,List.append_assoc,List.getElem?_append_left (by simp;omega),List.getElem?_take,if_pos h1];simp
 ·rw[if_neg h1]
  by_cases h2:j < p+us.length
  ·rw[if_pos h2,List.getElem?_append_left (by simp;omega),List.getElem?_append_right (by simp;omega)]
   congr 1;simp;omega
  ·rw[if_neg h2,List.getElem?_append_right (by simp;omega),List.getElem?_drop]
   simp only[List.length_append,List.length_take,Array.length_toList,Array.getElem?_toList]
   congr 1;omega
theorem Yp {t:TypeId} {p v:AV} {up uv:Value} {K:List Row→Prop} (hr:Rel F os s a w) (h:Vw P s.st t p v K) (hp:Ae F w os p up) (hv:Ae F w os v uv) :
  ∃st' w' os',K st'∧(Instr.storeAt t up uv).run P w=.ok () w'∧Rel F os' { s with st:=st' } a w'∧Ext F os w F os' w' k:=by
 obtain⟨ti,ht,h⟩:=A0 h
 obtain⟨d,inf,hud,hi,_,e2⟩:=J5 ht
 cases p with
 | ptr id g i off=>
  obtain⟨row,hrow,hg,h0⟩:=A0 h
  obtain⟨x,hx,h1⟩:=A0 h0
  obtain⟨cs,hcs,hlen,hfit,hk⟩:=A0 h1
  obtain⟨o,ho,rfl⟩:=hr.row hrow
  simp only[Ae] at hp
  obtain⟨o',ho',hge,_,hp⟩:=hp
  rw[ho] at ho';cases ho'
  obtain⟨_,_,b,hb,rfl⟩:=hp hg
  obtain⟨hrl,hleaf⟩:=OL hcs hv
  have hok:=hr.rows id o ho
  obtain⟨hnF,cur,hcur,hsz,hle,hmax,hcells⟩:=hok.some b hb
  have hil:i < o.row.xs.length:=(List.getElem?_eq_some_iff.1 hx).1
  have hulen:=A6 hrl
  have hxl:=(hok.lens x (List.mem_of_getElem? hx)).1
  have hbound:i * o.row.size+off+uv.cells.toList.length≤cur.size:=by
   rw[hulen,hsz]
   have:(i+1) * o.row.size≤o.cap * o.row.size:=Nat.mul_le_mul_right _ (by omega)
   rw[Nat.add_mul] at this;omega
  have hone :∀u∈uv.cells.toList,u.oneCell'=true:=fun u hu=>by
   obtain⟨j,hj⟩:=List.mem_iff_getElem?.1 hu
   have hjl:j < cs.length:=by rw[← hulen];exact (List.getElem?_eq_some_iff.1 hj).1
   obtain⟨u',hu',hr'⟩:=BX hrl j cs[j] (List.getElem?_eq_getElem hjl)
   rw[hj] at hu';cases hu'
   exact Mi (hleaf _ (List.getElem_mem hjl)) hr'
  have hst:=run_storeCells_at P b (i * o.row.size+off) o.row.elem uv.cells.toList 0 cur w hcur (by simpa using hbound) hone
  simp only[Nat.add_zero] at hst
  have hturn:=hr.I8 (k:=k) (o':={ o with row:={ o.row with xs:=o.row.xs.set i (F7 x off cs) } }) ho (w':=w.setRow b (cur.toList.take (i * o.row.size+off) ++ uv.cells.toList ++ cur.toList.drop (i * o.row.size+off+uv.cells.toList.length)).toArray)
   (by rw[hb];exact FF.setRow _ _ _) (Nat.le_refl _) rfl (fun _=>⟨rfl,rfl,by simp⟩) (fun g hg=>.inl hg) (fun hmono=>by
    have hdp:JV (w.setRow b (cur.toList.take (i * o.row.size+off) ++ uv.cells.toList ++ cur.toList.drop (i * o.row.size+off+uv.cells.toList.length)).toArray) { o with row:={ o.row with xs:=o.row.xs.set i (F7 x off cs) } }:=by
     obtain⟨D,d1,d2,d3⟩:=hok.deep
     refine⟨D,d1,d2,fun b' hb' cur' el l hcur' i' y j e s' ys hy hc=>?_⟩
     simp only at hb' hy ⊢
     rw[hb] at hb';cases hb'
     rw[setRow_heap w b cur _ _ _ hcur] at hcur'
     cases hcur'
     have hold :∃y0,o.row.xs[i']?=some y0∧y0[j]?=some (.dv e s' ys)∧(i'≠i∨j < off∨off+cs.length≤j):=by
      by_cases hii:i'=i
      ·subst hii
       rw[List.getElem?_set_self hil,Option.some.injEq] at hy
       subst hy
       rw[Nr _ _ _ _ (by omega)] at hc
       by_cases hj1:j < off
       ·rw[if_pos hj1] at hc;exact⟨x,hx,hc,.inr (.inl hj1)⟩
       ·rw[if_neg hj1] at hc
        by_cases hj2:j < off+cs.length
        ·rw[if_pos hj2] at hc
         have:=hleaf _ (List.mem_of_getElem? hc)
         simp[AV.leaf] at this
        ·rw[if_neg hj2] at hc;exact⟨x,hx,hc,.inr (.inr (by omega))⟩
      ·rw[List.getElem?_set_ne (Ne.symm hii)] at hy
       exact⟨y,hy,hc,.inl hii⟩
     obtain⟨y0,hy0,hc0,hne⟩:=hold
     obtain⟨u,q1,q2⟩:=d3 b hb cur _ _ hcur i' y0 j e s' ys hy0 hc0
     have hjl:j < o.row.size:=by rw[← (hok.lens y0 (List.mem_of_getElem? hy0)).1];exact (List.getElem?_eq_some_iff.1 hc0).1
     refine⟨u,?_,Jx (fun _ h=>h) (fun c hcm=>setRow_other w b c _ fun e=>?_) _ u q2⟩
     ·rw[Ir hbound,hulen]
      rcases Nat.lt_trichotomy i' i with hlt | hii | hgt
      ·have:(i' + 1) * o.row.size≤i * o.row.size:=Nat.mul_le_mul_right _ hlt
       rw[Nat.add_mul] at this
       rw[if_pos (by omega)];exact q1
      ·subst hii
       rcases hne with hne | hne | hne
       ·exact absurd rfl hne
       ·rw[if_pos (by omega)];exact q1
       ·rw[if_neg (by omega),if_neg (by omega)];exact q1
      ·have:(i+1) * o.row.size≤i' * o.row.size:=Nat.mul_le_mul_right _ hgt
       rw[Nat.add_mul] at this
       rw[if_neg (by omega),if_neg (by omega)];exact q1
     ·subst e
      exact (hok.mo _ (d1 _ _ _ hcm)).2.2 hb
    refine⟨hok.pos,fun y hy=>?_,(fun hn=>by rw[hb] at hn;cases hn),fun b' hb'=>?_,fun g hg=>⟨(hok.mo g hg).1,by simpa using (hok.mo g hg).2.1,(hok.mo g hg).2.2⟩,hdp⟩
    ·rcases List.mem_or_eq_of_mem_set hy with hy | rfl
     ·exact hok.lens y hy
     ·refine⟨T2 hxl (by simpa using hfit),fun c hc=>?_⟩
      unfold F7 at hc
      simp only[List.mem_append] at hc
      rcases hc with (hc | hc) | hc
      ·exact (hok.lens x (List.mem_of_getElem? hx)).2 c (List.mem_of_mem_take hc)
      ·exact Cp (hleaf c hc)
      ·exact (hok.lens x (List.mem_of_getElem? hx)).2 c (List.mem_of_mem_drop hc)
    ·rw[hb] at hb';cases hb'
     refine⟨hnF,_,setRow_heap w b cur _ _ _ hcur,?_,by simpa using hle,hmax,fun i' y hy j c hc=>?_⟩
     ·simp only[List.size_toArray,List.length_append,List.length_take,List.length_drop,Array.length_toList] at *
      omega
     ·simp only at hy ⊢
      rw[Ir hbound]
      by_cases hii:i'=i
      ·subst hii
       rw[List.getElem?_set_self hil,Option.some.injEq] at hy
       subst hy
       rw[Nr _ _ _ _ (by omega)] at hc
       by_cases hj1:j < off
       ·rw[if_pos hj1] at hc
        obtain⟨u,h1,h2⟩:=hcells _ _ hx j c hc
        exact⟨u,by rw[if_pos (by omega)];exact h1,hmono _ _ h2⟩
       ·rw[if_neg hj1] at hc
        by_cases hj2:j < off+cs.length
        ·rw[if_pos hj2] at hc
         obtain⟨u,h1,h2⟩:=BX hrl _ _ hc
         refine⟨u,?_,hmono _ _ h2⟩
         rw[if_neg (by omega),if_pos (by rw[hulen];omega),← h1]
         congr 1;omega
        ·rw[if_neg hj2] at hc
         obtain⟨u,h1,h2⟩:=hcells _ _ hx j c hc
         exact⟨u,by rw[if_neg (by omega),if_neg (by rw[hulen];omega)];exact h1,hmono _ _ h2⟩
      ·rw[List.getElem?_set_ne (Ne.symm hii)] at hy
       obtain⟨u,h1,h2⟩:=hcells _ _ hy j c hc
       have hjl:j < o.row.size:=by rw[← (hok.lens y (List.mem_of_getElem? hy)).1];exact (List.getElem?_eq_some_iff.1 hc).1
       refine⟨u,?_,hmono _ _ h2⟩
       rcases Nat.lt_or_gt_of_ne hii with hlt | hgt
       ·have:(i' + 1) * o.row.size≤i * o.row.size:=Nat.mul_le_mul_right _ hlt
        rw[Nat.add_mul] at this
        rw[if_pos (by omega)];exact h1
       ·have:(i+1) * o.row.size≤i' * o.row.size:=Nat.mul_le_mul_right _ hgt
        rw[Nat.add_mul] at this
        rw[if_neg (by omega),if_neg (by rw[hulen];omega)];exact h1)
  refine⟨_,_,_,hk,?_,hturn.1,hturn.2.1⟩
  have hszt:(sizeOf t).run P w=.ok ti.2 w:=by simp[sizeOf,typeInfo,hi,e2]
  have:uv.cells.size=ti.2:=by rw[← hlen,← hulen];simp
  simp[Instr.storeAt,Instr.sureAddr,storeVar,hszt,this,hst]
 | _=>exact h.elim
theorem Vd {t:TypeId} {l c:AV} {ul uc:Value} {K:AV→List Row→Prop} (hr:Rel F os s a w) (h:Yk P s.st t l c K) (hl:Ae F w os l ul) (hc:Ae F w os c uc):GR P k F os s a w (Instr.makeSlice t ul uc) K:=by
 obtain⟨ei,he,h⟩:=A0 h
 obtain⟨inf,z,hu,hi,hz,hzs,hpos,hsz,hby,hzero,hzl⟩:=FU he
 cases l with
 | int kl n=>
  cases c with
  | int kc m=>
   obtain⟨rfl,h0,hb,hm,hk⟩:=h
   simp only[Ae] at hl hc
   subst hl;subst hc
   obtain⟨N,rfl⟩:=Int.eq_ofNat_of_zero_le h0
   simp only[Int.toNat_natCast] at hk
   have hrun:=run_make (P:=P) w t ei.e inf z hu hi hz kl kc N N (by omega) (Int.le_refl _) (by rw[← hby,Int.mul_comm];omega) (by omega)
   simp only[Int.toNat_natCast] at hrun
   have hzl':ei.zero.length=ei.size:=by rw[hzero,hsz,← hzs];simp
   have:=hr.Mv (k:=k) (.inl rfl) (cur:=madeCells z.cells (N * inf.size)) (e:=ei.e) (size:=ei.size) (cap:=N) (xs:=List.replicate N ei.zero) (by omega)
    (fun x hx=>by rw[List.mem_replicate] at hx;rw[hx.2];exact⟨hzl',hzl⟩) (by rw[size_madeCells,hsz]) (by simp) (by simp[maxLen];omega) (fun i x hx j c hc=>by
     rw[List.getElem?_replicate] at hx
     split at hx <;> simp only[Option.some.injEq,reduceCtorEq] at hx
     subst hx
     rename_i hiN
     have hjl:j < ei.size:=by rw[← hzl'];exact (List.getElem?_eq_some_iff.1 hc).1
     have hj2:j < z.cells.size:=by omega
     refine⟨z.cells[j],?_,?_⟩
     ·have hlt:i * ei.size+j < N * inf.size:=by
       have:(i+1) * ei.size≤N * ei.size:=Nat.mul_le_mul_right _ hiN
       rw[Nat.add_mul] at this;rw[← hsz];omega
      have hmod:(i * ei.size+j) % z.cells.size=j:=by rw[hzs,← hsz,Nat.mul_comm,Nat.mul_add_mod];exact Nat.mod_eq_of_lt hjl
      simp[madeCells,hlt,hmod,hj2]
     ·rw[hzero] at hc
      simp only[List.getElem?_map,Array.getElem?_toList,Array.getElem?_eq_getElem hj2,Option.map_some,Option.some.injEq] at hc
      subst hc
      exact JZ F w os _)
   refine⟨_,_,_,_,_,hk,hrun,this.1,?_,this.2.1⟩
   simp only[Ae]
   refine⟨⟨⟨0,ei.e,ei.size,List.replicate N ei.zero⟩,some w.heap.size,N,Dv⟩,by rw[hr.len];simp,by simp,⟨_,_,_,rfl⟩,fun _=>⟨by simp,.inr ⟨_,rfl,by simp⟩⟩⟩
  | _=>exact h.elim
 | _=>cases c <;> exact h.elim
structure Src (F:Nat→Prop) (w:World) (os:List Own) (u:Value) (ys:List (List AV)) (size:Nat):Prop where
 shape :∃ad c,u=.slice ad ys.length c∧(ys=[]∨∃b o,ad=some ⟨b,o,none⟩∧∀(i:Nat) y,ys[i]?=some y→LL F w os b (o+i * size) y)
theorem T5 {x:AV} {u:Value} {size:Nat} {K:List (List AV)→Prop} (hr:Rel F os s a w) (h:Wa s.st x fun ys=>(∀y∈ys,y.length=size)∧K ys) (hx:Ae F w os x u) :∃ys,K ys∧(∀y∈ys,y.length=size)∧(ys=[]∨∀y∈ys,∀c∈y,c.leaf=true)∧Src F w os u ys size:=by
 cases x with
 | sl ys=>
  obtain⟨hsz,hk⟩:=h
  simp only[Ae] at hx
  obtain⟨ad,cap,rfl,_,hne⟩:=hx
  by_cases he:ys=[]
  ·exact⟨ys,hk,hsz,.inl he,⟨ad,cap,rfl,.inl he⟩⟩
  ·obtain⟨b,o,sz,rfl,hb,hss,hrows⟩:=hne he
   refine⟨ys,hk,hsz,.inr fun y hy c hc=>?_,⟨_,cap,rfl,?_⟩⟩
   ·obtain⟨i,hi⟩:=List.mem_iff_getElem?.1 hy
    obtain⟨j,hj⟩:=List.mem_iff_getElem?.1 hc
    obtain⟨_,_,h2,_⟩:=II (Gs hss hrows i y hi) j c hj
    exact h2
   have:sz=size:=by
    obtain⟨y,hy⟩:=List.exists_mem_of_ne_nil ys he
    rw[← hss y hy,hsz y hy]
   subst this
   exact .inr ⟨b,o,rfl,fun i y hy=>J2 (Gs hss hrows i y hy)⟩
 | zc=>
  obtain⟨hsz,hk⟩:=h
  simp only[Ae] at hx
  obtain⟨ad,rfl⟩:=hx
  exact⟨[],hk,by simp,.inl rfl,⟨ad,0,rfl,.inl rfl⟩⟩
 | own id g n=>
  obtain⟨row,hrow,hg,hlf,hnw,hsz,hk⟩:=A0 h
  obtain⟨o,ho,rfl⟩:=hr.row hrow
  simp only[Ae] at hx
  obtain⟨o',ho',hge,_,hx⟩:=hx
  rw[ho] at ho';cases ho'
  obtain⟨hle,hx⟩:=hx hg
  simp only[Km hnw] at hx
  refine⟨_,hk,hsz,.inr (fun y hy=>hlf y (List.mem_of_mem_take hy)),?_⟩
  have hlen:(o.row.xs.take n).length=n:=by simp;omega
  rcases hx with ⟨hb,ad,rfl⟩ | ⟨b,hb,rfl⟩
  ·have:=((hr.rows id o ho).none hb).1
   exact⟨ad,0,by rw[hlen],.inl (by rw[this];simp)⟩
  ·refine⟨_,o.cap,by rw[hlen],.inr ⟨b,0,rfl,fun i y hy=>?_⟩⟩
   have hy0:=hy
   rw[List.getElem?_take] at hy
   split at hy
   ·have h1:=hr.MP ho hb hy
    have:o.row.size=size:=by
     rw[← hsz y (List.mem_of_getElem? hy0)]
     exact (((hr.rows id o ho).lens y (List.mem_of_getElem? hy)).1).symm
    rw[this] at h1
    simpa using h1
   ·cases hy
 | _=>exact h.elim
theorem OR {b o size:Nat} {ys:List (List AV)} (hsz :∀y∈ys,y.length=size) (h :∀(i:Nat) y,ys[i]?=some y→LL F w os b (o+i * size) y) :
  ∃us:List Value,us.length=ys.length * size∧(∀(j:Nat) u,us[j]?=some u→w.cell? ((⟨b,o,none⟩:Addr).add j)=some u)∧(∀u∈us,u.oneCell'=true)∧
   ∀(i:Nat) y,ys[i]?=some y→∀(j:Nat) c,y[j]?=some c→∃u,us[i * size+j]?=some u∧c.kept=true∧Ae F w os c u:=by
 have hat :∀j,j < ys.length * size→∃i y c,j=i * size+j % size∧ys[i]?=some y∧y[j % size]?=some c:=fun j hj=>by
  have hpos:0 < size:=Nat.pos_of_ne_zero (by rintro rfl;simp at hj)
  have hi:j / size < ys.length:=by rw[Nat.div_lt_iff_lt_mul hpos];exact hj
  have hjm:j % size < (ys[j / size]).length:=by rw[hsz _ (List.getElem_mem hi)];exact Nat.mod_lt _ hpos
  exact⟨j / size,ys[j / size],(ys[j / size])[j % size],by rw[Nat.mul_comm];exact (Nat.div_add_mod j size).symm,List.getElem?_eq_getElem hi,List.getElem?_eq_getElem hjm⟩
 refine⟨(List.range (ys.length * size)).map fun j=>(w.cell? ((⟨b,o,none⟩:Addr).add j)).getD undef,by simp,fun j u hu=>?_,fun u hu=>?_,fun i y hy j c hc=>?_⟩
 ·have hj:j < ys.length * size:=by have:=(List.getElem?_eq_some_iff.1 hu).1;simpa using this
  simp only[List.getElem?_map,List.getElem?_range hj,Option.map_some,Option.some.injEq] at hu
  obtain⟨i,y,c,he,hy,hc⟩:=hat j hj
  obtain⟨u',h1,_⟩:=h i y hy _ c hc
  rw[B1,he,← Nat.add_assoc] at hu ⊢
  rw[h1] at hu ⊢
  simp only[Option.getD_some] at hu
  rw[hu]
 ·obtain⟨j,hj,rfl⟩:=List.mem_map.1 hu
  rw[List.mem_range] at hj
  obtain⟨i,y,c,he,hy,hc⟩:=hat j hj
  obtain⟨u',h1,h2,h3⟩:=h i y hy _ c hc
  rw[B1,he,← Nat.add_assoc,h1]
  exact Uy h2 h3
 ·have hi:=(List.getElem?_eq_some_iff.1 hy).1
  have hjl:j < size:=by rw[← hsz y (List.mem_of_getElem? hy)];exact (List.getElem?_eq_some_iff.1 hc).1
  obtain⟨u,h1,h2,h3⟩:=h i y hy j c hc
  have hlt:i * size+j < ys.length * size:=by
   have:(i+1) * size≤ys.length * size:=Nat.mul_le_mul_right _ hi
   rw[Nat.add_mul] at this;omega
  refine⟨u,?_,h2,h3⟩
  simp only[List.getElem?_map,List.getElem?_range hlt,Option.map_some,B1,← Nat.add_assoc,h1,Option.getD_some]
end Go.Abs

