import Derived.Test.YtpahalfiiahddaaGreatAbsE
namespace Go.Abs
open Go
variable {P : Program} {F : Nat → Prop} {os : List Own} {s : St} {a : Act} {w : World} {k : Nat}
def Fj (F:Nat→Prop) (w:World) (os:List Own) (size:Nat) (us:List Value) (xs:List (List AV)):Prop:=
 us.length=xs.length * size∧∀(i:Nat) x,xs[i]?=some x→∀(j:Nat) c,x[j]?=some c→∃u,us[i * size+j]?=some u∧Ae F w os c u
theorem Fj.nil {size:Nat}:Fj F w os size [] []:=⟨by simp,by simp⟩
theorem Fj.append {size:Nat} {us vs:List Value} {xs ys:List (List AV)} (h:Fj F w os size us xs) (g:Fj F w os size vs ys):Fj F w os size (us ++ vs) (xs ++ ys):=by
 refine⟨by rw[List.length_append,List.length_append,h.1,g.1,Nat.add_mul],fun i x hi j c hc=>?_⟩
 by_cases hlt:i < xs.length
 ·rw[List.getElem?_append_left hlt] at hi
  obtain⟨u,h1,h2⟩:=h.2 i x hi j c hc
  exact⟨u,by rw[List.getElem?_append_left (List.getElem?_eq_some_iff.1 h1).1];exact h1,h2⟩
 ·rw[List.getElem?_append_right (by omega)] at hi
  obtain⟨u,h1,h2⟩:=g.2 _ x hi j c hc
  refine⟨u,?_,h2⟩
  have:xs.length * size≤i * size:=Nat.mul_le_mul_right _ (by omega)
  rw[List.getElem?_append_right (by rw[h.1];omega),← h1,h.1]
  congr 1
  rw[Nat.sub_mul];omega
theorem Rel.UA (hr:Rel F os s a w) {e:TypeId} {size:Nat} (hpos:0 < size) :
  let o:Own:=⟨⟨0,e,size,[]⟩,none,0,Dv⟩
  Rel F (os ++ [o]) { s with st:=s.st ++ [o.row] } a w∧Ext F os w F (os ++ [o]) w k∧(∀x v,Ae F w os x v→Ae F w (os ++ [o]) x v):=by
 intro o
 have hget :∀(i:Nat) (oi:Own),(os ++ [o])[i]?=some oi→os[i]?=some oi∨(i=os.length∧oi=o):=fun i oi hi=>by
  rcases Nat.lt_trichotomy i os.length with h | h | h
  ·rw[List.getElem?_append_left h] at hi;exact .inl hi
  ·subst h;simp at hi;exact .inr ⟨rfl,hi.symm⟩
  ·rw[List.getElem?_append_right (by omega),List.getElem?_eq_none (by simp;omega)] at hi;cases hi
 have:=hr.Tl (k:=k) (FF.refl w none) (by simp) (os':=os ++ [o]) (D3.append os [o]) (fun i oi hi=>by
   rcases hget i oi hi with h | ⟨_,rfl⟩
   ·exact .inl ⟨h,by simp⟩
   ·exact .inr ⟨hpos,by simp[o],by simp[o],by simp[o],fun g hg=>hg.elim,Cs (by simp[o])⟩)
  (fun i j oi oj g hi hj hgi hgj=>by
   rcases hget i oi hi with h | ⟨h,rfl⟩ <;> rcases hget j oj hj with h' | ⟨h',rfl⟩
   ·exact hr.inj i j oi oj g h h' hgi hgj
   ·simp[o,Own.owns,Dv] at hgj
   ·simp[o,Own.owns,Dv] at hgi
   ·omega)
  (fun o' ho' g hg=>by
   rcases List.mem_append.1 ho' with h | h
   ·exact .inr ⟨o',h,hg⟩
   ·simp only[List.mem_singleton] at h;subst h;simp[o,Own.owns,Dv] at hg)
  (by simp)
 refine⟨?_,this.2.1,this.2.2⟩
 have h1:=this.1
 rw[List.map_append,hr.st] at h1
 simpa using h1
theorem KU {t ty e:TypeId} {i:TypeInfo} (ht:P.underlying t=some (.slice e)) (hi:P.info? e=some i) (base ad:Option Addr) (n cap c:Nat) (hn:n≤cap) :
  (Builtin.append_ #[t,t] ty #[.slice base n cap,.slice ad 0 c]).run P w=.ok (.slice base n cap) w:=by
 have hf:(Builtin.firstCells i.size 0 (.slice ad 0 c)).run P w=.ok #[] w:=by
  cases ad <;> simp[Builtin.firstCells,loadCells,loadCellsFrom]
 cases base <;> simp[Builtin.append_,run_underlying ht,sizeOf,typeInfo,hi,Builtin.lenOf,hn,hf,storeCells]
theorem Hg {α:Type} (l:List α) (x:α):(l ++ [x])[l.length]?=some x:=by simp
theorem Ma {size n m cap:Nat} {z:Value} (hzs:z.cells.size=size) {us vs:List Value} {xs ys:List (List AV)} (hxn:xs.length=n) (hyn:ys.length=m)
  (h:Fj F w os size us xs) (g:Fj F w os size vs ys) (hcap:n+m≤cap) :
  (us.toArray ++ vs.toArray ++ Builtin.zeroCells z.cells (cap - (n+m))).size=cap * size∧
  ∀(i:Nat) x,(xs ++ ys)[i]?=some x→∀(j:Nat) c,x[j]?=some c→∃u,(us.toArray ++ vs.toArray ++ Builtin.zeroCells z.cells (cap - (n+m)))[i * size+j]?=some u∧Ae F w os c u:=by
 have hfl:=Fj.append h g
 constructor
 ·simp only[Array.size_append,List.size_toArray,size_zeroCells,hzs,h.1,g.1,hxn,hyn,← Nat.add_mul]
  congr 1;omega
 ·intro i x hi j c hc
  obtain⟨u,h1,h2⟩:=hfl.2 i x hi j c hc
  refine⟨u,?_,h2⟩
  have hlt:=(List.getElem?_eq_some_iff.1 h1).1
  rw[Array.getElem?_append_left (by simpa using hlt)]
  simpa using h1
theorem X2 {t ty:TypeId} {d x:AV} {ud ux:Value} {K:AV→List Row→Prop} (hr:Rel F os s a w) (h:Ub P s.st t d x K) (hd:Ae F w os d ud) (hx:Ae F w os x ux) :
  GR P k F os s a w (Builtin.append_ #[t,t] ty #[ud,ux]) K:=by
 obtain⟨ei,he,h⟩:=A0 h
 obtain⟨inf,z,hu,hi,hz,hzs,hpos,hsz,hby,_,_⟩:=FU he
 obtain⟨ys,h,hys,hylf,⟨ad,c,rfl,hsrc⟩⟩:=T5 hr h hx
 have hylf :∀y∈ys,∀c∈y,c.leaf=true:=by
  rcases hylf with rfl | h
  ·simp
  ·exact h
 have hnews:0 < ys.length→∃b o,ad=some ⟨b,o,none⟩∧(∀y∈ys,y.length=ei.size∧∀c∈y,c.leaf=true)∧∃us:List Value,us.length=ys.length * inf.size∧(∀(j:Nat) u,us[j]?=some u→w.cell? ((⟨b,o,none⟩:Addr).add j)=some u)∧(∀u∈us,u.oneCell'=true)∧Fj F w os ei.size us ys:=fun hp=>by
  rcases hsrc with rfl | ⟨b,o,rfl,hc⟩
  ·simp at hp
  ·obtain⟨us,h1,h2,h3,h4⟩:=OR hys hc
   refine⟨b,o,rfl,fun y hy=>⟨hys y hy,hylf y hy⟩,us,by rw[h1,hsz],h2,h3,h1,fun i y hy j c hc=>?_⟩
   obtain⟨u,e1,_,e2⟩:=h4 i y hy j c hc
   exact⟨u,e1,e2⟩
 cases d with
 | zc=>
  obtain⟨hb,hm,hk⟩:=h
  simp only[Ae] at hd
  obtain⟨ad0,rfl⟩:=hd
  by_cases hm0:ys.length=0
  ·have hys0:ys=[]:=List.eq_nil_of_length_eq_zero hm0
   subst hys0
   have:=hr.UA (k:=k) (e:=ei.e) (size:=ei.size) (by omega)
   refine⟨_,_,_,_,_,hk,KU hu hi ad0 ad 0 0 c (Nat.le_refl _),this.1,?_,this.2.1⟩
   simp only[Ae]
   exact⟨⟨⟨0,ei.e,ei.size,[]⟩,none,0,Dv⟩,by rw[hr.len];simp,by simp,⟨_,_,_,rfl⟩,fun _=>⟨by simp,.inl ⟨rfl,_,rfl⟩⟩⟩
  ·obtain⟨b,o,rfl,hleaf,us,hul,hcell,hone,hrep⟩:=hnews (by omega)
   have hge:=grownCap_ge w ys.length 0 ei.e
   have hle:=grownCap_le_maxLen w ys.length 0 ei.e (by simp[maxLen];omega)
   have hrun:(Builtin.append_ #[t,t] ty #[.slice ad0 0 0,.slice (some ⟨b,o,none⟩) ys.length c]).run P w=.ok (.slice (some ⟨w.heap.size,0,none⟩) ys.length (grownCap w ys.length 0 ei.e))
     (w.drew.alloc (.cells (([]:List Value).toArray ++ us.toArray ++ Builtin.zeroCells z.cells (grownCap w ys.length 0 ei.e - (0+ys.length))) ei.e)):=by
    cases ad0 with
    | none=>
     have:=run_append_nil (P:=P) w t ty ei.e inf z hu hi hz ⟨b,o,none⟩ ys.length c us hul hcell (by omega) (by omega) (by rw[← hby];omega)
     simpa using this
    | some a0=>
     have:=run_append_grow (P:=P) w t ty ei.e inf z hu hi hz a0 0 0 [] (by simp) (by simp) ⟨b,o,none⟩ ys.length c us hul hcell (by omega) (by omega) (growslice_fits (by omega) (by rw[← hby,Nat.zero_add];exact hb))
     simpa using this
   obtain⟨e1,e2⟩:=Ma (F:=F) (w:=w) (os:=os) (z:=z) (size:=ei.size) (n:=0) (m:=ys.length) (cap:=grownCap w ys.length 0 ei.e) (by rw[hzs,hsz]) (by rfl) rfl Fj.nil hrep (by omega)
   have:=hr.Mv (k:=k) (.inr rfl) (cur:=_) (e:=ei.e) (size:=ei.size) (cap:=grownCap w ys.length 0 ei.e) (xs:=ys) (by omega) hleaf e1 hge hle (fun i x hx j c hc=>e2 i x (by simpa using hx) j c hc)
   refine⟨_,_,_,_,_,hk,hrun,this.1,?_,this.2.1⟩
   simp only[Ae]
   exact⟨⟨⟨0,ei.e,ei.size,ys⟩,some w.heap.size,grownCap w ys.length 0 ei.e,Dv⟩,by rw[hr.len];exact Hg _ _,Nat.le_refl _,⟨_,_,_,rfl⟩,fun _=>⟨Nat.le_refl _,.inr ⟨_,rfl,by simp⟩⟩⟩
 | own id g n=>
  obtain⟨row,hrow,hg,hnw,hel,Dd,hb,hm,hk⟩:=A0 h
  obtain⟨o,ho,rfl⟩:=hr.row hrow
  simp only[Ae] at hd
  obtain⟨o',ho',hge,_,hd⟩:=hd
  rw[ho] at ho';cases ho'
  obtain⟨hnl,hd⟩:=hd hg
  simp only[Km hnw] at hd
  have hok:=hr.rows id o ho
  have htk:(o.row.xs.take n).length=n:=by simp;omega
  have hset :∀o':Own,(os.set id o')[id]?=some o':=fun o'=>List.getElem?_set_self (List.getElem?_eq_some_iff.1 ho).1
  have hlens :∀x∈o.row.xs.take n,x.length=ei.size∧∀c∈x,c.kept=true:=fun x hx=>by
   have:=hok.lens x (List.mem_of_mem_take hx)
   rw[Dd] at this;exact this
  by_cases hm0:ys.length=0
  ·have hys0:ys=[]:=List.eq_nil_of_length_eq_zero hm0
   subst hys0
   have hturn:=hr.I8 (k:=k) (o':={ o with row:={ o.row with gen:=g+1,xs:=o.row.xs.take n ++ [] } }) ho (w':=w) (FF.refl w _) (by simp[hg]) rfl (fun e=>by simp[hg] at e) (fun g hg=>.inl hg) (fun hmono=>by
    refine⟨hok.pos,fun y hy=>?_,fun hn=>?_,fun b hb'=>?_,hok.mo,hok.deep.keep rfl (fun _ h=>h) rfl (fun _ _=>rfl) (fun i x j e s ys hx hc=>by
     simp only[List.append_nil,List.getElem?_take] at hx
     split at hx
     ·exact⟨x,hx,hc⟩
     ·cases hx)⟩
    ·simp only[List.append_nil] at hy;exact hok.lens y (List.mem_of_mem_take hy)
    ·have:=hok.none hn;simp[this.1,this.2]
    ·obtain⟨h1,cur,h2,h3,h4,h5,h6⟩:=hok.some b hb'
     refine⟨h1,cur,h2,h3,by simp;omega,h5,fun i y hy j c hc=>?_⟩
     simp only[List.append_nil,List.getElem?_take] at hy
     split at hy
     ·obtain⟨u,e1,e2⟩:=h6 i y hy j c hc;exact⟨u,e1,hmono _ _ e2⟩
     ·cases hy)
   have hval :∃base cp,ud=.slice base n cp∧n≤cp∧((o.Eb=none∧ud=.slice base n 0)∨∃b,o.Eb=some b∧ud=.slice (some ⟨b,0,none⟩) n o.cap):=by
    rcases hd with ⟨hbn,a0,rfl⟩ | ⟨b,Gp,rfl⟩
    ·have:=hok.none hbn
     simp only[this.1,List.length_nil,Nat.le_zero] at hnl
     exact⟨a0,0,rfl,by omega,.inl ⟨hbn,rfl⟩⟩
    ·obtain⟨_,_,_,_,h4,_⟩:=hok.some b Gp
     exact⟨_,o.cap,rfl,by omega,.inr ⟨b,Gp,rfl⟩⟩
   obtain⟨base,cp,rfl,hncp,hv⟩:=hval
   refine⟨_,_,_,_,_,hk,KU hu hi base ad n cp c hncp,hturn.1,?_,hturn.2.1⟩
   simp only[Ae]
   refine⟨_,hset _,by simp,⟨_,_,_,rfl⟩,fun _=>⟨by simp;omega,?_⟩⟩
   rcases hv with ⟨hbn,hv⟩ | ⟨b,Gp,hv⟩
   ·exact .inl ⟨hbn,base,by simpa using hv⟩
   ·have hz:min n o.row.xs.length - n=0:=by omega
    exact .inr ⟨b,Gp,by simpa [hz] using hv⟩
  ·obtain⟨b,off,rfl,hleaf,us,hul,hcell,hone,hrep⟩:=hnews (by omega)
   have hgen :∀(cap:Nat) (olds:List Value),Fj F w os ei.size olds (o.row.xs.take n)→(∀(b:Nat) (cur:Array Value) (k:Nat) (u:Value),o.Eb=some b→w.heap[b]?=some (.cells cur o.row.elem (0,0))→k < n * ei.size→cur[k]?=some u→olds[k]?=some u)→n+ys.length≤cap→cap≤maxLen→
     Rel F (os.set id ⟨⟨g+1,o.row.elem,o.row.size,o.row.xs.take n ++ ys⟩,some w.heap.size,cap,o.more⟩) { s with st:=s.st.set id ⟨g+1,o.row.elem,o.row.size,o.row.xs.take n ++ ys⟩ } a (w.drew.alloc (.cells (olds.toArray ++ us.toArray ++ Builtin.zeroCells z.cells (cap - (n+ys.length))) ei.e))∧
     Ext F os w F (os.set id ⟨⟨g+1,o.row.elem,o.row.size,o.row.xs.take n ++ ys⟩,some w.heap.size,cap,o.more⟩) (w.drew.alloc (.cells (olds.toArray ++ us.toArray ++ Builtin.zeroCells z.cells (cap - (n+ys.length))) ei.e)) k:=fun cap olds hold holdv hcap hmax=>by
    obtain⟨e1,e2⟩:=Ma (F:=F) (w:=w) (os:=os) (z:=z) (size:=ei.size) (n:=n) (m:=ys.length) (cap:=cap) (by rw[hzs,hsz]) htk rfl hold hrep hcap
    have:=hr.I8 (k:=k) (o':=⟨⟨g+1,o.row.elem,o.row.size,o.row.xs.take n ++ ys⟩,some w.heap.size,cap,o.more⟩) ho (w':=w.drew.alloc (.cells (olds.toArray ++ us.toArray ++ Builtin.zeroCells z.cells (cap - (n+ys.length))) ei.e)) (Ij _ _ _) (by simp[hg]) rfl (fun e=>by simp[hg] at e) (fun g hg=>by
      rcases hg with hg | hg
      ·simp only[Option.some.injEq] at hg;exact .inr (by omega)
      ·exact .inl (.inr hg)) (fun hmono=>by
     have hdp:JV (w.drew.alloc (.cells (olds.toArray ++ us.toArray ++ Builtin.zeroCells z.cells (cap - (n+ys.length))) ei.e)) ⟨⟨g+1,o.row.elem,o.row.size,o.row.xs.take n ++ ys⟩,some w.heap.size,cap,o.more⟩:=by
      obtain⟨D,d1,d2,d3⟩:=hok.deep
      refine⟨D,d1,d2,fun b' hb' cur' el l hcur' i y j e s' zs hy hc=>?_⟩
      simp only[Option.some.injEq] at hb' hy ⊢
      subst hb'
      have hnew:=heap_alloc_new w.drew (.cells (olds.toArray ++ us.toArray ++ Builtin.zeroCells z.cells (cap - (n+ys.length))) ei.e)
      have hcur'':some (Obj.cells (olds.toArray ++ us.toArray ++ Builtin.zeroCells z.cells (cap - (n+ys.length))) ei.e)=some (.cells cur' el l):=hnew.symm.trans hcur'
      cases hcur''
      have hin:i < n:=by
       rcases Nat.lt_or_ge i n with h | h
       ·exact h
       ·rw[List.getElem?_append_right (by omega)] at hy
        have:=hleaf y (List.mem_of_getElem? hy)
        have:=this.2 _ (List.mem_of_getElem? hc)
        simp[AV.leaf] at this
      rw[List.getElem?_append_left (by omega),List.getElem?_take,if_pos hin] at hy
      have Gp :∃b,o.Eb=some b:=by
       cases hbk:o.Eb with
       | none=>have:=(hok.none hbk).1;rw[this] at hy;simp at hy
       | some b=>exact⟨b,rfl⟩
      obtain⟨b,Gp⟩:=Gp
      obtain⟨_,cur,hcur,_⟩:=hok.some b Gp
      obtain⟨u,q1,q2⟩:=d3 b Gp cur _ _ hcur i y j e s' zs hy hc
      have hjl:j < o.row.size:=by rw[← (hok.lens y (List.mem_of_getElem? hy)).1];exact (List.getElem?_eq_some_iff.1 hc).1
      have hkl:i * o.row.size+j < n * ei.size:=by
       have:(i+1) * o.row.size≤n * o.row.size:=Nat.mul_le_mul_right _ hin
       rw[Nat.add_mul] at this;rw[← Dd];omega
      have q3:=holdv b cur _ u Gp hcur hkl q1
      refine⟨u,?_,Jx (w:=w) (fun _ h=>h) (fun c hcm=>heap_alloc_old w.drew _ (hok.mo _ (d1 _ _ _ hcm)).2.1) _ u q2⟩
      have hlt:=(List.getElem?_eq_some_iff.1 q3).1
      rw[Array.getElem?_append_left (by simp;omega),Array.getElem?_append_left (by simpa using hlt)]
      simpa using q3
     refine⟨hok.pos,fun y hy=>?_,by simp,fun b hb'=>?_,fun g hg=>⟨(hok.mo g hg).1,by have:=(hok.mo g hg).2.1;simp;omega,fun e=>by simp only[Option.some.injEq] at e;have:=(hok.mo g hg).2.1;omega⟩,hdp⟩
     ·rcases List.mem_append.1 hy with h | h
      ·simp only[Dd];exact hlens y h
      ·simp only[Dd];exact⟨(hleaf y h).1,fun c hc=>Cp ((hleaf y h).2 c hc)⟩
     ·simp only[Option.some.injEq] at hb'
      subst hb'
      refine⟨fun hF=>absurd (hr.EO _ hF) (Nat.lt_irrefl _),_,by rw[hel];exact heap_alloc_new w.drew _,by simp only[Dd];exact e1,by simp only[List.length_append,htk];exact hcap,hmax,fun i y hy j c hc=>?_⟩
      obtain⟨u,f1,f2⟩:=e2 i y hy j c hc
      exact⟨u,by simpa only[Dd] using f1,hmono _ _ f2⟩)
    exact⟨this.1,this.2.1⟩
   have hfin :∀cap,Ae F (w.drew.alloc (.cells #[] 0)) (os.set id ⟨⟨g+1,o.row.elem,o.row.size,o.row.xs.take n ++ ys⟩,some w.heap.size,cap,o.more⟩) (.own id (g+1) (n+ys.length)) (.slice (some ⟨w.heap.size,0,none⟩) (n+ys.length) cap):=fun cap=>by
    simp only[Ae]
    exact⟨_,hset _,by simp,⟨_,_,_,rfl⟩,fun _=>⟨by simp only[List.length_append,htk];omega,.inr ⟨_,rfl,(Km (o:=⟨⟨g+1,o.row.elem,o.row.size,o.row.xs.take n ++ ys⟩,some w.heap.size,_,o.more⟩) (by rw[List.length_append,htk])).symm⟩⟩⟩
   have hge:=grownCap_ge w (n+ys.length)
   have hlem:=grownCap_le_maxLen w (n+ys.length)
   rcases hd with ⟨hbn,a0,rfl⟩ | ⟨b0,Gp,rfl⟩
   ·have hn0:=hok.none hbn
    simp only[hn0.1,List.length_nil,Nat.le_zero] at hnl
    subst hnl
    have hrun:(Builtin.append_ #[t,t] ty #[.slice a0 0 0,.slice (some ⟨b,off,none⟩) ys.length c]).run P w=.ok (.slice (some ⟨w.heap.size,0,none⟩) (0+ys.length) (grownCap w (0+ys.length) 0 ei.e))
      (w.drew.alloc (.cells (([]:List Value).toArray ++ us.toArray ++ Builtin.zeroCells z.cells (grownCap w (0+ys.length) 0 ei.e - (0+ys.length))) ei.e)):=by
     cases a0 with
     | none=>
      have:=run_append_nil (P:=P) w t ty ei.e inf z hu hi hz ⟨b,off,none⟩ ys.length c us hul hcell (by omega) (by omega) (by rw[← hby];rw[Nat.zero_add] at hb;omega)
      simpa using this
     | some a0=>
      have:=run_append_grow (P:=P) w t ty ei.e inf z hu hi hz a0 0 0 [] (by simp) (by simp) ⟨b,off,none⟩ ys.length c us hul hcell (by omega) (by omega) (growslice_fits (by omega) (by rw[← hby];exact hb))
      simpa using this
    have hgg:=hgen (grownCap w (0+ys.length) 0 ei.e) [] (by simp[Fj]) (fun b cur k u hb=>by rw[hbn] at hb;cases hb) (hge 0 ei.e) (hlem 0 ei.e (by simp[maxLen];omega))
    exact⟨_,_,_,_,_,hk,hrun,hgg.1,by simpa [Ae] using hfin _,hgg.2⟩
   ·obtain⟨hnF,cur,hcur,hcs,hlc,hmaxc,hcells⟩:=hok.some b0 Gp
    by_cases hroom:n+ys.length≤o.cap
    ·have hfit:n * inf.size+us.length≤cur.size:=by rw[hul,hcs,Dd,hsz,← Nat.add_mul];exact Nat.mul_le_mul_right _ hroom
     have hrun:=run_append_room (P:=P) w t ty ei.e inf hu hi b0 n o.cap cur (by rw[← hel];exact hcur) ⟨b,off,none⟩ ys.length c us hul hcell hone hroom hfit
     have hset':=hr.I8 (k:=k) (o':=⟨⟨g+1,o.row.elem,o.row.size,o.row.xs.take n ++ ys⟩,some b0,o.cap,o.more⟩) ho (w':=w.setRow b0 (cur.toList.take (n * inf.size) ++ us ++ cur.toList.drop (n * inf.size+us.length)).toArray) (by rw[Gp];exact FF.setRow _ _ _) (by simp[hg]) rfl (fun e=>by simp[hg] at e) (fun g hg=>by
       rcases hg with hg | hg
       ·simp only[Option.some.injEq] at hg;exact .inl (.inl (by rw[Gp,hg]))
       ·exact .inl (.inr hg)) (fun hmono=>by
      have hdp:JV (w.setRow b0 (cur.toList.take (n * inf.size) ++ us ++ cur.toList.drop (n * inf.size+us.length)).toArray) ⟨⟨g+1,o.row.elem,o.row.size,o.row.xs.take n ++ ys⟩,some b0,o.cap,o.more⟩:=by
       obtain⟨D,d1,d2,d3⟩:=hok.deep
       refine⟨D,d1,d2,fun b' hb' cur' el l hcur' i y j e s' zs hy hc=>?_⟩
       simp only[Option.some.injEq] at hb' hy ⊢
       subst hb'
       rw[setRow_heap w b0 cur _ _ _ hcur] at hcur'
       cases hcur'
       have hin:i < n:=by
        rcases Nat.lt_or_ge i n with h | h
        ·exact h
        ·rw[List.getElem?_append_right (by omega)] at hy
         have:=hleaf y (List.mem_of_getElem? hy)
         have:=this.2 _ (List.mem_of_getElem? hc)
         simp[AV.leaf] at this
       rw[List.getElem?_append_left (by omega),List.getElem?_take,if_pos hin] at hy
       obtain⟨u,q1,q2⟩:=d3 b0 Gp cur _ _ hcur i y j e s' zs hy hc
       have hjl:j < o.row.size:=by rw[← (hok.lens y (List.mem_of_getElem? hy)).1];exact (List.getElem?_eq_some_iff.1 hc).1
       have hkl:i * o.row.size+j < n * inf.size:=by
        have:(i+1) * o.row.size≤n * o.row.size:=Nat.mul_le_mul_right _ hin
        rw[Nat.add_mul] at this;rw[← hsz,← Dd];omega
       refine⟨u,?_,Jx (fun _ h=>h) (fun c hcm=>setRow_other w b0 c _ fun e=>(hok.mo _ (d1 _ _ _ hcm)).2.2 (by rw[Gp,e])) _ u q2⟩
       rw[Ir hfit,if_pos hkl];exact q1
      refine⟨hok.pos,fun y hy=>?_,by simp,fun b hb'=>?_,fun g hg=>⟨(hok.mo g hg).1,by simpa using (hok.mo g hg).2.1,by rw[← Gp];exact (hok.mo g hg).2.2⟩,hdp⟩
      ·rcases List.mem_append.1 hy with h | h
       ·simp only[Dd];exact hlens y h
       ·simp only[Dd];exact⟨(hleaf y h).1,fun c hc=>Cp ((hleaf y h).2 c hc)⟩
      ·simp only[Option.some.injEq] at hb'
       subst hb'
       refine⟨hnF,_,setRow_heap w b0 cur _ _ _ hcur,?_,by simp only[List.length_append,htk];exact hroom,hmaxc,fun i y hy j c hc=>?_⟩
       ·simp only[List.size_toArray,List.length_append,List.length_take,List.length_drop,Array.length_toList] at hfit ⊢
        rw[← hcs];omega
       ·simp only at hy ⊢
        rw[Ir hfit]
        by_cases hin:i < n
        ·rw[List.getElem?_append_left (by omega),List.getElem?_take,if_pos hin] at hy
         obtain⟨u,f1,f2⟩:=hcells i y hy j c hc
         have hjl:j < o.row.size:=by rw[← (hok.lens y (List.mem_of_getElem? hy)).1];exact (List.getElem?_eq_some_iff.1 hc).1
         have:(i+1) * o.row.size≤n * o.row.size:=Nat.mul_le_mul_right _ hin
         rw[Nat.add_mul] at this
         refine⟨u,?_,hmono _ _ f2⟩
         rw[if_pos (by rw[← hsz,← Dd];omega)];exact f1
        ·rw[List.getElem?_append_right (by omega),htk] at hy
         obtain⟨u,f1,f2⟩:=hrep.2 _ y hy j c hc
         refine⟨u,?_,hmono _ _ f2⟩
         have hlt:=(List.getElem?_eq_some_iff.1 f1).1
         have h3:n * o.row.size≤i * o.row.size:=Nat.mul_le_mul_right _ (by omega)
         rw[Nat.sub_mul] at f1 hlt
         rw[← Dd] at f1 hlt
         rw[if_neg (by rw[← hsz,← Dd];omega),if_pos (by rw[← hsz,← Dd];omega),← f1]
         congr 1
         rw[← hsz,← Dd];omega)
     refine⟨_,_,_,_,_,hk,hrun,hset'.1,?_,hset'.2.1⟩
     simp only[Ae]
     exact⟨_,hset _,by simp,⟨_,_,_,rfl⟩,fun _=>⟨by simp only[List.length_append,htk];omega,.inr ⟨_,rfl,by simp[hnw]⟩⟩⟩
    ·
     have hold :∀(i:Nat) y,(o.row.xs.take n)[i]?=some y→LL F w os b0 (0+i * ei.size) y:=fun i y hy=>by
      rw[List.getElem?_take] at hy
      split at hy
      ·have:=hr.MP ho Gp hy;rw[Dd] at this;simpa using this
      ·cases hy
     obtain⟨olds,h1,h2,_,h4⟩:=OR (fun x hx=>(hlens x hx).1) hold
     have hrun:=run_append_grow (P:=P) w t ty ei.e inf z hu hi hz ⟨b0,0,none⟩ n o.cap olds (by rw[h1,htk,hsz]) h2 ⟨b,off,none⟩ ys.length c us hul hcell (by omega) (by omega) (growslice_fits (by omega) (by rw[← hby];exact hb))
     have hgg:=hgen (grownCap w (n+ys.length) o.cap ei.e) olds ⟨h1,fun i y hy j c hc=>by obtain⟨u,f1,_,f2⟩:=h4 i y hy j c hc;exact⟨u,f1,f2⟩⟩ (fun b cur' k u hb' hcur' hk q=>by
      rw[Gp] at hb';cases hb'
      rw[hcur] at hcur';cases hcur'
      have hkl:k < olds.length:=by rw[h1,htk];exact hk
      have:=h2 k _ (List.getElem?_eq_getElem hkl)
      rw[B1,cell_of_row w b0 _ cur _ _ hcur,Nat.zero_add,q] at this
      rw[List.getElem?_eq_getElem hkl,← this]) (hge o.cap ei.e) (hlem o.cap ei.e (by simp[maxLen];omega))
     exact⟨_,_,_,_,_,hk,hrun,hgg.1,by simpa [Ae] using hfin _,hgg.2⟩
 | _=>exact h.elim
end Go.Abs

