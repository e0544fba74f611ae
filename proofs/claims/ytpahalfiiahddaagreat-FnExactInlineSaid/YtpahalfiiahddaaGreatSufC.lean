import Derived.Test.YtpahalfiiahddaaGreatCopyC

namespace Go.Abs
open Go RC
section
variable {P : Program} {k : Nat} {ops : Array Oper} {Q : Exit → St → Prop} {ds : List (Option Tmp)} {r : List Oper} {n : Nat} {e : Nat → AV} {st : List Row} {o : Oper}
theorem ZK {C:List Row→AV→Prop} (hn:o.guard=none) (h :∀F os a w,Rel F os ⟨n,e,st⟩ a w→∃st' v,C st' v∧∃z w' F' os',(execOp a.eval o).run P w=.ok (.value z) w'∧Rel F' os' ⟨n,e,st'⟩ a w'∧Ae F' w' os' v z∧Ext F os w F' os' w' k)
  (hk :∀st' v,C st' v→AO P k ops Q (ds ++ [o.dst]) r (St.put ⟨n,e,st'⟩ o.dst v)):AO P k ops Q ds (o :: r) ⟨n,e,st⟩:=by
 intro hl hds hdst F os a w hr Q' hQ
 have ho:ops[ds.length]?=some o:=by have:=hl 0;simpa using this.symm
 have hod:Cu n o.dst=true:=hdst o (by have:=List.mem_of_getElem? (l:=ops.toList) (i:=ds.length) (by simpa using ho);exact this)
 have hl' :∀(j:Nat),r[j]?=ops[(ds ++ [o.dst]).length+j]?:=fun j=>by
  have:=hl (j+1)
  simp only[List.getElem?_cons_succ] at this
  rw[this];congr 1;simp;omega
 have hds' :∀(j:Nat) d,(ds ++ [o.dst])[j]?=some d→(ops[j]?).map (·.dst)=some d:=fun j d hj=>by
  rcases Nat.lt_trichotomy j ds.length with h1 | h1 | h1
  ·rw[List.getElem?_append_left h1] at hj;exact hds j d hj
  ·subst h1;rw[Hg,Option.some.injEq] at hj;rw[ho];simp[hj]
  ·rw[List.getElem?_eq_none (by simp;omega)] at hj;cases hj
 obtain⟨st',v,hC,z,w',F',os',h1,h2,h3,h4⟩:=h F os a w hr
 unfold wpList
 rw[if_pos (by unfold Region.wanted;rw[hn])]
 refine .inl ?_
 unfold Oper.wp
 rw[h1]
 simp only[Oper.upon]
 refine hk st' v hC hl' hds' (by cases o.dst <;> exact hdst) F' os' _ w' (h2.put hod h3) Q' fun _ _ _ hp=>hQ _ _ _ (hp.trans h4)
theorem Pb {F:Nat→Prop} {w':World} {os':List Own} {g el b cap:Nat} {more:Nat→Prop} {l':List Int} {cur':Array Value} (hF:¬ F b) (hcur':w'.heap[b]?=some (.cells cur' el (0,0))) (hsz:cur'.size=cap) (hle:l'.length≤cap) (hmax:cap≤maxLen)
  (hl:cur'.toList.take l'.length=l'.map (Value.int .i64)) (hmo :∀c,more c→¬ F c∧c < w'.heap.size∧b≠c):KO F w' os' ⟨⟨g,el,1,l'.map eI⟩,some b,cap,more⟩:=by
 have hflat :∀x∈l'.map eI,∀c∈x,c.leaf=true:=by
  intro x hx c hc
  obtain⟨z,_,rfl⟩:=List.mem_map.1 hx
  simp only[eI,List.mem_singleton] at hc
  subst hc;rfl
 refine⟨Nat.one_pos,fun x hx=>⟨?_,fun c hc=>Cp (hflat x hx c hc)⟩,fun e=>(by cases e),fun c hc=>?_,fun c hc=>⟨(hmo c hc).1,(hmo c hc).2.1,fun e=>(hmo c hc).2.2 (by simpa using e)⟩,Cs hflat⟩
 ·obtain⟨z,_,rfl⟩:=List.mem_map.1 hx
  simp[eI]
 ·simp only[Option.some.injEq] at hc
  subst hc
  exact⟨hF,cur',hcur',by simpa using hsz,by simpa using hle,hmax,X0 hl⟩
theorem Sr {w:World} {ty:TypeId} (t e:TypeId) (i:TypeInfo) (ht:P.underlying t=some (.slice e)) (hi:P.info? e=some i)
  (g off sLen sCap:Nat) (cur:Array Value) (hg:w.heap[g]?=some (.cells cur e (0,0)))
  (a:Addr) (m c:Nat) (news:List Value) (hl:news.length=m * i.size) (hnews :∀j u,news[j]?=some u→w.cell? (a.add j)=some u) (h1 :∀u∈news,u.oneCell'=true)
  (hroom:sLen+m≤sCap) (hfit:off+sLen * i.size+news.length≤cur.size) :
  (Builtin.append_ #[t,t] ty #[.slice (some ⟨g,off,none⟩) sLen sCap,.slice (some a) m c]).run P w =
   .ok (.slice (some ⟨g,off,none⟩) (sLen+m) sCap) (w.setRow g (cur.toList.take (off+sLen * i.size) ++ news ++ cur.toList.drop (off+sLen * i.size+news.length)).toArray):=by
 have hf:=run_firstCells_some (P:=P) w i.size m a m c news hl hnews
 have hst:=run_storeCells_at P g (off+sLen * i.size) e news 0 cur w hg (by simpa using hfit) h1
 simp only[Nat.add_zero] at hst
 simp[Builtin.append_,run_underlying ht,sizeOf,typeInfo,hi,Builtin.lenOf,hroom,hf,Addr.add_lit,hst]
section
variable {ty : TypeId} {p : String} {ed : Array Edge} {t : Tmp} {x y : Operand} {bytes id g q gq : Nat} {el elq T : TypeId} {zz : List AV} {pre l l' : List Int} {v : Int}
theorem dR (he:By P T=some ⟨el,1,bytes,zz⟩) (hx:St.ev ⟨n,e,st⟩ x=.own id g l.length) (hr:st[id]?=some ⟨g,el,1,(pre ++ l).map eI⟩) (hy:St.ev ⟨n,e,st⟩ y=.own q gq 1) (hq:st[q]?=some ⟨gq,elq,1,[v].map eI⟩)
  (ha:Sh.app l [v] bytes=some l')
  (hk :∀pre':List Int,AO P k ops Q (ds ++ [some t]) r ⟨n,Dh e t (.own id (g+1) l'.length),st.set id ⟨g+1,el,1,(pre' ++ l').map eI⟩⟩):AO P k ops Q ds (⟨some t,.call ⟨.builtin .append,#[x,y],#[T,T]⟩,ty,p,ed,none⟩ :: r) ⟨n,e,st⟩:=by
 unfold Sh.app at ha
 split at ha
 case isFalse=>cases ha
 rename_i hbd
 simp only[Option.some.injEq] at ha
 subst ha
 refine ZK (C:=fun st' w=>∃pre':List Int,st'=st.set id ⟨g+1,el,1,(pre' ++ (l ++ [v])).map eI⟩∧w=.own id (g+1) (l ++ [v]).length) rfl (fun F os a w hrel=>?_) (fun st' w hC=>?_)
 case refine_2=>obtain⟨pre',rfl,rfl⟩:=hC;exact hk pre'
 obtain⟨inf,z,hu,hi,hz,hzs,hpos,hsz,hby,hzz,hlf⟩:=FU he
 dsimp only at hu hi hzs hpos hsz hby hzz hlf
 have h1:=hrel.ev x
 rw[hx] at h1
 simp only[Ae] at h1
 obtain⟨o,ho,_,_,h1⟩:=h1
 obtain⟨o',ho',hor⟩:=hrel.row hr
 rw[ho] at ho';cases ho'
 have hok:=hrel.rows id o ho
 have hxs:o.row.xs=(pre ++ l).map eI:=by rw[hor]
 have Dd:o.row.size=1:=by rw[hor]
 have helm:o.row.elem=el:=by rw[hor]
 have hgen:o.row.gen=g:=by rw[hor]
 obtain⟨_,h1⟩:=h1 hgen
 rw[hxs,Dd] at h1
 simp only[List.length_map,List.length_append,Nat.add_sub_cancel,Nat.mul_one] at h1
 have h2:=hrel.ev y
 rw[hy] at h2
 simp only[Ae] at h2
 obtain⟨oq,hoq,_,_,h2⟩:=h2
 obtain⟨oq',hoq',hqr⟩:=hrel.row hq
 rw[hoq] at hoq';cases hoq'
 have hokq:=hrel.rows q oq hoq
 have hqx:oq.row.xs=[v].map eI:=by rw[hqr]
 obtain⟨_,h2⟩:=h2 (by rw[hqr])
 rw[hqx] at h2
 simp only[List.map_cons,List.map_nil,List.length_singleton,Nat.sub_self,Nat.zero_mul,Nat.sub_zero] at h2
 obtain⟨bq,hbq,hyv⟩ :∃bq,oq.Eb=some bq∧a.eval y=.slice (some ⟨bq,0,none⟩) 1 oq.cap:=by
  rcases h2 with ⟨hb,_⟩ | h
  ·have:=(hokq.none hb).1
   rw[hqx] at this;simp at this
  ·exact h
 obtain⟨_,curq,hcurq,_,_,_,hcellsq⟩:=hokq.some bq hbq
 have hnews :∀(j:Nat) u,[Value.int .i64 v][j]?=some u→w.cell? ((⟨bq,0,none⟩:Addr).add j)=some u:=fun j u hu'=>by
  cases j with
  | succ j=>simp at hu'
  | zero=>
   have:u=Value.int .i64 v:=by simpa using hu'.symm
   subst this
   obtain⟨u,e1,e2⟩:=hcellsq 0 (eI v) (by rw[hqx];rfl) 0 _ rfl
   simp only[Ae] at e2
   rw[B1,cell_of_row w bq _ curq _ _ hcurq]
   rw[Nat.zero_mul,Nat.zero_add] at e1
   rw[e1,e2]
 have hone :∀u∈[Value.int .i64 v],u.oneCell'=true:=fun u hu'=>by
  obtain rfl:u=Value.int .i64 v:=by simpa using hu'
  rfl
 have hnl:[Value.int .i64 v].length=1 * inf.size:=by rw[← hsz];rfl
 have hex :∀xv,a.eval x=xv→∀zv w',(Builtin.append_ #[T,T] ty #[xv,.slice (some ⟨bq,0,none⟩) 1 oq.cap]).run P w=.ok zv w'→(execOp a.eval ⟨some t,.call ⟨.builtin .append,#[x,y],#[T,T]⟩,ty,p,ed,none⟩).run P w=.ok (.value zv) w':=fun xv hxv zv w' hrun=>by
  simp only[execOp,resolve,invoke,builtin,Sem.run_bind,Sem.run_pure,Result.andThen_ok,List.map_toArray,List.map_cons,List.map_nil]
  rw[hxv,hyv,hrun];rfl
 have hset :∀o':Own,(os.set id o')[id]?=some o':=fun o'=>List.getElem?_set_self (List.getElem?_eq_some_iff.1 ho).1
 have hll:(l ++ [v]).length=l.length+1:=by simp
 have hgrow :∀cap,l.length+1≤cap→cap≤maxLen→(Builtin.append_ #[T,T] ty #[a.eval x,.slice (some ⟨bq,0,none⟩) 1 oq.cap]).run P w =
   .ok (.slice (some ⟨w.heap.size,0,none⟩) (l.length+1) cap) (w.drew.alloc (.cells ((l.map (Value.int .i64)).toArray ++ [Value.int .i64 v].toArray ++ Builtin.zeroCells z.cells (cap - (l.length+1))) el))→
   ∃st' v',(∃pre':List Int,st'=st.set id ⟨g+1,el,1,(pre' ++ (l ++ [v])).map eI⟩∧v'=.own id (g+1) (l ++ [v]).length)∧∃z w' F' os',(execOp a.eval ⟨some t,.call ⟨.builtin .append,#[x,y],#[T,T]⟩,ty,p,ed,none⟩).run P w=.ok (.value z) w'∧Rel F' os' ⟨n,e,st'⟩ a w'∧Ae F' w' os' v' z∧Ext F os w F' os' w' k:=fun cap hcap hmax hrun=>by
  have hT:=hrel.I8 (k:=k) (o':=⟨⟨g+1,el,1,([] ++ (l ++ [v])).map eI⟩,some w.heap.size,cap,o.more⟩) ho (w':=w.drew.alloc (.cells ((l.map (Value.int .i64)).toArray ++ [Value.int .i64 v].toArray ++ Builtin.zeroCells z.cells (cap - (l.length+1))) el)) (Ij _ _ _) (by simp[hgen]) (by simp[Dd]) (fun e=>by simp[hgen] at e)
   (fun c hc=>by
    rcases hc with hc | hc
    ·simp only[Option.some.injEq] at hc;exact .inr (by omega)
    ·exact .inl (.inr hc)) (fun _=>by
    refine Pb (fun hF=>by have:=hrel.EO _ hF;omega) (heap_alloc_new w.drew _) ?_ (by simpa using hcap) hmax ?_ (fun c hc=>?_)
    ·simp only[Array.size_append,List.size_toArray,List.length_map,List.length_singleton,size_zeroCells,hzs,← hsz,Nat.mul_one];omega
    ·have e0:((l.map (Value.int .i64)).toArray ++ [Value.int .i64 v].toArray ++ Builtin.zeroCells z.cells (cap - (l.length+1))).toList=([] ++ (l ++ [v])).map (Value.int .i64) ++ (Builtin.zeroCells z.cells (cap - (l.length+1))).toList:=by simp
     rw[e0];exact List.take_left' (by simp)
    ·have hm:=hok.mo c hc
     exact⟨hm.1,by simp;omega,by omega⟩)
  refine⟨_,_,⟨[],rfl,rfl⟩,_,_,F,_,hex _ rfl _ _ hrun,hT.1,?_,hT.2.1⟩
  simp only[Ae]
  exact⟨_,hset _,Nat.le_refl _,⟨_,_,_,rfl⟩,fun _=>⟨by simp,.inr ⟨_,rfl,by simp⟩⟩⟩
 have hge:=grownCap_ge w (l.length+1)
 have hlem:=grownCap_le_maxLen w (l.length+1)
 have hm63:l.length+1≤9223372036854775807:=by simpa using hbd.2
 have hb48:(l.length+1) * inf.bytes≤140737488355328:=by rw[← hby];simpa using hbd.1
 rcases h1 with ⟨hb,ad,hxv⟩ | ⟨b,hb,hxv⟩
 ·have hnil:=(hok.none hb).1
  rw[hxs] at hnil
  obtain⟨_,rfl⟩:pre=[]∧l=[]:=by simpa using hnil
  refine hgrow (grownCap w (0+1) 0 el) (by simpa using hge 0 el) (by simpa using hlem 0 el (by simp[maxLen])) ?_
  rw[hxv]
  cases ad with
  | none=>
   have:=run_append_nil (P:=P) w T ty el inf z hu hi hz ⟨bq,0,none⟩ 1 oq.cap [Value.int .i64 v] hnl hnews (by omega) (by omega) (by have h9:=hb48;simp only[List.length_nil,Nat.zero_add,Nat.one_mul] at h9 ⊢;omega)
   simpa using this
  | some a0=>
   have:=run_append_grow (P:=P) w T ty el inf z hu hi hz a0 0 0 [] (by simp) (by simp) ⟨bq,0,none⟩ 1 oq.cap [Value.int .i64 v] hnl hnews (by omega) (by omega) (growslice_fits (by omega) (by simpa using hb48))
   simpa using this
 ·obtain⟨hF,cur,hcur,hcs,hle,hmx,hcells⟩:=hok.some b hb
  rw[hxs,Dd] at hcells
  rw[Dd,Nat.mul_one] at hcs
  rw[hxs,List.length_map,List.length_append] at hle
  rw[helm] at hcur
  have ht:=SK hcells
  rw[List.length_append] at ht
  have hcl:cur.toList.length=o.cap:=by rw[Array.length_toList,hcs]
  by_cases hroom:l.length+1≤o.cap - pre.length
  ·have hrun:=Sr (P:=P) (w:=w) (ty:=ty) T el inf hu hi b pre.length l.length (o.cap - pre.length) cur hcur ⟨bq,0,none⟩ 1 oq.cap [Value.int .i64 v] hnl hnews hone hroom (by rw[← hsz,hcs];simp;omega)
   rw[← hsz,Nat.mul_one] at hrun
   have hw:(w.setRow b (cur.toList.take (pre.length+l.length) ++ [Value.int .i64 v] ++ cur.toList.drop (pre.length+l.length + [Value.int .i64 v].length)).toArray).heap[b]?=some (.cells (cur.toList.take (pre.length+l.length) ++ [Value.int .i64 v] ++ cur.toList.drop (pre.length+l.length + [Value.int .i64 v].length)).toArray el (0,0)):=setRow_heap w b cur _ _ _ hcur
   have hT:=hrel.I8 (k:=k) (o':=⟨⟨g+1,el,1,(pre ++ (l ++ [v])).map eI⟩,some b,o.cap,o.more⟩) ho (w':=w.setRow b (cur.toList.take (pre.length+l.length) ++ [Value.int .i64 v] ++ cur.toList.drop (pre.length+l.length + [Value.int .i64 v].length)).toArray) (by rw[hb];exact FF.setRow _ _ _) (by simp[hgen]) (by simp[Dd]) (fun e=>by simp[hgen] at e)
    (fun c hc=>.inl (hc.elim (fun hc=>.inl (by rw[hb];exact hc)) .inr)) (fun _=>by
     refine Pb hF hw ?_ (by simp;omega) hmx ?_ (fun c hc=>?_)
     ·simp;omega
     ·rw[ht]
      have e0:((pre ++ l).map (Value.int .i64) ++ [Value.int .i64 v] ++ cur.toList.drop (pre.length+l.length + [Value.int .i64 v].length)).toArray.toList=(pre ++ (l ++ [v])).map (Value.int .i64) ++ cur.toList.drop (pre.length+l.length + [Value.int .i64 v].length):=by simp
      rw[e0];exact List.take_left' (by simp)
     ·have hm:=hok.mo c hc
      refine⟨hm.1,Nat.lt_of_lt_of_le hm.2.1 (FF.setRow w b _).size,fun e=>hm.2.2 (by rw[hb,e])⟩)
   refine⟨_,_,⟨pre,rfl,rfl⟩,_,_,F,_,hex _ hxv _ _ hrun,hT.1,?_,hT.2.1⟩
   simp only[Ae]
   refine⟨_,hset _,Nat.le_refl _,⟨_,_,_,rfl⟩,fun _=>⟨by simp,.inr ⟨b,rfl,?_⟩⟩⟩
   simp
  ·refine hgrow (grownCap w (l.length+1) (o.cap - pre.length) el) (by simpa using hge (o.cap - pre.length) el) (by simpa using hlem (o.cap - pre.length) el (by simp only[maxLen] at hmx ⊢;omega)) ?_
   rw[hxv]
   exact run_append_grow (P:=P) w T ty el inf z hu hi hz ⟨b,pre.length,none⟩ l.length (o.cap - pre.length) (l.map (Value.int .i64)) (by rw[← hsz];simp) (fun j u hj=>by
    rw[List.getElem?_map,Option.map_eq_some_iff] at hj
    obtain⟨z0,hz0,rfl⟩:=hj
    obtain⟨u,e1,e2⟩:=hcells (pre.length+j) (eI z0) (by rw[List.getElem?_map,List.getElem?_append_right (by omega),Nat.add_sub_cancel_left,hz0];rfl) 0 _ rfl
    simp only[Ae] at e2
    rw[B1,cell_of_row w b _ cur _ _ hcur]
    rw[Nat.mul_one,Nat.add_zero] at e1
    rw[e1,e2]) ⟨bq,0,none⟩ 1 oq.cap [Value.int .i64 v] hnl hnews (by omega) (by omega) (growslice_fits (by omega) hb48)
variable {α : Type} {enc : α → List AV} {pr m : List α} {u : α} {j : Int} {kk : IntKind} {size : Nat} {s : St}
theorem cg (he:By P T=some ⟨el,size,bytes,zz⟩) (hx:s.ev x=.own id g m.length) (hy:s.ev y=.int kk j) (hr:s.st[id]?=some ⟨g,el,size,(pr ++ m).map enc⟩) (hg:Sh.get m j=some u) :
  AQ P s (.indexAddr T x y) (.ptr id g (pr.length+j.toNat) 0):=fun K hk=>by
 show Gl P s.st T (s.ev x) (s.ev y) K
 rw[hx,hy];exact Aj _ he ⟨(Sh.get_some hg).1,(Sh.get_some hg).2.2,Aj _ hr ⟨rfl,rfl,by simpa using hk⟩⟩
theorem bn (hg:Sh.get m j=some u):((pr ++ m).map enc)[pr.length+j.toNat]?=some (enc u):=by
 rw[List.getElem?_map,List.getElem?_append_right (by omega),Nat.add_sub_cancel_left,(Sh.get_some hg).2.1];rfl
theorem cW {lo:Operand} {z0:Int} (he:By P T=some ⟨el,1,bytes,zz⟩) (hx:St.ev ⟨n,e,st⟩ x=.own id g (z0 :: l).length) (hlo:St.ev ⟨n,e,st⟩ lo=.int kk 1) (hr:st[id]?=some ⟨g,el,1,(pre ++ z0 :: l).map eI⟩)
  (hk :∀pre':List Int,AO P k ops Q (ds ++ [some t]) r ⟨n,Dh e t (.own id (g+1) l.length),st.set id ⟨g+1,el,1,(pre' ++ l).map eI⟩⟩):AO P k ops Q ds (⟨some t,.slice T x (some lo) none none,ty,p,ed,none⟩ :: r) ⟨n,e,st⟩:=by
 refine ZK (C:=fun st' w=>∃pre':List Int,st'=st.set id ⟨g+1,el,1,(pre' ++ l).map eI⟩∧w=.own id (g+1) l.length) rfl (fun F os a w hrel=>?_) (fun st' w hC=>?_)
 case refine_2=>obtain⟨pre',rfl,rfl⟩:=hC;exact hk pre'
 obtain⟨inf,z,hu,hi,hz,hzs,hpos,hsz,hby,hzz,hlf⟩:=FU he
 dsimp only at hu hi hzs hpos hsz hby hzz hlf
 have h1:=hrel.ev x
 rw[hx] at h1
 simp only[Ae] at h1
 obtain⟨o,ho,_,_,h1⟩:=h1
 obtain⟨o',ho',hor⟩:=hrel.row hr
 rw[ho] at ho';cases ho'
 have hok:=hrel.rows id o ho
 have hxs:o.row.xs=(pre ++ z0 :: l).map eI:=by rw[hor]
 have Dd:o.row.size=1:=by rw[hor]
 have helm:o.row.elem=el:=by rw[hor]
 have hgen:o.row.gen=g:=by rw[hor]
 obtain⟨_,h1⟩:=h1 hgen
 rw[hxs,Dd] at h1
 simp only[List.length_map,List.length_append,Nat.add_sub_cancel,Nat.mul_one] at h1
 have h2:=hrel.ev lo
 rw[hlo] at h2
 simp only[Ae] at h2
 have hset :∀o':Own,(os.set id o')[id]?=some o':=fun o'=>List.getElem?_set_self (List.getElem?_eq_some_iff.1 ho).1
 obtain⟨b,hb,hxv⟩ :∃b,o.Eb=some b∧a.eval x=.slice (some ⟨b,pre.length,none⟩) (z0 :: l).length (o.cap - pre.length):=by
  rcases h1 with ⟨hb,_⟩ | h
  ·have:=(hok.none hb).1
   rw[hxs] at this;simp at this
  ·exact h
 obtain⟨hF,cur,hcur,hcs,hle,hmx,hcells⟩:=hok.some b hb
 rw[hxs,Dd] at hcells
 rw[Dd,Nat.mul_one] at hcs
 rw[hxs,List.length_map,List.length_append,List.length_cons] at hle
 rw[helm] at hcur
 have ht:=SK hcells
 have hrun:=Ke (P:=P) (w:=w) hu hi (some ⟨b,pre.length,none⟩) (z0 :: l).length (o.cap - pre.length) 1 (z0 :: l).length (some (.int kk 1)) none (.inr ⟨kk,rfl⟩) (.inl ⟨rfl,rfl⟩) (by simp) (by simp;omega)
 have hex :∀zv,(Instr.sliceAt T (.slice (some ⟨b,pre.length,none⟩) (z0 :: l).length (o.cap - pre.length)) (some (.int kk 1)) none none).run P w=.ok zv w→(execOp a.eval ⟨some t,.slice T x (some lo) none none,ty,p,ed,none⟩).run P w=.ok (.value zv) w:=fun zv hr=>by
  simp only[execOp,Sem.run_bind,Sem.run_pure,Option.map_some,Option.map_none,hxv,h2]
  rw[hr];rfl
 by_cases hc1:o.cap - pre.length=1
 ·have hl0:l=[]:=by
   have:l.length=0:=by omega
   simpa using this
  subst hl0
  rw[if_pos hc1] at hrun
  have hT:=hrel.I8 (k:=k) (o':=⟨⟨g+1,el,1,([] ++ []).map eI⟩,none,0,o.more⟩) ho (w':=w) (FF.refl _ _) (by simp[hgen]) (by simp[Dd]) (fun e=>by simp[hgen] at e) (fun c hc=>.inl (hc.elim (fun hc=>by cases hc) .inr)) (fun _=>
   ⟨Nat.one_pos,by simp,by simp,by simp,fun c hc=>⟨(hok.mo c hc).1,(hok.mo c hc).2.1,by simp⟩,Cs (by simp)⟩)
  refine⟨_,_,⟨[],rfl,rfl⟩,_,_,F,_,hex _ hrun,hT.1,?_,hT.2.1⟩
  simp only[Ae]
  exact⟨_,hset _,Nat.le_refl _,⟨_,_,_,rfl⟩,fun _=>⟨by simp,.inl ⟨rfl,_,by rw[hc1];rfl⟩⟩⟩
 ·rw[if_neg hc1] at hrun
  have hT:=hrel.I8 (k:=k) (o':=⟨⟨g+1,el,1,((pre ++ [z0]) ++ l).map eI⟩,some b,o.cap,o.more⟩) ho (w':=w) (FF.refl _ _) (by simp[hgen]) (by simp[Dd]) (fun e=>by simp[hgen] at e) (fun c hc=>.inl (hc.elim (fun hc=>.inl (by rw[hb];exact hc)) .inr)) (fun _=>by
   refine Pb hF hcur hcs (by simp;omega) hmx (by rw[← List.append_cons];exact ht) (fun c hc=>?_)
   have hm:=hok.mo c hc
   exact⟨hm.1,hm.2.1,fun e=>hm.2.2 (by rw[hb,e])⟩)
  refine⟨_,_,⟨pre ++ [z0],rfl,rfl⟩,_,_,F,_,hex _ hrun,hT.1,?_,hT.2.1⟩
  simp only[Ae]
  refine⟨_,hset _,Nat.le_refl _,⟨_,_,_,rfl⟩,fun _=>⟨by simp;omega,.inr ⟨b,rfl,?_⟩⟩⟩
  rw[← hsz]
  simp[B1]
  omega
theorem bp {el':TypeId} {xs:List (List AV)} (hs:Cx P T=true) (hx:s.ev x=.own id g m.length) (hr:s.st[id]?=some ⟨g,el',size,xs⟩):AQ P s (.call ⟨.builtin .len,#[x],#[T]⟩) (i64 (Sh.len m)):=fun K hk=>by
 refine⟨hs,?_⟩
 rw[hx];exact Aj _ hr ⟨rfl,hk⟩
theorem dE {lo:Operand} {q:List Int} (he:By P T=some ⟨el,1,bytes,zz⟩) (hc:Sh.sl q 1 (Sh.len q)=some l) (hx:St.ev ⟨n,e,st⟩ x=.own id g q.length) (hlo:St.ev ⟨n,e,st⟩ lo=.int kk 1) (hr:st[id]?=some ⟨g,el,1,(pre ++ q).map eI⟩)
  (hk :∀pre':List Int,AO P k ops Q (ds ++ [some t]) r ⟨n,Dh e t (.own id (g+1) l.length),st.set id ⟨g+1,el,1,(pre' ++ l).map eI⟩⟩):AO P k ops Q ds (⟨some t,.slice T x (some lo) none none,ty,p,ed,none⟩ :: r) ⟨n,e,st⟩:=by
 cases q with
 | nil=>simp[Sh.sl,Sh.len] at hc
 | cons z0 q=>
  have h9:l=q:=by
   unfold Sh.sl at hc
   split at hc
   ·simp only[Option.some.injEq,Sh.len] at hc
    rw[← hc]
    simp
   ·cases hc
  subst h9
  exact cW he hx hlo hr hk
theorem cL {stf:List Int→List Row} (he:By P T=some ⟨el,1,bytes,zz⟩) (hx:St.ev ⟨n,e,st⟩ x=.own id g l.length) (hr:st[id]?=some ⟨g,el,1,(pre ++ l).map eI⟩) (hy:St.ev ⟨n,e,st⟩ y=.own q gq 1) (hq:st[q]?=some ⟨gq,elq,1,[v].map eI⟩)
  (ha:Sh.app l [v] bytes=some l') (hst :∀pre':List Int,st.set id ⟨g+1,el,1,(pre' ++ l').map eI⟩=stf pre')
  (hk :∀pre':List Int,AO P k ops Q (ds ++ [some t]) r ⟨n,Dh e t (.own id (g+1) l'.length),stf pre'⟩):AO P k ops Q ds (⟨some t,.call ⟨.builtin .append,#[x,y],#[T,T]⟩,ty,p,ed,none⟩ :: r) ⟨n,e,st⟩:=
 dR he hx hr hy hq ha fun pre'=>by rw[hst];exact hk pre'
theorem bS {stf:List Int→List Row} {lo:Operand} {q:List Int} (he:By P T=some ⟨el,1,bytes,zz⟩) (hc:Sh.sl q 1 (Sh.len q)=some l) (hx:St.ev ⟨n,e,st⟩ x=.own id g q.length) (hlo:St.ev ⟨n,e,st⟩ lo=.int kk 1) (hr:st[id]?=some ⟨g,el,1,(pre ++ q).map eI⟩)
  (hst :∀pre':List Int,st.set id ⟨g+1,el,1,(pre' ++ l).map eI⟩=stf pre')
  (hk :∀pre':List Int,AO P k ops Q (ds ++ [some t]) r ⟨n,Dh e t (.own id (g+1) l.length),stf pre'⟩):AO P k ops Q ds (⟨some t,.slice T x (some lo) none none,ty,p,ed,none⟩ :: r) ⟨n,e,st⟩:=
 dE he hc hx hlo hr fun pre'=>by rw[hst];exact hk pre'
end
end
end Go.Abs

