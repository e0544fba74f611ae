import Derived.Test.YtpahalfiiahddaaGreatAbsRG
import Derived.RangeFuncLeaves

namespace Go.Abs
open Go
def Zb (o:Oper):Bool:=match o.op with | .load .. | .store ..=>true | _=>false
section
variable {P : Program} {k n : Nat} {ops : Array Oper}
theorem ae {o:Oper} {Q Q':Exit→Act→World→Prop} {ds:List Deferred} (ho:Zb o=true) {a:Act} {w:World} {K K':Act→World→Prop} (hK :∀a w,K a w→K' { a with defers:=ds } w) (hQ :∀e a w,Q e a w→Q' e { a with defers:=ds } w) (h:o.wp P a w K Q):o.wp P { a with defers:=ds } w K' Q':=by
 unfold Oper.wp at h ⊢
 have e:execOp ({ a with defers:=ds }:Act).eval o=execOp a.eval o:=rfl
 rw[e]
 have hp :∀d v,({ a with defers:=ds }:Act).put d v={ a.put d v with defers:=ds }:=fun d v=>by cases d <;> rfl
 unfold Zb at ho
 unfold execOp at h ⊢
 cases hop:o.op <;> rw[hop] at ho <;> first | cases ho | skip
 case load t ad=>
  simp only[hop,Sem.run_bind] at h ⊢
  generalize (Instr.loadAt t (a.eval ad)).run P w=r at *
  cases r with
  | ok v w'=>simp only[Result.andThen_ok,Sem.run_pure,Oper.upon] at h ⊢;rw[hp];exact hK _ _ h
  | halt x w'=>cases x <;> simp only[Result.andThen,Oper.upon] at h ⊢ <;> first | exact hQ _ _ _ h | exact h
 case store t ad v=>
  simp only[hop,Sem.run_bind] at h ⊢
  generalize (Instr.storeAt t (a.eval ad) (a.eval v)).run P w=r at *
  cases r with
  | ok v w'=>simp only[Result.andThen_ok,Sem.run_pure,Oper.upon] at h ⊢;rw[hp];exact hK _ _ h
  | halt x w'=>cases x <;> simp only[Result.andThen,Oper.upon] at h ⊢ <;> first | exact hQ _ _ _ h | exact h
theorem Pq {Q Q':Exit→Act→World→Prop} {ds:List Deferred} (hQ :∀e a w,Q e a w→Q' e { a with defers:=ds } w) :∀(r:List Oper),r.all Zb=true→r.all (fun o=>o.guard.isNone)=true→∀(a:Act) (w:World),wpList P ops Q r a w→wpList P ops Q' r { a with defers:=ds } w
 | [],_,_,a,w,h=>hQ _ _ _ h
 | o :: r,hd,hg,a,w,h=>by
  simp only[List.all_cons,Bool.and_eq_true] at hd hg
  have hp :∀d v,({ a with defers:=ds }:Act).put d v={ a.put d v with defers:=ds }:=fun d v=>by cases d <;> rfl
  have hL:LetsOut Q→LetsOut Q':=fun⟨a,w,h⟩=>⟨_,w,hQ _ a w h⟩
  unfold wpList at h ⊢
  have ew:Region.wanted o (yielded ops ({ a with defers:=ds }:Act).tmps)=Region.wanted o (yielded ops a.tmps):=rfl
  rw[ew]
  split
  ·rename_i hw
   rw[if_pos hw] at h
   rcases h with h | ⟨h1,h2⟩
   ·exact .inl (ae hd.1 (fun a w=>Pq hQ r hd.2 hg.2 a w) hQ h)
   ·exact .inr ⟨h1,hL h2⟩
  ·rename_i hw
   rw[if_neg hw] at h
   rw[hp]
   exact Pq hQ r hd.2 hg.2 _ _ h
end
def QS (D:Nat):List Deferred:=[{ target:=.collected D,args:=#[] }]
def Qm (F:Nat→Prop) (os:List Own) (w:World) (D:Nat):Prop:=w.heap[D]?=some (.deferred (some []))∧¬ F D∧∀o:Own,o∈os→¬ o.owns D
def T9 (k:Nat) (Q:Exit→St→Prop) (F:Nat→Prop) (os:List Own) (w:World) (D:Nat):Exit→Act→World→Prop:=
 fun e a' w'=>∃s' F' os',Q e s'∧Rel F' os' s' { a' with defers:=[] } w'∧Ext F os w F' os' w' k∧a'.defers=QS D∧Qm F' os' w' D
def Qv (P:Program) (k:Nat) (c:Code) (Q:Exit→St→Prop) (s:St):Prop:=
 ∀F os a w D,Rel F os s { a with defers:=[] } w→a.defers=QS D→Qm F os w D→c.wp P (T9 k Q F os w D) a w
def Nk (P:Program) (k:Nat) (c:Code) (Q:Exit→St→Prop) (s:St):Prop:=
 ∀F os a w,Rel F os s a w→c.wp P (fun e a' w'=>∃D,w.heap.size≤D∧T9 k Q F os w D e a' w') a w
section
variable {P : Program} {k n : Nat} {ops : Array Oper} {Q : Exit → St → Prop} {s : St}
theorem Qm.ext {F F':Nat→Prop} {os os':List Own} {w w':World} {D:Nat} (h:Qm F os w D) (he:Ext F os w F' os' w' k):Qm F' os' w' D:=
 let ⟨e1,e2,e3⟩:=he.other D (Array.getElem?_eq_some_iff.1 h.1).1 h.2.1 h.2.2
 ⟨e1.trans h.1,e2,e3⟩
theorem Qv.cO {id:Nat} (hd:(ops.toList.all fun o=>Cu s.n o.dst)=true) (hl:ops.toList.all Zb=true) (hg:ops.toList.all (fun o=>o.guard.isNone)=true) (h:AO P k ops Q [] ops.toList s):Qv P k (.region id ops false) Q s:=by
 intro F os a w D hr hm hD
 have h1:=h (by simp) (by simp) (fun o ho=>List.all_eq_true.1 hd o ho) F os _ w hr _ fun _ _ _ hp=>hp
 have ha:a={ ({ a with defers:=[] }:Act) with defers:=QS D }:=by rw[← hm]
 rw[ha]
 refine wp_region_list (Pq ?_ _ hl hg _ _ h1)
 rintro e a' w' ⟨s',F',os',hQ,hR,hE⟩
 have hd':=hR.defers
 refine⟨s',F',os',hQ,?_,hE,rfl,hD.ext hE⟩
 have:({ ({ a' with defers:=QS D }:Act) with defers:=[] }:Act)=a':=by cases a';simp only at hd';rw[hd']
 rw[this];exact hR
theorem Qv.ret (h:Q .ret s):Qv P k .ret Q s:=fun F os a w D hr hm hD=>wp_ret ⟨s,F,os,h,hr,Ext.refl _ _ _ _,hm,hD⟩
theorem T9.trans {F F':Nat→Prop} {os os':List Own} {w w':World} {D:Nat} (he:Ext F os w F' os' w' k) {e:Exit} {a:Act} {w2:World}
  (h:T9 k Q F' os' w' D e a w2):T9 k Q F os w D e a w2:=
 let ⟨s2,F2,os2,hQ,hR,hE,hm,hD⟩:=h
 ⟨s2,F2,os2,hQ,hR,he.trans hE,hm,hD⟩
theorem Qv.seq {x y:Code} (h :∀K:St→Prop,(∀s,Qv P k y Q s→K s)→Qv P k x (I0 K Q) s):Qv P k (.seq x y) Q s:=by
 intro F os a w D hr hm hD
 refine wp_seq (wp_mono (h (Qv P k y Q) (fun _ h=>h) F os a w D hr hm hD) ?_)
 rintro e a' w' ⟨s',F',os',hQ,hR,hE,hm',hD'⟩
 cases e with
 | normal=>exact wp_mono (hQ F' os' a' w' D hR hm' hD') fun e a2 w2 hp=>hp.trans hE
 | exit id=>exact⟨s',F',os',hQ,hR,hE,hm',hD'⟩
 | goto l=>exact⟨s',F',os',hQ,hR,hE,hm',hD'⟩
 | ret=>exact⟨s',F',os',hQ,hR,hE,hm',hD'⟩
 | panic ch=>exact⟨s',F',os',hQ,hR,hE,hm',hD'⟩
 | outgrown=>exact⟨s',F',os',hQ,hR,hE,hm',hD'⟩
theorem SX {x y:Code} (h :∀K:St→Prop,(∀s,Nk P k y Q s→K s)→AW P k x (I0 K fun _ _=>False) s):Nk P k (.seq x y) Q s:=by
 intro F os a w hr
 refine wp_seq (wp_mono (h (Nk P k y Q) (fun _ h=>h) F os a w hr) ?_)
 rintro e a' w' ⟨s',F',os',hQ,hR,hE⟩
 cases e with
 | normal=>
  refine wp_mono (hQ F' os' a' w' hR) ?_
  rintro e a2 w2 ⟨D,hD,hp⟩
  exact⟨D,Nat.le_trans hE.size hD,hp.trans hE⟩
 | exit id=>exact hQ.elim
 | goto l=>exact hQ.elim
 | ret=>exact hQ.elim
 | panic ch=>exact hQ.elim
 | outgrown=>exact hQ.elim
theorem Nk.fK {x y:Code} (h :∀K:St→Prop,(∀s,Qv P k y Q s→K s)→Nk P k x (I0 K fun _ _=>False) s):Nk P k (.seq x y) Q s:=by
 intro F os a w hr
 refine wp_seq (wp_mono (h (Qv P k y Q) (fun _ h=>h) F os a w hr) ?_)
 rintro e a' w' ⟨D,hD0,s',F',os',hQ,hR,hE,hm',hD'⟩
 cases e with
 | normal=>
  refine wp_mono (hQ F' os' a' w' D hR hm' hD') ?_
  rintro e a2 w2 hp
  exact⟨D,hD0,hp.trans hE⟩
 | exit id=>exact hQ.elim
 | goto l=>exact hQ.elim
 | ret=>exact hQ.elim
 | panic ch=>exact hQ.elim
 | outgrown=>exact hQ.elim
theorem Nk.block {id:Nat} {c:Code} {K:St→Prop} (h:Nk P k c (I0 K fun _ _=>False) s):Nk P k (.block id c) (I0 K fun _ _=>False) s:=by
 intro F os a w hr
 refine wp_block (wp_mono (h F os a w hr) ?_)
 rintro e a' w' ⟨D,hD0,s',F',os',hQ,hR,hE,hm',hD'⟩
 cases e with
 | normal=>exact⟨D,hD0,s',F',os',hQ,hR,hE,hm',hD'⟩
 | exit id'=>exact hQ.elim
 | goto l=>exact hQ.elim
 | ret=>exact hQ.elim
 | panic ch=>exact hQ.elim
 | outgrown=>exact hQ.elim
theorem PE {c:Code} {s':St} (hw:Wk k s s') (h:Nk P k c Q s'):Nk P k c Q s:=fun F os a w hr=>by
 obtain⟨F1,os1,h1,e1⟩:=hw F os a w hr
 refine wp_mono (h F1 os1 a w h1) ?_
 rintro e a2 w2 ⟨D,hD,hp⟩
 exact⟨D,Nat.le_trans e1.size hD,hp.trans e1⟩
theorem Ext.fH {F F':Nat→Prop} {os os':List Own} {w w':World} {k':Nat} (h:k≤k') (he:Ext F os w F' os' w' k'):Ext F os w F' os' w' k:=
 ⟨he.sys,he.tape,he.output,he.size,he.LY,he.HP,he.other,fun i o hi ho=>he.Sa i o (by omega) ho⟩
theorem Aa.dH {N:Nat} {f:FuncId} {fn:Func} {c:Code} {args:List AV} {st:List Row} {R:AV→List Row→Prop} (hf:P.funcs[f]?=some fn) (hb:fn.body=some c) (hN:fn.ntmps=N) (hn:Nat.ble args.length N=true) (hk:st.length=k)
  (h:Nk P k c (ZS P k fn R) ⟨N,AL (Sc 0 args),st⟩):Aa P f args st R:=by
 subst hN;subst hk
 have e:MW args=AL (Sc 0 args):=by
  funext t
  rw[Ra];simp[MW,List.getD_eq_getElem?_getD]
 rw[← e] at h
 intro F os w vs hs hl
 refine (callsIn_wide (n:=0)).1 (callsIn_of_wp_marks hf hb trivial ((wpIn_wide).2 ?_) rfl)
 have hlen:=A6 hl
 have hn:=Nat.le_of_ble_eq_true hn
 have hrel:Rel F os ⟨fn.ntmps,MW args,st⟩ { tmps:=vs.toArray ++ Array.replicate (fn.ntmps - vs.toArray.size) undef,defers:=[] } w:=by
  refine⟨hs.st,fun t=>?_,by simp;omega,hs.rows,hs.inj,hs.EO,rfl⟩
  simp only[MW,List.getD_eq_getElem?_getD,Array.getD_eq_getD_getElem?]
  by_cases ht:t < args.length
  ·rw[List.getElem?_eq_getElem ht,Option.getD_some]
   obtain⟨u,e1,e2⟩:=BX hl t _ (List.getElem?_eq_getElem ht)
   rw[Array.getElem?_append_left (by simp;omega)]
   simp only[List.getElem?_toArray,e1,Option.getD_some]
   exact e2
  ·rw[List.getElem?_eq_none (by omega),Option.getD_none]
   simp[Ae]
 refine wp_mono (h F os _ w hrel) ?_
 rintro e a' w' ⟨D,hD0,s',F',os',hQ,hR,hE,hm,hD⟩
 have fin:(∃s2,Wk st.length s' s2∧Kn P s2 fn.results.toList fun vs=>R (P5 vs) s2.st)→LeavesInM Fence.wide 0 P fn a'.tmps (fun e w''=>
   ∃v r st' F' os',e=.returned v∧R r st'∧Ft F' os' st' w''∧Ae F' w'' os' r v∧Ext F os w F' os' w'' st.length) a'.defers .returning w':=fun⟨s2,hw,hres⟩=>by
  obtain⟨F2,os2,hR2,hE2⟩:=hw F' os' _ w' hR
  obtain⟨hD1,hD2,hD3⟩:=hD.ext hE2
  have hoth :∀b,b≠D→(w'.putObj D (.deferred none)).heap[b]?=w'.heap[b]?:=fun b hb=>World.putObj_heap_other hb
  have hR3:Rel F2 os2 s2 { a' with defers:=[] } (w'.putObj D (.deferred none)):=hR2.Nu (by simp) fun b hb=>hoth b fun e=>by
   rw[e] at hb
   rcases hb with hb | ⟨o,ho,hb⟩
   ·exact hD2 hb
   ·exact hD3 o ho hb
  have hE3:Ext F os w F2 os2 (w'.putObj D (.deferred none)) st.length:=(hE.trans hE2).Nu rfl rfl rfl (by simp) (fun b hb=>hoth b (by omega)) hs.EO
  obtain⟨rs,us,h1,h2,h3⟩:=Ki hR3 _ _ hres
  rw[hm]
  refine⟨by simp,.inl ⟨D,_,rfl,run_takeDeferred hD1,?_⟩⟩
  refine⟨_,Q8 a'.tmps h2,_,_,s2.st,F2,os2,rfl,h1,hR3.store,?_,hE3⟩
  match rs,us,h3 with
  | [],us,h3=>simp only[BG] at h3;subst h3;simp[P5,Ae,BG,valOf]
  | [r],us,h3=>
   simp only[BG] at h3
   obtain⟨u,_,rfl,h4,rfl⟩:=h3
   exact h4
  | r :: r' :: rs,us,h3=>
   have h3':=h3
   simp only[BG] at h3'
   obtain⟨u,_,rfl,_,u',us,rfl,_⟩:=h3'
   simp only[P5,Ae]
   exact⟨_,rfl,h3⟩
 cases e with
 | normal=>exact fin hQ
 | ret=>exact fin hQ
 | exit id=>exact hQ.elim
 | goto l=>exact hQ.elim
 | panic ch=>exact hQ.elim
 | outgrown=>exact hQ.elim
end
end Go.Abs

