import Derived.Test.YtpahalfiiahddaaGreatAbsJ
namespace Go.Abs
open Go
variable {P : Program} {F : Nat → Prop} {os : List Own} {s : St} {a : Act} {w : World} {k : Nat}
def MW (args:List AV):Nat→AV:=fun t=>args.getD t .Eu
def Kn (P:Program) (s:St):List ResultVar→(List AV→Prop)→Prop
 | [],K=>K []
 | .tmp t :: r,K=>Kn P s r fun vs=>K (s.env t :: vs)
 | .cell p t :: r,K=>N9 P s.st t (s.env p) fun v=>Kn P s r fun vs=>K (v :: vs)
def P5:List AV→AV
 | [v]=>v
 | vs=>.DE vs
def ZS (P:Program) (k:Nat) (fn:Func) (R:AV→List Row→Prop):Exit→St→Prop
 | .normal,s | .ret,s=>∃s',Wk k s s'∧Kn P s' fn.results.toList fun vs=>R (P5 vs) s'.st
 | _,_=>False
def valOf:List Value→Value
 | [v]=>v
 | vs=>.tuple vs.toArray
def QI (tmps:Array Value):ResultVar→Sem Value
 | .tmp t=>pure (tmps.getD t undef)
 | .cell p t=>do loadVar t (← asAddr (tmps.getD p undef))
theorem Q8 {fn:Func} {vs:List Value} (tmps:Array Value) (h:(fn.results.toList.mapM (QI tmps)).run P w=.ok vs w) :
  (results fn tmps).run P w=.ok (valOf vs) w:=by
 have e:results fn tmps=(do let vs ← fn.results.mapM (QI tmps);pure (if h:vs.size=1 then vs[0] else .tuple vs)):=rfl
 rw[e,Sem.run_bind,Array.mapM_eq_mapM_toList,Sem.run_map,h]
 simp only[Result.andThen_ok,Sem.run_pure]
 congr 1
 match vs with
 | []=>simp[valOf]
 | [v]=>simp[valOf]
 | v :: v' :: r=>simp[valOf]
theorem Ki (hr:Rel F os s a w) :∀(l:List ResultVar) (K:List AV→Prop),Kn P s l K→
  ∃vs us,K vs∧(l.mapM (QI a.tmps)).run P w=.ok us w∧BG F w os vs us
 | [],K,h=>⟨[],[],h,by simp,by simp[BG]⟩
 | .tmp t :: r,K,h=>by
  obtain⟨vs,us,h1,h2,h3⟩:=Ki hr r _ h
  refine⟨_,a.tmps.getD t undef :: us,h1,?_,by simp only[BG];exact⟨_,_,rfl,hr.env t,h3⟩⟩
  simp only[List.mapM_cons,Sem.run_bind,QI,Sem.run_pure,Result.andThen_ok,h2]
 | .cell p t :: r,K,h=>by
  obtain⟨v,u,h1,h2,h3⟩:=VQ (P:=P) hr h (hr.env p)
  obtain⟨vs,us,e1,e2,e3⟩:=Ki hr r _ h1
  refine⟨_,u :: us,e1,?_,by simp only[BG];exact⟨_,_,rfl,h3,e3⟩⟩
  have hp :∃ad,a.tmps.getD p undef=.pointer (some ad):=by
   unfold Instr.loadAt at h2
   generalize a.tmps.getD p undef=pv at h2
   unfold Instr.sureAddr at h2
   split at h2
   ·exact⟨_,rfl⟩
   ·simp at h2
  obtain⟨ad,had⟩:=hp
  rw[had] at h2
  simp only[Instr.loadAt,Instr.sureAddr,Sem.run_bind,Sem.run_pure,Result.andThen_ok] at h2
  have ha:(asAddr (a.tmps.getD p undef)).run P w=.ok ad w:=by rw[had];rfl
  simp only[List.mapM_cons,Sem.run_bind,QI,ha,Sem.run_pure,Result.andThen_ok,h2,e2]
theorem Aa.intro {f:FuncId} {fn:Func} {c:Code} {args:List AV} {st:List Row} {R:AV→List Row→Prop} (hf:P.funcs[f]?=some fn) (hb:fn.body=some c) (hn:args.length≤fn.ntmps)
  (h:AW P st.length c (ZS P st.length fn R) ⟨fn.ntmps,MW args,st⟩):Aa P f args st R:=by
 intro F os w vs hs hl
 refine calls_of_wp hf hb ?_
 have hlen:=A6 hl
 have hrel:Rel F os ⟨fn.ntmps,MW args,st⟩ { tmps:=vs.toArray ++ Array.replicate (fn.ntmps - vs.toArray.size) undef,defers:=[] } w:=by
  refine⟨hs.st,fun t=>?_,by simp;omega,hs.rows,hs.inj,hs.EO,rfl⟩
  simp only[MW,List.getD_eq_getElem?_getD,Array.getD_eq_getD_getElem?]
  by_cases ht:t < args.length
  ·rw[List.getElem?_eq_getElem ht,Option.getD_some]
   obtain⟨u,e1,e2⟩:=BX hl t _ (List.getElem?_eq_getElem ht)
   rw[Array.getElem?_append_left (by simp;omega)]
   simp only[List.getElem?_toArray,e1,Option.getD_some]
   exact e2
  ·rw[List.getElem?_eq_none (by omega),Option.getD_none]
   simp[Ae]
 refine wp_mono (h F os _ w hrel) ?_
 rintro e a' w' ⟨s',F',os',hQ,hR,hE⟩
 have fin:(∃s2,Wk st.length s' s2∧Kn P s2 fn.results.toList fun vs=>R (P5 vs) s2.st)→a'.defers=[]∧∃v,(results fn a'.tmps).run P w'=.ok v w'∧
   ∃v2 r st' F' os',Ending.returned v=.returned v2∧R r st'∧Ft F' os' st' w'∧Ae F' w' os' r v2∧Ext F os w F' os' w' st.length:=fun⟨s2,hw,hres⟩=>by
  obtain⟨F2,os2,hR2,hE2⟩:=hw F' os' a' w' hR
  obtain⟨rs,us,h1,h2,h3⟩:=Ki hR2 _ _ hres
  refine⟨hR2.defers,_,Q8 a'.tmps h2,_,_,s2.st,F2,os2,rfl,h1,hR2.store,?_,hE.trans hE2⟩
  match rs,us,h3 with
  | [],us,h3=>simp only[BG] at h3;subst h3;simp[P5,Ae,BG,valOf]
  | [r],us,h3=>
   simp only[BG] at h3
   obtain⟨u,_,rfl,h4,rfl⟩:=h3
   exact h4
  | r :: r' :: rs,us,h3=>
   have h3':=h3
   simp only[BG] at h3'
   obtain⟨u,_,rfl,_,u',us,rfl,_⟩:=h3'
   simp only[P5,Ae]
   exact⟨_,rfl,h3⟩
 cases e with
 | normal=>exact fin hQ
 | ret=>exact fin hQ
 | exit id=>exact hQ.elim
 | goto l=>exact hQ.elim
 | panic ch=>exact hQ.elim
 | outgrown=>exact hQ.elim
theorem Fq {t:Nat} (h:s.env t=.zc) (e:TypeId) {size:Nat} (hpos:0 < size):Wk k s { s with env:=Dh s.env t (.own s.st.length 0 0),st:=s.st ++ [⟨0,e,size,[]⟩] }:=fun F os a w hr=>by
 obtain⟨h1,h2,h3⟩:=hr.UA (k:=k) (e:=e) hpos
 refine⟨F,_,⟨h1.st,fun j=>?_,h1.size,h1.rows,h1.inj,h1.EO,h1.defers⟩,h2⟩
 simp only[Dh]
 split
 ·rename_i ej;subst ej
  have:=hr.env j
  rw[h] at this
  simp only[Ae] at this ⊢
  obtain⟨ad,ead⟩:=this
  exact⟨⟨⟨0,e,size,[]⟩,none,0,Dv⟩,by rw[hr.len];exact Hg _ _,Nat.le_refl _,⟨_,_,_,ead⟩,fun _=>⟨Nat.zero_le _,.inl ⟨rfl,ad,ead⟩⟩⟩
 ·exact h1.env j
def idx (l:List Nat) (x:Nat):Option Nat:=l.findIdx? (· == x)
def HI (sel:List Nat):AV→AV
 | .own id g n=>match idx sel id with
  | some j=>.own j g n
  | none=>.Eu
 | .ptr id g i off=>match idx sel id with
  | some j=>.ptr j g i off
  | none=>.Eu
 | .fn .. | .agg _ | .DE _=>.Eu
 | v=>v
def JH (sel:List Nat) (x:AV):AV:=two (HI sel) x
theorem Xh {sel:List Nat} {c:AV} {el s:Nat} {ys:List (List AV)} (h:JH sel c=.dv el s ys):c=.dv el s ys:=by
 refine Wh (X:=HI sel) (fun c h=>?_) h
 cases c <;> simp only[HI] at h <;> first | exact h | cases h | (split at h <;> cases h)
def Jm (sel:List Nat):AV→AV
 | .fn f cs=>.fn f (cs.map (JH sel))
 | .agg cs=>.agg (cs.map (JH sel))
 | .DE cs=>.DE (cs.map (JH sel))
 | v=>JH sel v
theorem aK {sel:List Nat} {os':List Own} (hos :∀j id,idx sel id=some j→os'[j]?=os[id]?) {x:AV} {v:Value} (h:Ae F w os x v):Ae F w os' (HI sel x) v:=by
 cases x with
 | own id g n=>
  simp only[HI]
  split
  ·rename_i j hj
   simp only[Ae] at h ⊢
   rw[hos j id hj];exact h
  ·simp[Ae]
 | ptr id g i off=>
  simp only[HI]
  split
  ·rename_i j hj
   simp only[Ae] at h ⊢
   rw[hos j id hj];exact h
  ·simp[Ae]
 | fn f cs=>simp[HI,Ae]
 | agg cs=>simp[HI,Ae]
 | DE cs=>simp[HI,Ae]
 | _=>simp only[HI,Ae] at h ⊢ <;> exact h
theorem VT {sel:List Nat} {os':List Own} (hos :∀j id,idx sel id=some j→os'[j]?=os[id]?) {x:AV} {v:Value} (h:Ae F w os x v):Ae F w os' (JH sel x) v:=
 MT (fun _ _ h=>aK hos h) _ _ h
theorem Pf {sel:List Nat} {os':List Own} (hos :∀j id,idx sel id=some j→os'[j]?=os[id]?) {xs:List AV} {us:List Value} (h:BG F w os xs us):BG F w os' (xs.map (JH sel)) us:=
 Cv (by simp[A6 h]) fun i x u hx hu=>by
  simp only[List.getElem?_map,Option.map_eq_some_iff] at hx
  obtain⟨y,hy,rfl⟩:=hx
  obtain⟨u',e1,e2⟩:=BX h i y hy
  rw[hu] at e1;cases e1
  exact VT hos e2
theorem aa {sel:List Nat} {os':List Own} (hos :∀j id,idx sel id=some j→os'[j]?=os[id]?) {x:AV} {v:Value} (h:Ae F w os x v):Ae F w os' (Jm sel x) v:=by
 cases x with
 | fn f cs=>simp only[Jm,Ae] at h ⊢;obtain⟨us,e,hl⟩:=h;exact⟨us,e,Pf hos hl⟩
 | agg cs=>simp only[Jm,Ae] at h ⊢;obtain⟨us,e,hl⟩:=h;exact⟨us,e,Pf hos hl⟩
 | DE cs=>simp only[Jm,Ae] at h ⊢;obtain⟨us,e,hl⟩:=h;exact⟨us,e,Pf hos hl⟩
 | _=>exact VT hos h
def stays (sel:List Nat):AV→Bool
 | .own id _ _ | .ptr id _ _ _=>sel[id]? == some id
 | .fn .. | .agg _ | .DE _=>false
 | _=>true
theorem YM {sel:List Nat} {os':List Own} (hos :∀(j id:Nat),sel[j]?=some id→os'[j]?=os[id]?) {x:AV} {v:Value} (hx:stays sel x=true) (h:Ae F w os x v):Ae F w os' x v:=by
 cases x with
 | own id g n=>
  simp only[stays,beq_iff_eq] at hx
  simp only[Ae] at h ⊢
  rw[hos _ _ hx];exact h
 | ptr id g i off=>
  simp only[stays,beq_iff_eq] at hx
  simp only[Ae] at h ⊢
  rw[hos _ _ hx];exact h
 | fn f cs=>simp[stays] at hx
 | agg cs=>simp[stays] at hx
 | DE cs=>simp[stays] at hx
 | _=>simp only[Ae] at h ⊢ <;> exact h
def CG (st:List Row) (sel:List Nat):List Row:=sel.filterMap (st[·]?)
theorem Wk.select (sel:List Nat) (hk :∀i,i < k→sel[i]?=some i) (hnd:sel.Nodup) (hlt :∀i∈sel,i < s.st.length)
  (hrows :∀i∈sel,∀row,s.st[i]?=some row→∀x∈row.xs,∀c∈x,stays sel c=true):Wk k s ⟨s.n,fun t=>Jm sel (s.env t),CG s.st sel⟩:=fun F os a w hr=>by
 have hlen:=hr.len
 have hos1 :∀(j id:Nat),sel[j]?=some id→(sel.filterMap (os[·]?))[j]?=os[id]?:=by
  have :∀(l:List Nat),(∀i∈l,i < os.length)→∀(j id:Nat),l[j]?=some id→(l.filterMap (os[·]?))[j]?=os[id]?:=fun l=>by
   induction l with
   | nil=>intro _ j id h;simp at h
   | cons i l ih=>
    intro hl j id h
    have hi:=hl i (by simp)
    rw[List.filterMap_cons,List.getElem?_eq_getElem hi]
    cases j with
    | zero=>simp only[List.getElem?_cons_zero,Option.some.injEq] at h;subst h;simp[List.getElem?_eq_getElem hi]
    | succ j=>simp only[List.getElem?_cons_succ] at h ⊢;exact ih (fun x hx=>hl x (by simp[hx])) j id h
  exact this sel (fun i hi=>by rw[← hlen];exact hlt i hi)
 have hos2 :∀j id,idx sel id=some j→(sel.filterMap (os[·]?))[j]?=os[id]?:=fun j id h=>by
  refine hos1 j id ?_
  unfold idx at h
  rw[List.findIdx?_eq_some_iff_getElem] at h
  obtain⟨hj,he,_⟩:=h
  rw[List.getElem?_eq_getElem hj]
  simpa using he
 have hget :∀(j:Nat) (o:Own),(sel.filterMap (os[·]?))[j]?=some o→∃id,sel[j]?=some id∧os[id]?=some o:=fun j o h=>by
  have hl2:(sel.filterMap (os[·]?)).length=sel.length:=by
   have :∀(l:List Nat),(∀i∈l,i < os.length)→(l.filterMap (os[·]?)).length=l.length:=fun l=>by
    induction l with
    | nil=>simp
    | cons i l ih=>intro hl;rw[List.filterMap_cons,List.getElem?_eq_getElem (hl i (by simp))];simp[ih (fun x hx=>hl x (by simp[hx]))]
   exact this sel (fun i hi=>by rw[← hlen];exact hlt i hi)
  have hj:j < sel.length:=by rw[← hl2];exact (List.getElem?_eq_some_iff.1 h).1
  refine⟨sel[j],List.getElem?_eq_getElem hj,?_⟩
  rw[← hos1 j _ (List.getElem?_eq_getElem hj)];exact h
 refine⟨F,sel.filterMap (os[·]?),⟨?_,fun t=>aa hos2 (hr.env t),hr.size,fun j o ho=>?_,fun i j oi oj b hi hj hbi hbj=>?_,hr.EO,hr.defers⟩,⟨rfl,rfl,rfl,Nat.le_refl _,fun _ h=>h,fun _ _=>rfl,fun b _ h1 h2=>⟨rfl,h1,fun o ho=>?_⟩,fun i o hi ho=>⟨o,by rw[hos1 i i (hk i hi)];exact ho,Nat.le_refl _,rfl,fun _=>⟨rfl,rfl,rfl⟩⟩⟩⟩
 ·simp only[CG,← hr.st,List.map_filterMap]
  congr 1
  funext i
  simp
 ·obtain⟨id,hid,hoid⟩:=hget j o ho
  have hok:=hr.rows id o hoid
  refine⟨hok.pos,hok.lens,hok.none,fun b hb=>?_,hok.mo,hok.deep⟩
  obtain⟨h1,cur,h2,h3,h4,h5,h6⟩:=hok.some b hb
  refine⟨h1,cur,h2,h3,h4,h5,fun i x hx j' c hc=>?_⟩
  obtain⟨u,e1,e2⟩:=h6 i x hx j' c hc
  refine⟨u,e1,YM hos1 (hrows id (List.mem_of_getElem? hid) o.row ?_ x (List.mem_of_getElem? hx) c (List.mem_of_getElem? hc)) e2⟩
  rw[← hr.st,List.getElem?_map,hoid];rfl
 ·obtain⟨id,hid,hoid⟩:=hget i oi hi
  obtain⟨id',hid',hoid'⟩:=hget j oj hj
  have e:=hr.inj id id' oi oj b hoid hoid' hbi hbj
  subst e
  have hi':=List.getElem?_eq_some_iff.1 hid
  have hj':=List.getElem?_eq_some_iff.1 hid'
  obtain⟨hi1,hi2⟩:=hi'
  obtain⟨hj1,hj2⟩:=hj'
  have hp:=List.pairwise_iff_getElem.1 hnd
  rcases Nat.lt_trichotomy i j with h | h | h
  ·exact absurd (hi2.trans hj2.symm) (hp i j hi1 hj1 h)
  ·exact h
  ·exact absurd (hj2.trans hi2.symm) (hp j i hj1 hi1 h)
 ·simp only[List.mem_filterMap] at ho
  obtain⟨i,_,hi⟩:=ho
  exact h2 o (List.mem_of_getElem? hi)
end Go.Abs

