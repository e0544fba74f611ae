import Derived.Test.YtpahalfiiahddaaGreatAbsT

namespace Go.Abs
open Go
variable {P : Program} {F : Nat → Prop} {os : List Own} {s : St} {a : Act} {w : World} {k : Nat}
def pos (sel:List Nat) (N p:Nat):Nat:=match sel[p]? with | some j=>j | none=>p - sel.length+N
def N6 (sel:List Nat) (N:Nat):AV→AV
 | .own id g n=>.own (pos sel N id) g n
 | .ptr id g i off=>.ptr (pos sel N id) g i off
 | .fn .. | .agg _ | .DE _=>.Eu
 | v=>v
def Lg (sel:List Nat) (N:Nat) (x:AV):AV:=two (N6 sel N) x
theorem bJ {sel:List Nat} {N:Nat} {c:AV} {el s:Nat} {ys:List (List AV)} (h:Lg sel N c=.dv el s ys):c=.dv el s ys:=by
 refine Wh (X:=N6 sel N) (fun c h=>?_) h
 cases c <;> simp only[N6] at h <;> first | exact h | cases h
def UQ (sel:List Nat) (N:Nat):AV→AV
 | .fn f cs=>.fn f (cs.map (Lg sel N))
 | .agg cs=>.agg (cs.map (Lg sel N))
 | .DE cs=>.DE (cs.map (Lg sel N))
 | v=>Lg sel N v
def HO (sel:List Nat) (N:Nat) (row:Row):Row:={ row with xs:=row.xs.map (·.map (Lg sel N)) }
def G6 (sel:List Nat) (rs:List Row):Nat→List Row→List Row
 | _,[]=>[]
 | i,row :: st=>(match idx sel i with | some p=>(match rs[p]? with | some r=>r | none=>row) | none=>row) :: G6 sel rs (i+1) st
theorem Qs {sel:List Nat} {rs:List Row} :∀(st:List Row) (i j:Nat),(G6 sel rs i st)[j]?=(st[j]?).map fun row=>match idx sel (i+j) with | some p=>(match rs[p]? with | some r=>r | none=>row) | none=>row
 | [],i,j=>by simp[G6]
 | row :: st,i,0=>by simp[G6]
 | row :: st,i,j+1=>by
  simp only[G6,List.getElem?_cons_succ]
  rw[Qs st (i+1) j,show i+1+j=i+(j+1) by omega]
theorem Oa {sel:List Nat} {id j:Nat} (h:idx sel id=some j):sel[j]?=some id:=by
 unfold idx at h
 rw[List.findIdx?_eq_some_iff_getElem] at h
 obtain⟨h1,h2,_⟩:=h
 rw[List.getElem?_eq_getElem h1]
 simpa using h2
theorem WL {sel:List Nat} (hnd:sel.Nodup) {id j:Nat} (h:sel[j]?=some id):idx sel id=some j:=by
 unfold idx
 obtain⟨h1,h2⟩:=List.getElem?_eq_some_iff.1 h
 rw[List.findIdx?_eq_some_iff_getElem]
 refine⟨h1,by simp[h2],fun i hi=>?_⟩
 have:=List.pairwise_iff_getElem.1 hnd i j (by omega) h1 hi
 simp only[beq_iff_eq,ne_eq,Bool.not_eq_true,beq_eq_false_iff_ne]
 rw[← h2];exact this
theorem Zv {sel:List Nat} {id:Nat} (h:idx sel id=none):id ∉ sel:=by
 unfold idx at h
 rw[List.findIdx?_eq_none_iff] at h
 intro hm
 simpa using h id hm
def Ue (rows0 rows1:List Row):Prop:=∀(j:Nat) r0 r1,rows0[j]?=some r0→rows1[j]?=some r1→r1.gen=r0.gen→r1.xs.length=r0.xs.length
theorem Lm {f:FuncId} {args args':List AV} {d:Option Tmp} {K:St→Prop} {rows0 rows1 rows2:List Row} {v:AV} (sel:List Nat) (h:Aa P f args' rows0 fun r st=>r=v∧st=rows1 ++ rows2)
  (hnd:sel.Nodup) (hlt :∀i∈sel,i < s.st.length) (hs:(CG s.st sel).map (Bp sel)=rows0) (hl0:Ko rows0) (hargs:args.map (Jm sel)=args') (hlen:rows1.length=sel.length) (hL :∀row∈rows1 ++ rows2,∀x∈row.xs,∀c∈x,c.kept=true→(Lg sel s.st.length c).kept=true)
  (hK:Ue rows0 rows1→K ({ s with st:=G6 sel (rows1.map (HO sel s.st.length)) 0 s.st ++ rows2.map (HO sel s.st.length) }.put d (UQ sel s.st.length v))):callThen P k s f args d K:=by
 intro F os a w vs hr hl
 subst hs
 have hN:s.st.length=os.length:=hr.len
 have hos1 :∀(j id:Nat),sel[j]?=some id→(sel.filterMap (os[·]?))[j]?=os[id]?:=by
  have :∀(l:List Nat),(∀i∈l,i < os.length)→∀(j id:Nat),l[j]?=some id→(l.filterMap (os[·]?))[j]?=os[id]?:=fun l=>by
   induction l with
   | nil=>intro _ j id h;simp at h
   | cons i l ih=>
    intro hl j id h
    have hi:=hl i (by simp)
    rw[List.filterMap_cons,List.getElem?_eq_getElem hi]
    cases j with
    | zero=>simp only[List.getElem?_cons_zero,Option.some.injEq] at h;subst h;simp[List.getElem?_eq_getElem hi]
    | succ j=>simp only[List.getElem?_cons_succ] at h ⊢;exact ih (fun x hx=>hl x (by simp[hx])) j id h
  exact this sel (fun i hi=>by rw[← hN];exact hlt i hi)
 let so:Own→Own:=fun o=>{ o with row:=Bp sel o.row }
 let osA:=(sel.filterMap (os[·]?)).map so
 have hl2:(sel.filterMap (os[·]?)).length=sel.length:=by
  have :∀(l:List Nat),(∀i∈l,i < os.length)→(l.filterMap (os[·]?)).length=l.length:=fun l=>by
   induction l with
   | nil=>simp
   | cons i l ih=>intro hl;rw[List.filterMap_cons,List.getElem?_eq_getElem (hl i (by simp))];simp[ih (fun x hx=>hl x (by simp[hx]))]
  exact this sel (fun i hi=>by rw[← hN];exact hlt i hi)
 have hget :∀(j:Nat) (o:Own),osA[j]?=some o→∃id o0,sel[j]?=some id∧os[id]?=some o0∧o=so o0:=fun j o h=>by
  simp only[osA,List.getElem?_map,Option.map_eq_some_iff] at h
  obtain⟨o0,h0,rfl⟩:=h
  have hj:j < sel.length:=by rw[← hl2];exact (List.getElem?_eq_some_iff.1 h0).1
  refine⟨sel[j],o0,List.getElem?_eq_getElem hj,?_,rfl⟩
  rw[← hos1 j _ (List.getElem?_eq_getElem hj)];exact h0
 have hidx :∀id j,idx sel id=some j→osA[j]?=(os[id]?).map so:=fun id j hj=>by
  simp only[osA,List.getElem?_map]
  rw[hos1 j id (Oa hj)]
 have hren0 :∀x v,Ae F w os x v→Ae F w osA (HI sel x) v:=fun x v h=>by
  cases x with
  | own id g n=>
   simp only[HI]
   split
   ·rename_i j hj
    simp only[Ae] at h ⊢
    obtain⟨o,h1,h2,h3,h4⟩:=h
    exact⟨so o,by rw[hidx id j hj,h1];rfl,h2,h3,fun hg=>by
     obtain⟨a1,a2⟩:=h4 hg
     exact⟨by simpa [so,Bp] using a1,by simpa [so,Bp] using a2⟩⟩
   ·simp[Ae]
  | ptr id g i off=>
   simp only[HI]
   split
   ·rename_i j hj
    simp only[Ae] at h ⊢
    obtain⟨o,h1,h2,h3,h4⟩:=h
    exact⟨so o,by rw[hidx id j hj,h1];rfl,h2,h3,fun hg=>by
     obtain⟨a1,a2,a3⟩:=h4 hg
     exact⟨by simpa [so,Bp] using a1,a2,a3⟩⟩
   ·simp[Ae]
  | fn f cs=>simp[HI,Ae]
  | agg cs=>simp[HI,Ae]
  | DE cs=>simp[HI,Ae]
  | _=>simp only[HI,Ae] at h ⊢ <;> exact h
 have hren1 :∀x v,Ae F w os x v→Ae F w osA (JH sel x) v:=MT hren0
 have hrenL :∀cs us,BG F w os cs us→BG F w osA (cs.map (JH sel)) us:=fun cs us h=>
  Cv (by simp[A6 h]) fun i x u hx hu=>by
   simp only[List.getElem?_map,Option.map_eq_some_iff] at hx
   obtain⟨y,hy,rfl⟩:=hx
   obtain⟨u',hu',hr'⟩:=BX h i y hy
   rw[hu'] at hu;cases hu
   exact hren1 _ _ hr'
 have hren :∀x v,Ae F w os x v→Ae F w osA (Jm sel x) v:=fun x v h=>by
  cases x with
  | fn f cs=>simp only[Jm,Ae] at h ⊢;obtain⟨us,e,hl⟩:=h;exact⟨us,e,hrenL _ _ hl⟩
  | agg cs=>simp only[Jm,Ae] at h ⊢;obtain⟨us,e,hl⟩:=h;exact⟨us,e,hrenL _ _ hl⟩
  | DE cs=>simp only[Jm,Ae] at h ⊢;obtain⟨us,e,hl⟩:=h;exact⟨us,e,hrenL _ _ hl⟩
  | _=>exact hren1 _ _ h
 have hstR:osA.map Own.row=(CG s.st sel).map (Bp sel):=by
  have h0:os.map Own.row=s.st:=hr.st
  simp only[osA,List.map_map,CG]
  rw[← h0]
  have hco:Own.row ∘ so=Bp sel ∘ Own.row:=rfl
  rw[hco,← List.map_map,List.map_filterMap]
  congr 1
  simp[Function.comp_def]
 have hSO:Ft F osA ((CG s.st sel).map (Bp sel)) w:=by
  refine⟨hstR,fun j o ho=>?_,fun i j oi oj b hi hj hbi hbj=>?_,hr.EO⟩
  ·obtain⟨id,o0,hid,ho0,rfl⟩:=hget j o ho
   have hok:=hr.rows id o0 ho0
   have hm:Bp sel o0.row∈(CG s.st sel).map (Bp sel):=by
    rw[← hstR]
    exact List.mem_map.2 ⟨so o0,List.mem_of_getElem? ho,rfl⟩
   refine⟨hok.pos,fun x hx=>⟨?_,hl0 _ hm x hx⟩,fun hb=>?_,fun b hb=>?_,hok.mo,hok.deep.mapped (JH sel) (fun _ _ _ _ h=>Xh h) rfl rfl rfl rfl⟩
   ·simp only[so,Bp,List.mem_map] at hx
    obtain⟨y,hy,rfl⟩:=hx
    simpa [so,Bp] using (hok.lens y hy).1
   ·obtain⟨h1,h2⟩:=hok.none hb
    exact⟨by simp[so,Bp,h1],h2⟩
   ·obtain⟨h1,cur,h2,h3,h4,h5,h6⟩:=hok.some b hb
    refine⟨h1,cur,h2,h3,by simpa [so,Bp] using h4,h5,fun i x hx j' c hc=>?_⟩
    simp only[so,Bp,List.getElem?_map,Option.map_eq_some_iff] at hx
    obtain⟨y,hy,rfl⟩:=hx
    simp only[List.getElem?_map,Option.map_eq_some_iff] at hc
    obtain⟨c0,hc0,rfl⟩:=hc
    obtain⟨u,e1,e2⟩:=h6 i y hy j' c0 hc0
    exact⟨u,e1,hren1 _ _ e2⟩
  ·obtain⟨id,o0,hid,ho0,rfl⟩:=hget i oi hi
   obtain⟨id',o0',hid',ho0',rfl⟩:=hget j oj hj
   have he:=hr.inj id id' o0 o0' b ho0 ho0' hbi hbj
   subst he
   have h1:=WL hnd hid
   rw[WL hnd hid'] at h1
   exact (Option.some.inj h1).symm
 have hlA:BG F w osA args' vs:=by
  subst hargs
  exact Cv (by simp[A6 hl]) fun i x u hx hu=>by
   simp only[List.getElem?_map,Option.map_eq_some_iff] at hx
   obtain⟨y,hy,rfl⟩:=hx
   obtain⟨u',hu',hr'⟩:=BX hl i y hy
   rw[hu'] at hu;cases hu
   exact hren _ _ hr'
 refine (h F osA w vs hSO hlA).mono ?_
 rintro e w' ⟨u,r,st',F',os',rfl,⟨rfl,rfl⟩,hs',hru,he⟩
 have hl':os'.length=sel.length+rows2.length:=by
  have:=congrArg List.length hs'.st
  rw[List.length_map,List.length_append] at this
  omega
 have hpl:((CG s.st sel).map (Bp sel)).length=sel.length:=by
  rw[← hstR];simp[osA,hl2]
 let N:=s.st.length
 let un:Own→Own:=fun o=>{ o with row:=HO sel N o.row }
 let f2:Nat→Own→Own:=fun i o=>match idx sel i with | some p=>(match os'[p]? with | some o'=>un o' | none=>o) | none=>o
 let os2:=os.mapIdx f2 ++ (os'.drop sel.length).map un
 have hNl:(os.mapIdx f2).length=N:=by simp[N,hN]
 have hgL :∀i,i < N→os2[i]?=(os[i]?).map (f2 i):=fun i hi=>by
  simp only[os2];rw[List.getElem?_append_left (by omega),List.getElem?_mapIdx]
 have hgP :∀p o',os'[p]?=some o'→os2[pos sel N p]?=some (un o'):=fun p o' ho'=>by
  unfold pos
  split
  ·rename_i j hj
   have hjN:j < N:=hlt j (List.mem_of_getElem? hj)
   rw[hgL j hjN,List.getElem?_eq_getElem (by omega)]
   simp only[Option.map_some,f2,WL hnd hj,ho']
  ·rename_i hn
   have hp:sel.length≤p:=List.getElem?_eq_none_iff.1 hn
   simp only[os2]
   rw[List.getElem?_append_right (by omega),hNl,List.getElem?_map,List.getElem?_drop,show sel.length+(p - sel.length+N - N)=p by omega,ho']
   rfl
 have hgO :∀i,i < N→idx sel i=none→os2[i]?=os[i]?:=fun i hi hx=>by
  rw[hgL i hi]
  have:f2 i=id:=by funext o;simp[f2,hx]
  rw[this,Option.map_id];rfl
 have hcase :∀i o,os2[i]?=some o→(∃p o',os'[p]?=some o'∧o=un o'∧i=pos sel N p)∨(i < N∧idx sel i=none∧os[i]?=some o):=fun i o ho=>by
  rcases Nat.lt_or_ge i N with hi | hi
  ·rcases hx:idx sel i with _ | p
   ·exact .inr ⟨hi,rfl,by rw[← hgO i hi hx];exact ho⟩
   ·have hp:=Oa hx
    have hpl2:p < os'.length:=by have:=(List.getElem?_eq_some_iff.1 hp).1;omega
    have h1:=hgP p _ (List.getElem?_eq_getElem hpl2)
    have h2:pos sel N p=i:=by unfold pos;rw[hp]
    rw[h2,ho] at h1
    exact .inl ⟨p,_,List.getElem?_eq_getElem hpl2,Option.some.inj h1,h2.symm⟩
  ·have ho2:=ho
   simp only[os2] at ho2
   rw[List.getElem?_append_right (by omega),hNl,List.getElem?_map,Option.map_eq_some_iff] at ho2
   obtain⟨o',h1,h2⟩:=ho2
   rw[List.getElem?_drop] at h1
   refine .inl ⟨_,o',h1,h2.symm,?_⟩
   unfold pos
   rw[List.getElem?_eq_none_iff.2 (by omega)]
   simp only;omega
 have hosle:D3 os os2:=fun i o ho=>by
  have hiN:i < N:=by have:=(List.getElem?_eq_some_iff.1 ho).1;omega
  rcases hx:idx sel i with _ | p
  ·exact⟨o,by rw[hgO i hiN hx];exact ho,Nat.le_refl _,rfl,fun _=>⟨rfl,rfl,rfl⟩⟩
  ·have hp:=Oa hx
   have h1:osA[p]?=some (so o):=by rw[hidx i p hx,ho];rfl
   obtain⟨o',ho',e1,e2,e3⟩:=he.Sa p (so o) (by rw[hpl];exact (List.getElem?_eq_some_iff.1 hp).1) h1
   refine⟨un o',?_,e1,e2,fun hg=>?_⟩
   ·have:=hgP p o' ho'
    unfold pos at this
    rw[hp] at this
    exact this
   ·obtain⟨g1,g2,g3⟩:=e3 hg
    exact⟨g1,g2,by simpa [so,un,Bp,HO] using g3⟩
 have hmono :∀x v,Ae F w os x v→Ae F' w' os2 x v:=fun x v h=>B6 he.LY he.HP os _ hosle x v h
 have hun0 :∀x v,Ae F' w' os' x v→Ae F' w' os2 (N6 sel N x) v:=fun x v h=>by
  cases x with
  | own id g n=>
   simp only[N6,Ae] at h ⊢
   obtain⟨o,h1,h2,h3,h4⟩:=h
   exact⟨un o,hgP _ _ h1,h2,h3,fun hg=>by
    obtain⟨a1,a2⟩:=h4 hg
    exact⟨by simpa [un,HO] using a1,by simpa [un,HO] using a2⟩⟩
  | ptr id g i off=>
   simp only[N6,Ae] at h ⊢
   obtain⟨o,h1,h2,h3,h4⟩:=h
   exact⟨un o,hgP _ _ h1,h2,h3,fun hg=>by
    obtain⟨a1,a2,a3⟩:=h4 hg
    exact⟨by simpa [un,HO] using a1,a2,a3⟩⟩
  | fn f cs=>simp[N6,Ae]
  | agg cs=>simp[N6,Ae]
  | DE cs=>simp[N6,Ae]
  | _=>simp only[N6,Ae] at h ⊢ <;> exact h
 have hun1 :∀x v,Ae F' w' os' x v→Ae F' w' os2 (Lg sel N x) v:=MT hun0
 have hunL :∀cs us,BG F' w' os' cs us→BG F' w' os2 (cs.map (Lg sel N)) us:=fun cs us h=>
  Cv (by simp[A6 h]) fun i x u hx hu=>by
   simp only[List.getElem?_map,Option.map_eq_some_iff] at hx
   obtain⟨y,hy,rfl⟩:=hx
   obtain⟨u',hu',hr'⟩:=BX h i y hy
   rw[hu'] at hu;cases hu
   exact hun1 _ _ hr'
 have hunr :∀x v,Ae F' w' os' x v→Ae F' w' os2 (UQ sel N x) v:=fun x v h=>by
  cases x with
  | fn f cs=>simp only[UQ,Ae] at h ⊢;obtain⟨us,e,hl⟩:=h;exact⟨us,e,hunL _ _ hl⟩
  | agg cs=>simp only[UQ,Ae] at h ⊢;obtain⟨us,e,hl⟩:=h;exact⟨us,e,hunL _ _ hl⟩
  | DE cs=>simp only[UQ,Ae] at h ⊢;obtain⟨us,e,hl⟩:=h;exact⟨us,e,hunL _ _ hl⟩
  | _=>exact hun1 _ _ h
 have hB :∀(i:Nat) (o:Own),idx sel i=none→os[i]?=some o→∀b,o.owns b→w'.heap[b]?=w.heap[b]?∧¬ F' b∧∀o1:Own,o1∈os'→¬ o1.owns b:=fun i o hx ho b hb=>by
  refine he.other b ((hr.rows _ o ho).lt hb) ((hr.rows _ o ho).nF hb) fun oA hoA e=>?_
  obtain⟨j,hj⟩:=List.mem_iff_getElem?.1 hoA
  obtain⟨id,o0,hid,ho0,rfl⟩:=hget j oA hj
  have:=hr.inj id i o0 o b ho0 ho e hb
  subst this
  exact Zv hx (List.mem_of_getElem? hid)
 have hrows:os2.map Own.row=G6 sel (rows1.map (HO sel N)) 0 s.st ++ rows2.map (HO sel N):=by
  simp only[os2,List.map_append]
  have hst:os'.map Own.row=rows1 ++ rows2:=hs'.st
  congr 1
  ·apply List.ext_getElem?
   intro i
   rw[List.getElem?_map,List.getElem?_mapIdx,Qs,Nat.zero_add]
   have h0:os.map Own.row=s.st:=hr.st
   rw[← h0,List.getElem?_map]
   cases hoi:os[i]? with
   | none=>rfl
   | some o=>
    simp only[Option.map_some,f2]
    cases hx:idx sel i with
    | none=>rfl
    | some p=>
     have hpm:p < sel.length:=(List.getElem?_eq_some_iff.1 (Oa hx)).1
     have hp':p < os'.length:=by omega
     have h3:(os'.map Own.row)[p]?=rows1[p]?:=by rw[hst,List.getElem?_append_left (by omega)]
     rw[List.getElem?_map,List.getElem?_eq_getElem hp'] at h3
     simp only[List.getElem?_map,List.getElem?_eq_getElem hp',← h3,Option.map_some,un]
  ·rw[List.map_map]
   have hco:Own.row ∘ un=HO sel N ∘ Own.row:=rfl
   rw[hco,← List.map_map,List.map_drop,hst]
   simp[← hlen]
 have hkept:Ue ((CG s.st sel).map (Bp sel)) rows1:=fun j r0 r1 h0 h1 hg=>by
  have hj:j < ((CG s.st sel).map (Bp sel)).length:=(List.getElem?_eq_some_iff.1 h0).1
  rw[← hstR,List.getElem?_map,Option.map_eq_some_iff] at h0
  obtain⟨oA,hoA,rfl⟩:=h0
  obtain⟨o',ho',_,_,e3⟩:=he.Sa j oA hj hoA
  have hst':os'.map Own.row=rows1 ++ rows2:=hs'.st
  have h2:(rows1 ++ rows2)[j]?=some o'.row:=by rw[← hst',List.getElem?_map,ho'];rfl
  rw[List.getElem?_append_left (List.getElem?_eq_some_iff.1 h1).1,h1] at h2
  cases h2
  exact (e3 hg).2.2
 refine⟨u,_,_,F',os2,rfl,hK hkept,⟨hrows,fun t=>hmono _ _ (hr.env t),hr.size,fun i o ho=>?_,fun i j oi oj b hi hj hbi hbj=>?_,hs'.EO,hr.defers⟩,hunr _ _ hru,⟨he.sys,he.tape,he.output,he.size,he.LY,he.HP,fun b hb h1 h2=>?_,fun i o hi ho=>hosle i o ho⟩⟩
 ·rcases hcase i o ho with ⟨p,o',hp,rfl,rfl⟩ | ⟨h1,h2,ho2⟩
  ·have hok:=hs'.rows p o' hp
   refine⟨hok.pos,fun x hx=>?_,fun hb=>?_,fun b hb=>?_,hok.mo,hok.deep.mapped (Lg sel N) (fun _ _ _ _ h=>bJ h) rfl rfl rfl rfl⟩
   ·simp only[un,HO,List.mem_map] at hx
    obtain⟨y,hy,rfl⟩:=hx
    obtain⟨g1,g2⟩:=hok.lens y hy
    refine⟨by simpa [un,HO] using g1,fun c hc=>?_⟩
    obtain⟨c0,hc0,rfl⟩:=List.mem_map.1 hc
    have hmem:o'.row∈rows1 ++ rows2:=by rw[← hs'.st];exact List.mem_map.2 ⟨o',List.mem_of_getElem? hp,rfl⟩
    exact hL _ hmem y hy c0 hc0 (g2 c0 hc0)
   ·obtain⟨h1,h2⟩:=hok.none hb
    exact⟨by simp[un,HO,h1],h2⟩
   ·obtain⟨e1,cur,e2,e3,e4,e5,e6⟩:=hok.some b hb
    refine⟨e1,cur,e2,e3,by simpa [un,HO] using e4,e5,fun i' x hx q c hc=>?_⟩
    simp only[un,HO,List.getElem?_map,Option.map_eq_some_iff] at hx
    obtain⟨y,hy,rfl⟩:=hx
    simp only[List.getElem?_map,Option.map_eq_some_iff] at hc
    obtain⟨c0,hc0,rfl⟩:=hc
    obtain⟨u',f1,f2⟩:=e6 i' y hy q c0 hc0
    exact⟨u',f1,hun1 _ _ f2⟩
  ·have hok:=hr.rows _ o ho2
   refine⟨hok.pos,hok.lens,hok.none,fun b hb=>?_,fun b hb=>⟨(hB _ o h2 ho2 b (.inr hb)).2.1,Nat.lt_of_lt_of_le (hok.mo b hb).2.1 he.size,(hok.mo b hb).2.2⟩,
    hok.deep.keep rfl (fun _ h=>h) rfl (fun b hb=>(hB _ o h2 ho2 b hb).1) (fun i x j e s ys hx hc=>⟨x,hx,hc⟩)⟩
   obtain⟨e1,cur,e2,e3,e4,e5,e6⟩:=hok.some b hb
   obtain⟨g1,g2,_⟩:=hB _ o h2 ho2 b (.inl hb)
   refine⟨g2,cur,by rw[g1];exact e2,e3,e4,e5,fun i' x hx j c hc=>?_⟩
   obtain⟨u',f1,f2⟩:=e6 i' x hx j c hc
   exact⟨u',f1,hmono _ _ f2⟩
 ·rcases hcase i oi hi with ⟨p,o',hp,rfl,rfl⟩ | ⟨h1,h2,hi1⟩ <;> rcases hcase j oj hj with ⟨p2,o2',hp2,rfl,rfl⟩ | ⟨h3,h4,hj1⟩
  ·have:=hs'.inj p p2 o' o2' b hp hp2 hbi hbj
   rw[this]
  ·exact absurd hbi ((hB _ oj h4 hj1 b hbj).2.2 o' (List.mem_of_getElem? hp))
  ·exact absurd hbj ((hB _ oi h2 hi1 b hbi).2.2 o2' (List.mem_of_getElem? hp2))
  ·exact hr.inj i j oi oj b hi1 hj1 hbi hbj
 ·have h3 :∀o∈osA,¬ o.owns b:=fun o ho=>by
   obtain⟨j,hj⟩:=List.mem_iff_getElem?.1 ho
   obtain⟨id,o0,hid,ho0,rfl⟩:=hget j o hj
   exact h2 o0 (List.mem_of_getElem? ho0)
  obtain⟨g1,g2,g3⟩:=he.other b hb h1 h3
  refine⟨g1,g2,fun o ho=>?_⟩
  obtain⟨i,hi⟩:=List.mem_iff_getElem?.1 ho
  rcases hcase i o hi with ⟨p,o',hp,rfl,rfl⟩ | ⟨_,_,ho2⟩
  ·exact g3 o' (List.mem_of_getElem? hp)
  ·exact h2 o (List.mem_of_getElem? ho2)
inductive UN (sel:List Nat) (N:Nat):List Row→List Row→Prop
 | nil:UN sel N [] []
 | deep {g size:Nat} {el:TypeId} {xs:List (List AV)} {r r':List Row} (hp:CO xs) (hl:UN sel N r r'):UN sel N (⟨g,el,size,xs⟩ :: r) (⟨g,el,size,xs⟩ :: r')
 | raw {g size:Nat} {el:TypeId} {cs cs':List AV} {r r':List Row} (hc:cs.map (Lg sel N)=cs') (hp:cs'.all AV.leaf=true) (hl:UN sel N r r'):UN sel N (⟨g,el,size,[cs]⟩ :: r) (⟨g,el,size,[cs']⟩ :: r')
theorem UN.pure {sel:List Nat} {N:Nat} {g size:Nat} {el:TypeId} {xs:List (List AV)} {r r':List Row} (hp:Dj xs) (hl:UN sel N r r'):UN sel N (⟨g,el,size,xs⟩ :: r) (⟨g,el,size,xs⟩ :: r'):=.deep hp.any hl
theorem PC {sel:List Nat} {N:Nat} {c:AV} (h:Eg c=true):Lg sel N c=c:=by cases c <;> simp[Eg,simple,Lg,two,N6] at h ⊢
theorem UN.leaf {sel:List Nat} {N:Nat} :∀{l l':List Row},UN sel N l l'→∀row∈l,∀x∈row.xs,∀c∈x,c.kept=true→(Lg sel N c).kept=true
 | _,_,.nil,_,h=>by cases h
 | _,_,.deep hp hl,row,hm=>by
  rcases List.mem_cons.1 hm with rfl | hm
  ·intro x hx c hc h;rw[PC (hp x hx c hc)];exact h
  ·exact UN.leaf hl row hm
 | _,_,.raw hc hp hl,row,hm=>by
  rcases List.mem_cons.1 hm with rfl | hm
  ·intro x hx c hcx _
   simp only[List.mem_singleton] at hx
   subst hx
   exact Cp (List.all_eq_true.1 hp _ (by rw[← hc];exact List.mem_map.2 ⟨c,hcx,rfl⟩))
  ·exact UN.leaf hl row hm
theorem UN.spec {sel:List Nat} {N:Nat} :∀{l l':List Row},UN sel N l l'→l.map (HO sel N)=l'
 | _,_,.nil=>rfl
 | _,_,.deep hp hl=>by
  simp only[List.map_cons,UN.spec hl]
  congr 1
  simp only[HO]
  congr 1
  refine (List.map_congr_left (g:=id) fun x hx=>?_).trans (List.map_id _)
  refine (List.map_congr_left (g:=id) fun c hc=>?_).trans (List.map_id _)
  exact PC (hp x hx c hc)
 | _,_,.raw hc _ hl=>by simp only[List.map_cons,UN.spec hl,HO,List.map_nil,hc]
theorem K0 {f:FuncId} {args:List AV} {d:Option Tmp} {K:St→Prop} (h:(∀row∈s.st,∀x∈row.xs,∀c∈x,c.kept=true)→callThen P k s f args d K):callThen P k s f args d K:=
 fun F os a w vs hr hl=>h (R5 hr) F os a w vs hr hl
section
variable {ops : Array Oper} {Q : Exit → St → Prop} {ds : List (Option Tmp)} {r : List Oper} {n : Nat} {e : Nat → AV} {st st' : List Row} {ty : TypeId} {ps : String} {ed : Array Edge} {d : Option Tmp} {v v' : AV} {gd : Option (Nat × Bool)}
variable {f : FuncId} {ars : Array Operand} {ts : Array TypeId} {args args' : List AV} {rowsP rows0 rows1 rows1' rows2 rows2' : List Row}
theorem Fe (sel:List Nat) (hg:GO ds gd e) (hb:DI P f=true) (hc:Aa P f args' rows0 fun r st=>r=v∧st=rows1 ++ rows2) (ha:ars.toList.map (St.ev ⟨n,e,st⟩) ++ []=args) (hnd:sel.Nodup) (hlt:sel.all (· < st.length)=true)
  (hp:CG st sel=rowsP) (hs:SR sel rowsP rows0) (hf:args.map (Jm sel)=args') (hlen:rows1.length=sel.length) (h1:UN sel st.length rows1 rows1') (h2:UN sel st.length rows2 rows2') (hv:UQ sel st.length v=v') (hst':G6 sel rows1' 0 st ++ rows2'=st')
  (hk:Ue rows0 rows1→AO P k ops Q (ds ++ [d]) r (St.put ⟨n,e,st'⟩ d v')):AO P k ops Q ds (⟨d,.call ⟨.value (.func f),ars,ts⟩,ty,ps,ed,gd⟩ :: r) ⟨n,e,st⟩:=by
 subst hst';subst ha;subst hv;subst hp
 refine Ks hg ?_
 rw[Lq]
 refine⟨hb,K0 fun hle=>?_⟩
 obtain⟨e1,e2⟩:=hs.spec (st0:=st) hle (fun row hrow=>by
  obtain⟨i,_,hi⟩:=List.mem_filterMap.1 hrow
  exact List.mem_of_getElem? hi)
 refine Lm sel hc hnd (fun i hi=>by simpa using List.all_eq_true.1 hlt i hi) e1 e2 hf hlen (fun row hrow=>by
  rcases List.mem_append.1 hrow with h | h
  ·exact h1.leaf row h
  ·exact h2.leaf row h) fun hln=>?_
 simp only[h1.spec,h2.spec]
 exact hk hln
theorem H0 (sel:List Nat) (hg:GO ds gd e) (hb:DI P f=true) (hc:Aa P f args' rows0 fun r st=>r=v∧st=rows1 ++ rows2) (ha:ars.toList.map (St.ev ⟨n,e,st⟩) ++ []=args) (hnd:sel.Nodup) (hlt:sel.all (· < st.length)=true)
  (hp:CG st sel=rowsP) (hs:SR sel rowsP rows0) (hf:args.map (Jm sel)=args') (hlen:rows1.length=sel.length) (h1:UN sel st.length rows1 rows1') (h2:UN sel st.length rows2 rows2') (hv:UQ sel st.length v=v') (hst':G6 sel rows1' 0 st ++ rows2'=st')
  (hk:AO P k ops Q (ds ++ [d]) r (St.put ⟨n,e,st'⟩ d v')):AO P k ops Q ds (⟨d,.call ⟨.value (.func f),ars,ts⟩,ty,ps,ed,gd⟩ :: r) ⟨n,e,st⟩:=
 Fe sel hg hb hc ha hnd hlt hp hs hf hlen h1 h2 hv hst' fun _=>hk
end
theorem Im {k n:Nat} {e:Nat→AV} {st st1 st':List Row} {L:List (Nat×AV)} (sel:List Nat) (hk:sel.take k=List.range k) (hnd:sel.Nodup) (hlt:sel.all (· < st.length)=true) (hp:CG st sel=st1) (hs:SR sel st1 st') (h:ME (fun t=>Jm sel (e t)) L) :
  Wk k ⟨n,e,st⟩ ⟨n,AL L,st'⟩:=fun F os a w hr=>by
 have hle:=R5 hr
 obtain⟨h1,h2⟩:=hs.spec (st0:=st) hle (fun row hrow=>by
  rw[← hp] at hrow
  obtain⟨i,_,hi⟩:=List.mem_filterMap.1 hrow
  exact List.mem_of_getElem? hi)
 exact UI sel hk hnd hlt (by rw[hp];exact h1) h2 h F os a w hr
theorem A5 {k n:Nat} {e:Nat→AV} {st st1 st':List Row} {L:List (Nat×AV)} (sel:List Nat) (hk:sel.take k=List.range k) (_:SR sel (st.take k) (st.take k)) (hnd:sel.Nodup) (hlt:sel.all (· < st.length)=true) (hp:CG st sel=st1) (hs:SR sel st1 st') (h:ME (fun t=>Jm sel (e t)) L) :
  Wk k ⟨n,e,st⟩ ⟨n,AL L,st'⟩:=Im sel hk hnd hlt hp hs h
theorem Aa.wk {P:Program} {f:FuncId} {args:List AV} {rows st0 st1:List Row} {r0 r1:AV} (h:Aa P f args rows fun r st=>r=r0∧st=st0) (hw:Wk rows.length ⟨1,AL [(0,r0)],st0⟩ ⟨1,AL [(0,r1)],st1⟩) :
  Aa P f args rows fun r st=>r=r1∧st=st1:=by
 intro F os w vs hs hl
 refine (h F os w vs hs hl).mono ?_
 rintro e w' ⟨v,r,st',F',os',rfl,⟨rfl,rfl⟩,h1,h2,h3⟩
 have hrel:Rel F' os' ⟨1,AL [(0,r)],st'⟩ { tmps:=#[v],defers:=[] } w':=by
  refine⟨h1.st,fun t=>?_,rfl,h1.rows,h1.inj,h1.EO,rfl⟩
  simp only[AL]
  split
  ·rename_i ht;subst ht;exact h2
  ·simp[Ae]
 obtain⟨F2,os2,h4,h5⟩:=hw F' os' _ w' hrel
 refine⟨v,r1,st1,F2,os2,rfl,⟨rfl,rfl⟩,⟨h4.st,h4.rows,h4.inj,h4.EO⟩,?_,h3.trans h5⟩
 have:=h4.env 0
 simpa [AL] using this
theorem le.JA {α:Type} {id g m:Nat} {l:List α} {enc:α→List AV} (h:m=l.length):le (Abs.JA id g (l.map enc) (.own id g m)) (.sl (l.map enc)):=le.of (Yw h)
theorem Rel.bare {F:Nat→Prop} {os:List Own} {s:St} {a:Act} {w:World} (hr:Rel F os s a w):Rel F [] ⟨s.n,fun _=>.Eu,[]⟩ a w:=
 ⟨rfl,fun _=>by simp[Ae],hr.size,by simp,by simp,hr.EO,hr.defers⟩
theorem MR {P:Program} {F:Nat→Prop} {os:List Own} {s:St} {a:Act} {w:World} {k:Nat} {Lv:Sem Value} {v0 v:AV} {st0:List Row} (hr:Rel F os s a w)
  (he:GR P 0 F [] ⟨s.n,fun _=>.Eu,[]⟩ a w Lv fun x st=>x=v0∧st=st0) (hw:Wk 0 ⟨1,AL [(0,v0)],st0⟩ ⟨1,AL [(0,v)],[]⟩) (hv:flat v=true) :
  ∃u w' F',Lv.run P w=.ok u w'∧Rel F' os s a w'∧Ae F' w' os v u∧Ext F os w F' os w' k:=by
 obtain⟨x,st',u,w',os1,⟨rfl,rfl⟩,h2,h3,h4,h5⟩:=he
 have hrel:Rel F os1 ⟨1,AL [(0,x)],st'⟩ { tmps:=#[u],defers:=[] } w':=by
  refine⟨h3.st,fun t=>?_,rfl,h3.rows,h3.inj,h3.EO,rfl⟩
  simp only[AL]
  split
  ·rename_i ht;subst ht;exact h4
  ·simp[Ae]
 obtain⟨F2,os2,h6,h7⟩:=hw F os1 _ w' hrel
 have hos2:os2=[]:=by have:=h6.st;simpa using this
 subst hos2
 obtain⟨g1,g2,_⟩:=hr.after (k:=k) (h5.trans h7) h6.EO
 exact⟨u,w',F2,h2,g1,Hq hv os (by have:=h6.env 0;simpa [AL] using this),g2⟩
section
variable {P : Program} {ds : List (Option Tmp)} {r : List Oper} {n : Nat} {e : Nat → AV} {st : List Row} {ty : TypeId} {ps : String} {ed : Array Edge} {t : Tmp} {gd : Option (Nat × Bool)} {KS : St → Prop}
variable {α : Type} {l : List α} {enc : α → List AV} {el T : TypeId} {size bytes : Nat} {zz cs : List AV}
theorem Tq (hp:Dj (l.map enc)):Wk 0 ⟨1,AL [(0,.own 0 0 l.length)],[⟨0,el,size,l.map enc⟩]⟩ ⟨1,AL [(0,.sl (l.map enc))],[]⟩:=
 (Wk.DN (n:=1) (e:=AL [(0,.own 0 0 l.length)]) (st:=[⟨0,el,size,l.map enc⟩]) (L:=[(0,.sl (l.map enc))]) (st':=[⟨1,el,size,[]⟩]) (id:=0) rfl (Nat.zero_le _) hp ⟨.DN rfl,trivial⟩ rfl).trans
  (FZ (L:=[(0,.sl (l.map enc))]) (st':=[]) [] rfl (by decide) rfl rfl trivial ⟨.rfl,trivial⟩)
theorem Xu {len:Nat} {parts:Array (Nat×Operand)} {pv:List (Nat×AV)} (hg:GO ds gd e) (he:By P T=some ⟨el,size,bytes,zz⟩) (hle:len * size≤16777216) (hp:(parts.toList.map fun p=>(p.1,St.ev ⟨n,e,st⟩ p.2))=pv)
  (hpf:(pv.all fun p=>flat p.2)=true) (hc:Mx (fun i=>some (i * size,size)) ((List.replicate len zz).flatten) pv=some cs) (hck:chunk size len cs=l.map enc) (hln:len=l.length) (hpu:Dj (l.map enc))
  (hk:DF P (ds ++ [some t]) r KS ⟨n,Dh e t (.sl (l.map enc)),st⟩):DF P ds (⟨some t,.buildSlice T len parts,ty,ps,ed,gd⟩ :: r) KS ⟨n,e,st⟩:=by
 refine Zs hg rfl (fun s0 e1 e2 hd k F os a w hr next Q hn=>?_) hk
 have hpv:(parts.toList.map fun p=>(p.1,s0.ev p.2))=pv:=by
  rw[← hp]
  refine List.map_congr_left fun p hp'=>?_
  rw[e2 p.2 (by simp only[Op.operands,List.mem_toArray,List.mem_map];exact⟨p,by simpa using hp',rfl⟩)]
 have h9:GR P 0 F [] ⟨s0.n,fun _=>.Eu,[]⟩ a w (Instr.buildSlice T len (parts.map fun (i,x)=>(i,a.eval x))) (fun x st=>x=.own 0 0 l.length∧st=[⟨0,el,size,l.map enc⟩]):=by
  refine NH (parts:=pv) hr.bare (Aj _ he ⟨hle,Aj _ hc (by subst hln;rw[hck];exact⟨rfl,rfl⟩)⟩) (by rw[← hpv];simp) fun i p up hp hup=>?_
  have hfl:flat p.2=true:=List.all_eq_true.1 hpf p (List.mem_of_getElem? hp)
  rw[← hpv] at hp
  simp only[List.getElem?_map,Option.map_eq_some_iff,Array.toList_map] at hp hup
  obtain⟨q,hq,rfl⟩:=hp
  obtain⟨q',hq',rfl⟩:=hup
  rw[hq] at hq';cases hq'
  exact Hq hfl [] (hr.ev _)
 obtain⟨u,w',F',g1,g2,g3,g4⟩:=MR (k:=k) hr h9 (Tq hpu) rfl
 unfold Oper.wp
 simp only[execOp,Sem.run_bind,g1,Result.andThen_ok,Sem.run_pure,Oper.upon]
 exact hn _ _ (MK (st':=s0.st) hd rfl g2 g3 g4)
end
end Go.Abs

