import Derived.Test.YtpahalfiiahddaaGreatAbsH
namespace Go.Abs
open Go
variable {P : Program} {F : Nat → Prop} {os : List Own} {s : St} {a : Act} {w : World} {k : Nat}
def two (X:AV→AV):AV→AV
  | .fn f cs=>.fn f (cs.map X)
  | .agg cs=>.agg (cs.map X)
  | .DE _=>.Eu
  | v=>X v
theorem MT {F F':Nat→Prop} {w w':World} {os os':List Own} {X:AV→AV} (h0 :∀x v,Ae F w os x v→Ae F' w' os' (X x) v) :∀x v,Ae F w os x v→Ae F' w' os' (two X x) v:=by
  have hL :∀cs us,BG F w os cs us→BG F' w' os' (cs.map X) us:=fun cs us h=>
    Cv (by simp[A6 h]) fun i x u hx hu=>by
      simp only[List.getElem?_map,Option.map_eq_some_iff] at hx
      obtain⟨y,hy,rfl⟩:=hx
      obtain⟨u',hu',hr'⟩:=BX h i y hy
      rw[hu'] at hu;cases hu
      exact h0 _ _ hr'
  intro x v h
  cases x with
  | fn f cs=>simp only[two,Ae] at h ⊢;obtain⟨us,e,hl⟩:=h;exact⟨us,e,hL _ _ hl⟩
  | agg cs=>simp only[two,Ae] at h ⊢;obtain⟨us,e,hl⟩:=h;exact⟨us,e,hL _ _ hl⟩
  | DE cs=>simp[two,Ae]
  | _=>exact h0 _ _ h
theorem Wh {X:AV→AV} {c:AV} {el s:Nat} {ys:List (List AV)} (h0 :∀c,X c=.dv el s ys→c=.dv el s ys) (h:two X c=.dv el s ys):c=.dv el s ys:=by
  cases c <;> simp only[two] at h <;> first | exact h0 _ h | cases h
def simple:AV→Bool
  | .own .. | .ptr .. | .fn .. | .agg _ | .DE _ | .dv ..=>false
  | _=>true
def Eg:AV→Bool
  | .dv ..=>true
  | c=>simple c
def WE:AV→Bool
  | .fn _ cs | .agg cs=>cs.all simple
  | c=>simple c
def flat:AV→Bool
  | .own .. | .ptr .. | .dv ..=>false
  | .fn _ cs | .agg cs=>cs.all simple
  | .DE cs=>cs.all WE
  | _=>true
theorem En {x:AV} {v:Value} (h:simple x=true) (os':List Own) (hr:Ae F w os x v):Ae F w os' x v:=by
  cases x <;> simp only[simple,Bool.false_eq_true] at h <;> simp only[Ae] at hr ⊢ <;> exact hr
theorem WY {x:AV} {v:Value} (h:Eg x=true) (os':List Own) (hr:Ae F w os x v):Ae F w os' x v:=by
  cases x with
  | dv=>simpa [Ae] using hr
  | _=>exact En (by simpa [Eg] using h) os' hr
theorem Sg {c:AV} (h:simple c=true):Eg c=true:=by cases c <;> simp_all [simple,Eg]
theorem Kj {xs:List AV} {us:List Value} (h:xs.all simple=true) (os':List Own) (hr:BG F w os xs us):BG F w os' xs us:=
  Cv (A6 hr) fun i x u hx hu=>by
    obtain⟨u',e1,e2⟩:=BX hr i x hx
    rw[hu] at e1;cases e1
    exact En (List.all_eq_true.1 h x (List.mem_of_getElem? hx)) os' e2
theorem Yn {x:AV} {v:Value} (h:WE x=true) (os':List Own) (hr:Ae F w os x v):Ae F w os' x v:=by
  cases x with
  | fn f cs=>simp only[Ae] at hr ⊢;obtain⟨us,e,hl⟩:=hr;exact⟨us,e,Kj h os' hl⟩
  | agg cs=>simp only[Ae] at hr ⊢;obtain⟨us,e,hl⟩:=hr;exact⟨us,e,Kj h os' hl⟩
  | _=>exact En (by simpa [WE] using h) os' hr
theorem XZ {xs:List AV} {us:List Value} (h:xs.all WE=true) (os':List Own) (hr:BG F w os xs us):BG F w os' xs us:=
  Cv (A6 hr) fun i x u hx hu=>by
    obtain⟨u',e1,e2⟩:=BX hr i x hx
    rw[hu] at e1;cases e1
    exact Yn (List.all_eq_true.1 h x (List.mem_of_getElem? hx)) os' e2
theorem Hq {x:AV} {v:Value} (h:flat x=true) (os':List Own) (hr:Ae F w os x v):Ae F w os' x v:=by
  cases x with
  | own=>simp[flat] at h
  | ptr=>simp[flat] at h
  | dv=>simp[flat] at h
  | fn f cs=>simp only[Ae] at hr ⊢;obtain⟨us,e,hl⟩:=hr;exact⟨us,e,Kj h os' hl⟩
  | agg cs=>simp only[Ae] at hr ⊢;obtain⟨us,e,hl⟩:=hr;exact⟨us,e,Kj h os' hl⟩
  | DE cs=>simp only[Ae] at hr ⊢;obtain⟨us,e,hl⟩:=hr;exact⟨us,e,XZ h os' hl⟩
  | _=>exact En rfl os' hr
theorem Pj {xs:List AV} {us:List Value} (h:xs.all flat=true) (os':List Own) (hr:BG F w os xs us):BG F w os' xs us:=
  Cv (A6 hr) fun i x u hx hu=>by
    obtain⟨u',e1,e2⟩:=BX hr i x hx
    rw[hu] at e1;cases e1
    exact Hq (List.all_eq_true.1 h x (List.mem_of_getElem? hx)) os' e2
theorem Ft.nil (hold :∀b,F b→b < w.heap.size):Ft F [] [] w:=⟨rfl,by simp,by simp,hold⟩
theorem Rel.after (hr:Rel F os s a w) {F':Nat→Prop} {w':World} {os1:List Own} (he:Ext F [] w F' os1 w' 0) (hold :∀b,F' b→b < w'.heap.size) :
    Rel F' os s a w'∧Ext F os w F' os w' k∧(∀x v,Ae F w os x v→Ae F' w' os x v)∧∀(i:Nat) (o:Own),os[i]?=some o→∀b,o.owns b→∀o1:Own,o1∈os1→¬ o1.owns b:=by
  have hmono :∀x v,Ae F w os x v→Ae F' w' os x v:=fun x v h=>B6 he.LY he.HP os os (D3.refl os) x v h
  have hoth :∀(i:Nat) (o:Own),os[i]?=some o→∀b,o.owns b→w'.heap[b]?=w.heap[b]?∧¬ F' b∧∀o1:Own,o1∈os1→¬ o1.owns b:=fun i o ho b hb=>
    he.other b ((hr.rows i o ho).lt hb) ((hr.rows i o ho).nF hb) (by simp)
  refine⟨⟨hr.st,fun i=>hmono _ _ (hr.env i),hr.size,fun i o ho=>?_,hr.inj,hold,hr.defers⟩,⟨he.sys,he.tape,he.output,he.size,he.LY,he.HP,fun b hb h1 h2=>?_,fun i o _ ho=>⟨o,ho,Nat.le_refl _,rfl,fun _=>⟨rfl,rfl,rfl⟩⟩⟩,hmono,fun i o ho b hb=>(hoth i o ho b hb).2.2⟩
  · have hok:=hr.rows i o ho
    refine⟨hok.pos,hok.lens,hok.none,fun b hb=>?_,fun b hb=>⟨(hoth i o ho b (.inr hb)).2.1,Nat.lt_of_lt_of_le (hok.mo b hb).2.1 he.size,(hok.mo b hb).2.2⟩,
      hok.deep.keep rfl (fun _ h=>h) rfl (fun b hb=>(hoth i o ho b hb).1) (fun i x j e s ys hx hc=>⟨x,hx,hc⟩)⟩
    obtain⟨h1,cur,h2,h3,h4,h5,h6⟩:=hok.some b hb
    obtain⟨e1,e2,_⟩:=hoth i o ho b (.inl hb)
    exact⟨e2,cur,by rw[e1];exact h2,h3,h4,h5,fun i' x hx j c hc=>by
      obtain⟨u,f1,f2⟩:=h6 i' x hx j c hc
      exact⟨u,f1,hmono _ _ f2⟩⟩
  · obtain⟨e1,e2,_⟩:=he.other b hb h1 (by simp)
    exact⟨e1,e2,h2⟩
theorem TD {f:FuncId} {args:List AV} {d:Option Tmp} {K:St→Prop} {v:AV} (h:Aa P f args [] fun r st'=>r=v∧st'=[]) (hf:args.all flat=true) (hv:flat v=true) (hK:K (s.put d v)):callThen P k s f args d K:=by
  intro F os a w vs hr hl
  refine (h F [] w vs (Ft.nil hr.EO) (Pj hf [] hl)).mono ?_
  rintro e w' ⟨u,r,st',F',os',rfl,⟨rfl,rfl⟩,hs,hru,he⟩
  have hos:os'=[]:=by have:=hs.st;simpa using this
  subst hos
  obtain⟨h1,h2,_⟩:=hr.after (k:=k) he hs.EO
  exact⟨u,r,s.st,F',os,rfl,hK,h1,Hq hv os hru,h2⟩
def Yl (P:Program) (o:Oper) (s:St) (v:AV):Prop:=
  ∀(k:Nat) (F:Nat→Prop) (os:List Own) (a:Act) (w:World),Rel F os s a w→∀(next:Act→World→Prop) (Q:Exit→Act→World→Prop),
    (∀a' w',Step k s.n F os w (·=s.put o.dst v) a' w'→next a' w')→o.wp P a w next Q
def eZ (P:Program) (o:Oper) (s:St) (K:AV→Prop):Prop:=
  ∃v,(∀s0:St,s0.st=s.st→(∀x∈o.op.operands,s0.ev x=s.ev x)→Cu s0.n o.dst=true→Yl P o s0 v)∧K v
def KI (P:Program) (o:Oper) (s:St) (K:AV→Prop):Prop:=
  if Iw o.op then eZ P o s K else Hz P s o.op K
theorem XM {op:Op} {K:AV→Prop} (h:Hz P s op K) :∃v,K v∧Hz P s op (·=v):=by
  unfold Hz at h ⊢
  split at h
  case h_1=>exact⟨_,h,rfl⟩
  case h_2=>exact⟨_,h,rfl⟩
  case h_3=>
    unfold Nn at h ⊢
    split at h
    · exact⟨_,h,rfl⟩
    · rename_i t _ _
      cases t
      · exact⟨_,h.2 rfl,by simp⟩
      · exact⟨_,h.1 rfl,by simp⟩
    · exact h.elim
  case h_4=>
    unfold VU at h ⊢
    split at h
    · obtain⟨row,h1,h2,h3⟩:=A0 h;exact⟨_,h3,Aj row h1 ⟨h2,rfl⟩⟩
    · exact⟨_,h,rfl⟩
    · exact h.elim
  case h_5 op t x y _=>
    unfold UK at h ⊢
    split at h
    · obtain⟨h1,h⟩:=h
      cases op <;> simp only[W7] at h ⊢ <;> first | exact h.elim | exact⟨_,h,h1,rfl⟩ | exact⟨_,h.2,h1,h.1,rfl⟩
    · obtain⟨h1,h⟩:=h
      split at h
      · exact⟨_,h,h1,rfl⟩
      · exact⟨_,h,h1,rfl⟩
      · exact h.elim
    · exact h.elim
  case h_6=>
    unfold Z6 at h ⊢
    split at h
    · exact⟨_,h,rfl⟩
    · exact⟨_,h,rfl⟩
    · exact h.elim
  case h_7=>
    unfold YK at h ⊢
    split at h
    · exact⟨_,h,rfl⟩
    · exact h.elim
  case h_8 t p=>
    obtain⟨ti,h1,h⟩:=A0 h
    have part :∀{x:List AV} {off:Nat},Ju ti.1 ti.2 x off K→∃v,K v∧Ju ti.1 ti.2 x off (·=v):=fun {x off} h=>by
      unfold Ju at h ⊢
      split at h
      · rename_i hh;exact⟨_,h.2,by rw[if_pos hh];exact⟨h.1,rfl⟩⟩
      · rename_i hh;obtain⟨c,e1,e2⟩:=A0 h;exact⟨c,e2,by rw[if_neg hh];exact Aj c e1 rfl⟩
    unfold N9
    generalize s.ev p=pv at h ⊢
    cases pv with
    | ptr id g i off=>
      obtain⟨row,e1,e2,h⟩:=A0 h
      obtain⟨x,e3,h⟩:=A0 h
      obtain⟨v,hv,h⟩:=part h
      exact⟨v,hv,Aj ti h1 (Aj row e1 ⟨e2,Aj x e3 h⟩)⟩
    | Bd x off=>
      obtain⟨v,hv,h⟩:=part h
      exact⟨v,hv,Aj ti h1 h⟩
    | _=>exact h.elim
  case h_9 t x f=>
    obtain⟨o,h1,h⟩:=A0 h
    unfold J8
    generalize s.ev x=pv at h ⊢
    cases pv with
    | ptr id g i off=>
      obtain⟨row,e1,e2,e3,h⟩:=A0 h
      exact⟨_,h,Aj o h1 (Aj row e1 ⟨e2,e3,rfl⟩)⟩
    | Bd x off=>exact⟨_,h,Aj o h1 rfl⟩
    | _=>exact h.elim
  case h_10=>
    unfold LW at h ⊢
    split at h
    · obtain⟨g,e1,h⟩:=A0 h
      obtain⟨ti,e2,h⟩:=A0 h
      unfold Ju at h
      split at h
      · rename_i hh;exact⟨_,h.2,Aj g e1 (Aj ti e2 (by unfold Ju;rw[if_pos hh];exact⟨h.1,rfl⟩))⟩
      · rename_i hh;obtain⟨c,f1,f2⟩:=A0 h;exact⟨c,f2,Aj g e1 (Aj ti e2 (by unfold Ju;rw[if_neg hh];exact Aj c f1 rfl))⟩
    · exact h.elim
  case h_11 t x i=>
    obtain⟨ei,e1,h⟩:=A0 h
    unfold Gl
    generalize s.ev x=xv at h ⊢
    generalize s.ev i=iv at h ⊢
    cases xv with
    | own id g n=>
      cases iv with
      | int kk j=>
        obtain⟨h1,h2,h⟩:=h
        obtain⟨row,e2,e3,e4,h⟩:=A0 h
        exact⟨_,h,Aj ei e1 ⟨h1,h2,Aj row e2 ⟨e3,e4,rfl⟩⟩⟩
      | _=>exact h.elim
    | sl xs=>
      cases iv with
      | int kk j=>
        obtain⟨h1,h⟩:=h
        obtain⟨y,e2,e3,h⟩:=A0 h
        exact⟨_,h,Aj ei e1 ⟨h1,Aj y e2 ⟨e3,rfl⟩⟩⟩
      | _=>exact h.elim
    | _=>exact h.elim
  case h_12=>
    unfold OQ at h ⊢
    split at h
    · obtain⟨c,f1,f2⟩:=A0 h;exact⟨c,f2,Aj c f1 rfl⟩
    · exact h.elim
  case h_13=>
    obtain⟨h1,h⟩:=h
    obtain⟨fs,e1,h⟩:=A0 h
    obtain⟨z,e2,h⟩:=A0 h
    obtain⟨cs,e3,h⟩:=A0 h
    exact⟨_,h,h1,Aj fs e1 (Aj z e2 (Aj cs e3 rfl))⟩
  case h_14=>exact⟨_,h.2,h.1,rfl⟩
  case h_15=>
    split at h
    · obtain⟨h1,h⟩:=h
      unfold ZT at h ⊢
      split at h
      · obtain⟨row,e1,e2,h⟩:=A0 h;exact⟨_,h,h1,Aj row e1 ⟨e2,rfl⟩⟩
      · exact⟨_,h,h1,rfl⟩
      · exact⟨_,h,h1,rfl⟩
      · exact h.elim
    · exact h.elim
  case h_16=>
    split at h
    · unfold bz at h ⊢
      split at h
      · exact⟨_,h,rfl⟩
      · exact h.elim
    · exact h.elim
  case h_17=>
    split at h
    · unfold an at h ⊢
      split at h
      · exact⟨_,h,rfl⟩
      · exact h.elim
    · exact h.elim
  case h_18=>exact h.elim
theorem Y9 {o:Oper} {K:AV→Prop} (h:KI P o s K) :∃v,K v∧KI P o s (·=v):=by
  unfold KI at h ⊢
  split at h
  · rename_i hc
    simp only[hc,if_true]
    obtain⟨v,h1,h2⟩:=h
    exact⟨v,h2,v,h1,rfl⟩
  · rename_i hc
    simp only[hc,Bool.false_eq_true,if_false]
    exact XM h
theorem TL {s:St} {d:Option Tmp} {v:AV} {x:Operand} (h :∀t,d=some t→x≠.tmp t):(s.put d v).ev x=s.ev x:=by
  cases d with
  | none=>rfl
  | some d=>
    cases x with
    | tmp t=>
      have hne:t≠d:=fun e=>h d rfl (e ▸ rfl)
      simp[St.ev,St.put,Dh,hne]
    | _=>rfl
theorem put_comm (s:St) {x y:Option Tmp} (v u:AV) (h :∀d,x=some d→y≠some d):(s.put x v).put y u=(s.put y u).put x v:=by
  cases x with
  | none=>rfl
  | some d=>
    cases y with
    | none=>rfl
    | some e=>
      have hne:d≠e:=fun he=>h d rfl (he ▸ rfl)
      simp only[St.put,St.mk.injEq,true_and,and_true]
      funext t
      simp only[Dh]
      by_cases h1:t=d
      · subst h1;simp[hne]
      · by_cases h2:t=e
        · subst h2;simp[h1]
        · simp[h1,h2]
theorem ZQ (s:St) (d:Option Tmp) (v:AV):(s.put d v).st=s.st:=by cases d <;> rfl
theorem Qw {s s':St} {o:Oper} {K:AV→Prop} (hst:s'.st=s.st) (h :∀x∈o.op.operands,s'.ev x=s.ev x) (hd:KI P o s K):KI P o s' K:=by
  unfold KI at hd ⊢
  split at hd
  · rename_i hc
    simp only[hc,if_true]
    obtain⟨v,h1,h2⟩:=hd
    exact⟨v,fun s0 e1 e2 e3=>h1 s0 (e1.trans hst) (fun x hx=>(e2 x hx).trans (h x hx)) e3,h2⟩
  rename_i hc
  simp only[hc,Bool.false_eq_true,if_false]
  obtain⟨dst,op,ty,pos,after,guard⟩:=o
  simp only at h hd hc ⊢
  have hlist :∀args:Array Operand,(∀x∈args,s'.ev x=s.ev x)→args.toList.map s'.ev=args.toList.map s.ev:=fun args ha=>List.map_congr_left fun x hx=>ha x (by simpa using hx)
  have hparts :∀parts:Array (Nat×Operand),(∀p∈parts,s'.ev p.2=s.ev p.2)→(parts.toList.map fun p=>(p.1,s'.ev p.2))=parts.toList.map fun p=>(p.1,s.ev p.2):=fun parts hp=>List.map_congr_left fun p hx=>by rw[hp p (by simpa using hx)]
  cases op
  case call c=>
    obtain⟨callee,args,types⟩:=c
    cases callee with
    | value f=>exact absurd rfl hc
    | invoke r m=>exact hd
    | builtin b=>
      have ha :∀x∈args,s'.ev x=s.ev x:=fun x hx=>h x (by simp[Op.operands,Call.operands,hx])
      cases b <;> simp only[Hz] at hd ⊢ <;> first
        | exact hd
        | (split at hd
           · rename_i h1 h2
             have hx:=ha _ (by rw[← Array.mem_toList_iff,h1];exact List.mem_cons_self)
             rw[hx,hst];exact hd
           · exact hd.elim)
        | (split at hd
           · rename_i x y h1
             have hx:=ha x (by rw[← Array.mem_toList_iff,h1];simp)
             have hy:=ha y (by rw[← Array.mem_toList_iff,h1];simp)
             rw[hx,hy];exact hd
           · exact hd.elim)
  case build t parts=>
    simp only[Hz] at hd ⊢
    rw[hparts parts (fun p hp=>h p.2 (by simp only[Op.operands,List.mem_toArray,List.mem_map];exact⟨p,by simpa using hp,rfl⟩))]
    exact hd
  case makeFunc fn first caps=>
    cases fn <;> simp only[Hz] at hd ⊢ <;> try exact hd
    rw[hlist caps (fun x hx=>h x (by simp[Op.operands,hx]))]
    exact hd
  all_goals simp only[Hz,Op.operands,List.mem_toArray,List.mem_cons,List.not_mem_nil,or_false,forall_eq_or_imp,forall_eq] at hd h ⊢
  all_goals first
    | exact hd
    | (rw[h,hst];exact hd)
    | (rw[h];exact hd)
    | (rw[h.1,h.2,hst];exact hd)
    | (rw[h.1,h.2];exact hd)
    | (rw[h.1,h.2.1,h.2.2];exact hd)
end Go.Abs

