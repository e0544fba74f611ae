import Derived.Test.YtobjlimoekffaaaGreatAbsH
namespace Go.Abs
open Go
variable {P : Program} {F : Nat → Prop} {os : List A4} {s : St} {a : Act} {w : World} {k : Nat}
def two (X:AV→AV):AV→AV
  | .fn f cs=>.fn f (cs.map X)
  | .agg cs=>.agg (cs.map X)
  | .DX _=>.EO
  | v=>X v
theorem LM {F F':Nat→Prop} {w w':World} {os os':List A4} {X:AV→AV} (h0 :∀x v,Ae F w os x v→Ae F' w' os' (X x) v) :∀x v,Ae F w os x v→Ae F' w' os' (two X x) v:=by
  have hL :∀cs us,BT F w os cs us→BT F' w' os' (cs.map X) us:=fun cs us h=>
    DD (by simp[BJ h]) fun i x u hx hu=>by
      simp only[List.getElem?_map,Option.map_eq_some_iff] at hx
      obtain⟨y,hy,rfl⟩:=hx
      obtain⟨u',hu',hr'⟩:=Bg h i y hy
      rw[hu'] at hu;cases hu
      exact h0 _ _ hr'
  intro x v h
  cases x with
  | fn f cs=>simp only[two,Ae] at h ⊢;obtain⟨us,e,hl⟩:=h;exact⟨us,e,hL _ _ hl⟩
  | agg cs=>simp only[two,Ae] at h ⊢;obtain⟨us,e,hl⟩:=h;exact⟨us,e,hL _ _ hl⟩
  | DX cs=>simp[two,Ae]
  | _=>exact h0 _ _ h
theorem Tp {X:AV→AV} {c:AV} {el s:Nat} {ys:List (List AV)} (h0 :∀c,X c=.dv el s ys→c=.dv el s ys) (h:two X c=.dv el s ys):c=.dv el s ys:=by
  cases c <;> simp only[two] at h <;> first | exact h0 _ h | cases h
def simple:AV→Bool
  | .own .. | .ptr .. | .fn .. | .agg _ | .DX _ | .dv ..=>false
  | _=>true
def E2:AV→Bool
  | .dv ..=>true
  | c=>simple c
def UP:AV→Bool
  | .fn _ cs | .agg cs=>cs.all simple
  | c=>simple c
def flat:AV→Bool
  | .own .. | .ptr .. | .dv ..=>false
  | .fn _ cs | .agg cs=>cs.all simple
  | .DX cs=>cs.all UP
  | _=>true
theorem HH {x:AV} {v:Value} (h:simple x=true) (os':List A4) (hr:Ae F w os x v):Ae F w os' x v:=by
  cases x <;> simp only[simple,Bool.false_eq_true] at h <;> simp only[Ae] at hr ⊢ <;> exact hr
theorem Tq {x:AV} {v:Value} (h:E2 x=true) (os':List A4) (hr:Ae F w os x v):Ae F w os' x v:=by
  cases x with
  | dv=>simpa [Ae] using hr
  | _=>exact HH (by simpa [E2] using h) os' hr
theorem Lr {c:AV} (h:simple c=true):E2 c=true:=by cases c <;> simp_all [simple,E2]
theorem Jk {xs:List AV} {us:List Value} (h:xs.all simple=true) (os':List A4) (hr:BT F w os xs us):BT F w os' xs us:=
  DD (BJ hr) fun i x u hx hu=>by
    obtain⟨u',e1,e2⟩:=Bg hr i x hx
    rw[hu] at e1;cases e1
    exact HH (List.all_eq_true.1 h x (List.mem_of_getElem? hx)) os' e2
theorem Wg {x:AV} {v:Value} (h:UP x=true) (os':List A4) (hr:Ae F w os x v):Ae F w os' x v:=by
  cases x with
  | fn f cs=>simp only[Ae] at hr ⊢;obtain⟨us,e,hl⟩:=hr;exact⟨us,e,Jk h os' hl⟩
  | agg cs=>simp only[Ae] at hr ⊢;obtain⟨us,e,hl⟩:=hr;exact⟨us,e,Jk h os' hl⟩
  | _=>exact HH (by simpa [UP] using h) os' hr
theorem Vq {xs:List AV} {us:List Value} (h:xs.all UP=true) (os':List A4) (hr:BT F w os xs us):BT F w os' xs us:=
  DD (BJ hr) fun i x u hx hu=>by
    obtain⟨u',e1,e2⟩:=Bg hr i x hx
    rw[hu] at e1;cases e1
    exact Wg (List.all_eq_true.1 h x (List.mem_of_getElem? hx)) os' e2
theorem Jp {x:AV} {v:Value} (h:flat x=true) (os':List A4) (hr:Ae F w os x v):Ae F w os' x v:=by
  cases x with
  | own=>simp[flat] at h
  | ptr=>simp[flat] at h
  | dv=>simp[flat] at h
  | fn f cs=>simp only[Ae] at hr ⊢;obtain⟨us,e,hl⟩:=hr;exact⟨us,e,Jk h os' hl⟩
  | agg cs=>simp only[Ae] at hr ⊢;obtain⟨us,e,hl⟩:=hr;exact⟨us,e,Jk h os' hl⟩
  | DX cs=>simp only[Ae] at hr ⊢;obtain⟨us,e,hl⟩:=hr;exact⟨us,e,Vq h os' hl⟩
  | _=>exact HH rfl os' hr
theorem OQ {xs:List AV} {us:List Value} (h:xs.all flat=true) (os':List A4) (hr:BT F w os xs us):BT F w os' xs us:=
  DD (BJ hr) fun i x u hx hu=>by
    obtain⟨u',e1,e2⟩:=Bg hr i x hx
    rw[hu] at e1;cases e1
    exact Jp (List.all_eq_true.1 h x (List.mem_of_getElem? hx)) os' e2
theorem Fg.nil (hold :∀b,F b→b < w.heap.size):Fg F [] [] w:=⟨rfl,by simp,by simp,hold⟩
theorem Rel.after (hr:Rel F os s a w) {F':Nat→Prop} {w':World} {os1:List A4} (he:Ext F [] w F' os1 w' 0) (hold :∀b,F' b→b < w'.heap.size) :
    Rel F' os s a w'∧Ext F os w F' os w' k∧(∀x v,Ae F w os x v→Ae F' w' os x v)∧∀(i:Nat) (o:A4),os[i]?=some o→∀b,o.Bm b→∀o1:A4,o1∈os1→¬ o1.Bm b:=by
  have hmono :∀x v,Ae F w os x v→Ae F' w' os x v:=fun x v h=>Ch he.MY he.JC os os (Gt os) x v h
  have hoth :∀(i:Nat) (o:A4),os[i]?=some o→∀b,o.Bm b→w'.heap[b]?=w.heap[b]?∧¬ F' b∧∀o1:A4,o1∈os1→¬ o1.Bm b:=fun i o ho b hb=>
    he.other b ((hr.rows i o ho).lt hb) ((hr.rows i o ho).nF hb) (by simp)
  refine⟨⟨hr.st,fun i=>hmono _ _ (hr.env i),hr.size,fun i o ho=>?_,hr.inj,hold,hr.defers⟩,⟨he.sys,he.tape,he.output,he.size,he.MY,he.JC,fun b hb h1 h2=>?_,fun i o _ ho=>⟨o,ho,Nat.le_refl _,rfl,fun _=>⟨rfl,rfl,rfl⟩⟩⟩,hmono,fun i o ho b hb=>(hoth i o ho b hb).2.2⟩
  · have hok:=hr.rows i o ho
    refine⟨hok.pos,hok.lens,hok.none,fun b hb=>?_,fun b hb=>⟨(hoth i o ho b (.inr hb)).2.1,Nat.lt_of_lt_of_le (hok.mo b hb).2.1 he.size,(hok.mo b hb).2.2⟩,
      hok.deep.Mc rfl (fun _ h=>h) rfl (fun b hb=>(hoth i o ho b hb).1) (fun i x j e s ys hx hc=>⟨x,hx,hc⟩)⟩
    obtain⟨h1,cur,h2,h3,h4,h5,h6⟩:=hok.some b hb
    obtain⟨e1,e2,_⟩:=hoth i o ho b (.inl hb)
    exact⟨e2,cur,by rw[e1];exact h2,h3,h4,h5,fun i' x hx j c hc=>by
      obtain⟨u,f1,f2⟩:=h6 i' x hx j c hc
      exact⟨u,f1,hmono _ _ f2⟩⟩
  · obtain⟨e1,e2,_⟩:=he.other b hb h1 (by simp)
    exact⟨e1,e2,h2⟩
theorem Qc {f:FuncId} {args:List AV} {d:Option Tmp} {K:St→Prop} {v:AV} (h:AY P f args [] fun r st'=>r=v∧st'=[]) (hf:args.all flat=true) (hv:flat v=true) (hK:K (s.put d v)):callThen P k s f args d K:=by
  intro F os a w vs hr hl
  refine (h F [] w vs (Fg.nil hr.FX) (OQ hf [] hl)).mono ?_
  rintro e w' ⟨u,r,st',F',os',rfl,⟨rfl,rfl⟩,hs,hru,he⟩
  have hos:os'=[]:=by have:=hs.st;simpa using this
  subst hos
  obtain⟨h1,h2,_⟩:=hr.after (k:=k) he hs.FX
  exact⟨u,r,s.st,F',os,rfl,hK,h1,Jp hv os hru,h2⟩
def Yl (P:Program) (o:Oper) (s:St) (v:AV):Prop:=
  ∀(k:Nat) (F:Nat→Prop) (os:List A4) (a:Act) (w:World),Rel F os s a w→∀(next:Act→World→Prop) (Q:Exit→Act→World→Prop),
    (∀a' w',Step k s.n F os w (·=s.put o.dst v) a' w'→next a' w')→o.wp P a w next Q
def bI (P:Program) (o:Oper) (s:St) (K:AV→Prop):Prop:=
  ∃v,(∀s0:St,s0.st=s.st→(∀x∈o.op.operands,s0.ev x=s.ev x)→Ev s0.n o.dst=true→Yl P o s0 v)∧K v
def Jd (P:Program) (o:Oper) (s:St) (K:AV→Prop):Prop:=
  if Im o.op then bI P o s K else HN P s o.op K
theorem U4 {op:Op} {K:AV→Prop} (h:HN P s op K) :∃v,K v∧HN P s op (·=v):=by
  unfold HN at h ⊢
  split at h
  case h_1=>exact⟨_,h,rfl⟩
  case h_2=>exact⟨_,h,rfl⟩
  case h_3=>
    unfold Mf at h ⊢
    split at h
    · exact⟨_,h,rfl⟩
    · rename_i t _ _
      cases t
      · exact⟨_,h.2 rfl,by simp⟩
      · exact⟨_,h.1 rfl,by simp⟩
    · exact h.elim
  case h_4=>
    unfold TO at h ⊢
    split at h
    · obtain⟨row,h1,h2,h3⟩:=A3 h;exact⟨_,h3,Am row h1 ⟨h2,rfl⟩⟩
    · exact⟨_,h,rfl⟩
    · exact h.elim
  case h_5 op t x y _=>
    unfold SV at h ⊢
    split at h
    · obtain⟨h1,h⟩:=h
      cases op <;> simp only[Vn] at h ⊢ <;> first | exact h.elim | exact⟨_,h,h1,rfl⟩ | exact⟨_,h.2,h1,h.1,rfl⟩
    · obtain⟨h1,h⟩:=h
      split at h
      · exact⟨_,h,h1,rfl⟩
      · exact⟨_,h,h1,rfl⟩
      · exact h.elim
    · exact h.elim
  case h_6=>
    unfold X9 at h ⊢
    split at h
    · exact⟨_,h,rfl⟩
    · exact⟨_,h,rfl⟩
    · exact h.elim
  case h_7=>
    unfold Wr at h ⊢
    split at h
    · exact⟨_,h,rfl⟩
    · exact h.elim
  case h_8 t p=>
    obtain⟨ti,h1,h⟩:=A3 h
    have part :∀{x:List AV} {off:Nat},I6 ti.1 ti.2 x off K→∃v,K v∧I6 ti.1 ti.2 x off (·=v):=fun {x off} h=>by
      unfold I6 at h ⊢
      split at h
      · rename_i hh;exact⟨_,h.2,by rw[if_pos hh];exact⟨h.1,rfl⟩⟩
      · rename_i hh;obtain⟨c,e1,e2⟩:=A3 h;exact⟨c,e2,by rw[if_neg hh];exact Am c e1 rfl⟩
    unfold L2
    generalize s.ev p=pv at h ⊢
    cases pv with
    | ptr id g i off=>
      obtain⟨row,e1,e2,h⟩:=A3 h
      obtain⟨x,e3,h⟩:=A3 h
      obtain⟨v,hv,h⟩:=part h
      exact⟨v,hv,Am ti h1 (Am row e1 ⟨e2,Am x e3 h⟩)⟩
    | Bi x off=>
      obtain⟨v,hv,h⟩:=part h
      exact⟨v,hv,Am ti h1 h⟩
    | _=>exact h.elim
  case h_9 t x f=>
    obtain⟨o,h1,h⟩:=A3 h
    unfold JU
    generalize s.ev x=pv at h ⊢
    cases pv with
    | ptr id g i off=>
      obtain⟨row,e1,e2,e3,h⟩:=A3 h
      exact⟨_,h,Am o h1 (Am row e1 ⟨e2,e3,rfl⟩)⟩
    | Bi x off=>exact⟨_,h,Am o h1 rfl⟩
    | _=>exact h.elim
  case h_10=>
    unfold KU at h ⊢
    split at h
    · obtain⟨g,e1,h⟩:=A3 h
      obtain⟨ti,e2,h⟩:=A3 h
      unfold I6 at h
      split at h
      · rename_i hh;exact⟨_,h.2,Am g e1 (Am ti e2 (by unfold I6;rw[if_pos hh];exact⟨h.1,rfl⟩))⟩
      · rename_i hh;obtain⟨c,f1,f2⟩:=A3 h;exact⟨c,f2,Am g e1 (Am ti e2 (by unfold I6;rw[if_neg hh];exact Am c f1 rfl))⟩
    · exact h.elim
  case h_11 t x i=>
    obtain⟨ei,e1,h⟩:=A3 h
    unfold IA
    generalize s.ev x=xv at h ⊢
    generalize s.ev i=iv at h ⊢
    cases xv with
    | own id g n=>
      cases iv with
      | int kk j=>
        obtain⟨h1,h2,h⟩:=h
        obtain⟨row,e2,e3,e4,h⟩:=A3 h
        exact⟨_,h,Am ei e1 ⟨h1,h2,Am row e2 ⟨e3,e4,rfl⟩⟩⟩
      | _=>exact h.elim
    | sl xs=>
      cases iv with
      | int kk j=>
        obtain⟨h1,h⟩:=h
        obtain⟨y,e2,e3,h⟩:=A3 h
        exact⟨_,h,Am ei e1 ⟨h1,Am y e2 ⟨e3,rfl⟩⟩⟩
      | _=>exact h.elim
    | _=>exact h.elim
  case h_12=>
    unfold Mr at h ⊢
    split at h
    · obtain⟨c,f1,f2⟩:=A3 h;exact⟨c,f2,Am c f1 rfl⟩
    · exact h.elim
  case h_13=>
    obtain⟨h1,h⟩:=h
    obtain⟨fs,e1,h⟩:=A3 h
    obtain⟨z,e2,h⟩:=A3 h
    obtain⟨cs,e3,h⟩:=A3 h
    exact⟨_,h,h1,Am fs e1 (Am z e2 (Am cs e3 rfl))⟩
  case h_14=>exact⟨_,h.2,h.1,rfl⟩
  case h_15=>
    split at h
    · obtain⟨h1,h⟩:=h
      unfold XD at h ⊢
      split at h
      · obtain⟨row,e1,e2,h⟩:=A3 h;exact⟨_,h,h1,Am row e1 ⟨e2,rfl⟩⟩
      · exact⟨_,h,h1,rfl⟩
      · exact⟨_,h,h1,rfl⟩
      · exact h.elim
    · exact h.elim
  case h_16=>
    split at h
    · unfold XG at h ⊢
      split at h
      · exact⟨_,h,rfl⟩
      · exact h.elim
    · exact h.elim
  case h_17=>
    split at h
    · unfold ZV at h ⊢
      split at h
      · exact⟨_,h,rfl⟩
      · exact h.elim
    · exact h.elim
  case h_18=>exact h.elim
theorem Wt {o:Oper} {K:AV→Prop} (h:Jd P o s K) :∃v,K v∧Jd P o s (·=v):=by
  unfold Jd at h ⊢
  split at h
  · rename_i hc
    simp only[hc,if_true]
    obtain⟨v,h1,h2⟩:=h
    exact⟨v,h2,v,h1,rfl⟩
  · rename_i hc
    simp only[hc,Bool.false_eq_true,if_false]
    exact U4 h
theorem Q2 {s:St} {d:Option Tmp} {v:AV} {x:Operand} (h :∀t,d=some t→x≠.tmp t):(s.put d v).ev x=s.ev x:=by
  cases d with
  | none=>rfl
  | some d=>
    cases x with
    | tmp t=>
      have hne:t≠d:=fun e=>h d rfl (e ▸ rfl)
      simp[St.ev,St.put,FU,hne]
    | _=>rfl
theorem put_comm (s:St) {x y:Option Tmp} (v u:AV) (h :∀d,x=some d→y≠some d):(s.put x v).put y u=(s.put y u).put x v:=by
  cases x with
  | none=>rfl
  | some d=>
    cases y with
    | none=>rfl
    | some e=>
      have hne:d≠e:=fun he=>h d rfl (he ▸ rfl)
      simp only[St.put,St.mk.injEq,true_and,and_true]
      funext t
      simp only[FU]
      by_cases h1:t=d
      · subst h1;simp[hne]
      · by_cases h2:t=e
        · subst h2;simp[h1]
        · simp[h1,h2]
theorem W8 (s:St) (d:Option Tmp) (v:AV):(s.put d v).st=s.st:=by cases d <;> rfl
theorem Od {s s':St} {o:Oper} {K:AV→Prop} (hst:s'.st=s.st) (h :∀x∈o.op.operands,s'.ev x=s.ev x) (hd:Jd P o s K):Jd P o s' K:=by
  unfold Jd at hd ⊢
  split at hd
  · rename_i hc
    simp only[hc,if_true]
    obtain⟨v,h1,h2⟩:=hd
    exact⟨v,fun s0 e1 e2 e3=>h1 s0 (e1.trans hst) (fun x hx=>(e2 x hx).trans (h x hx)) e3,h2⟩
  rename_i hc
  simp only[hc,Bool.false_eq_true,if_false]
  obtain⟨dst,op,ty,pos,after,guard⟩:=o
  simp only at h hd hc ⊢
  have hlist :∀args:Array Operand,(∀x∈args,s'.ev x=s.ev x)→args.toList.map s'.ev=args.toList.map s.ev:=fun args ha=>List.map_congr_left fun x hx=>ha x (by simpa using hx)
  have hparts :∀parts:Array (Nat×Operand),(∀p∈parts,s'.ev p.2=s.ev p.2)→(parts.toList.map fun p=>(p.1,s'.ev p.2))=parts.toList.map fun p=>(p.1,s.ev p.2):=fun parts hp=>List.map_congr_left fun p hx=>by rw[hp p (by simpa using hx)]
  cases op
  case call c=>
    obtain⟨callee,args,types⟩:=c
    cases callee with
    | value f=>exact absurd rfl hc
    | invoke r m=>exact hd
    | builtin b=>
      have ha :∀x∈args,s'.ev x=s.ev x:=fun x hx=>h x (by simp[Op.operands,Call.operands,hx])
      cases b <;> simp only[HN] at hd ⊢ <;> first
        | exact hd
        | (split at hd
           · rename_i h1 h2
             have hx:=ha _ (by rw[← Array.mem_toList_iff,h1];exact List.mem_cons_self)
             rw[hx,hst];exact hd
           · exact hd.elim)
        | (split at hd
           · rename_i x y h1
             have hx:=ha x (by rw[← Array.mem_toList_iff,h1];simp)
             have hy:=ha y (by rw[← Array.mem_toList_iff,h1];simp)
             rw[hx,hy];exact hd
           · exact hd.elim)
  case build t parts=>
    simp only[HN] at hd ⊢
    rw[hparts parts (fun p hp=>h p.2 (by simp only[Op.operands,List.mem_toArray,List.mem_map];exact⟨p,by simpa using hp,rfl⟩))]
    exact hd
  case makeFunc fn first caps=>
    cases fn <;> simp only[HN] at hd ⊢ <;> try exact hd
    rw[hlist caps (fun x hx=>h x (by simp[Op.operands,hx]))]
    exact hd
  all_goals simp only[HN,Op.operands,List.mem_toArray,List.mem_cons,List.not_mem_nil,or_false,forall_eq_or_imp,forall_eq] at hd h ⊢
  all_goals first
    | exact hd
    | (rw[h,hst];exact hd)
    | (rw[h];exact hd)
    | (rw[h.1,h.2,hst];exact hd)
    | (rw[h.1,h.2];exact hd)
    | (rw[h.1,h.2.1,h.2.2];exact hd)
end Go.Abs

