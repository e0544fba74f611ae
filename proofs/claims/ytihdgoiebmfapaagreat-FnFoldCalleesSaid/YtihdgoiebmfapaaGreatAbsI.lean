import Derived.Test.YtihdgoiebmfapaaGreatAbsH
set_option linter.all false
namespace Go.Abs
open Go
variable {P : Program} {F : Nat -> Prop} {os : List Own} {s : St} {a : Act} {w : World} {k : Nat}
def two (X:AV->AV):AV->AV
  | .fn f cs=>.fn f (cs.map X)
  | .agg cs=>.agg (cs.map X)
  | .Dd _=>.E7
  | v=>X v
theorem Lb {F F':Nat->Prop}{w w':World}{os os':List Own}{X:AV->AV}(h0 :∀x v,Ae F w os x v->Ae F' w' os' (X x) v):∀x v,Ae F w os x v->Ae F' w' os' (two X x) v:=by
  have hL:∀cs us,Bs F w os cs us->Bs F' w' os' (cs.map X) us:=λcs us h=>
    Db (by simp[BZ h]) λi x u hx hu=>by
      simp only[lW,lg]at hx;obtain⟨y,hy,rfl⟩:=hx;obtain⟨u',sK,ry⟩:=CO h i y hy;rw[sK]at hu;cases hu;exact h0 _ _ ry
  intro x v h;cases x with
  | fn f cs=>simp only[two,Ae]at h⊢;obtain⟨us,e,hl⟩:=h;exact⟨us,e,hL _ _ hl⟩
  | agg cs=>simp only[two,Ae]at h⊢;obtain⟨us,e,hl⟩:=h;exact⟨us,e,hL _ _ hl⟩
  | Dd cs=>simp[two,Ae]
  | _=>exact h0 _ _ h
theorem Sg {X:AV->AV}{c:AV}{el s:Nat}{ys:List (List AV)}(h0 :∀c,X c=.dv el s ys->c=.dv el s ys)(h:two X c=.dv el s ys):c=.dv el s ys:=by
  cases c<;>simp only[two]at h<;>first|exact h0 _ h|cases h
def simple:AV->Bool
  | .own ..|.ptr ..|.fn ..|.agg _|.Dd _|.dv ..=>false
  | _=>true
def Ee:AV->Bool
  | .dv ..=>true
  | c=>simple c
def Ye:AV->Bool
  | .fn _ cs|.agg cs=>cs.all simple
  | c=>simple c
def flat:AV->Bool
  | .own ..|.ptr ..|.dv ..=>false
  | .fn _ cs|.agg cs=>cs.all simple
  | .Dd cs=>cs.all Ye
  | _=>true
theorem Fh {x:AV}{v:Value}(h:simple x=true)(os':List Own)(hr:Ae F w os x v):Ae F w os' x v:=by
  cases x<;>simp only[simple,lY]at h<;>simp only[Ae]at hr⊢<;>exact hr
theorem YQ {x:AV}{v:Value}(h:Ee x=true)(os':List Own)(hr:Ae F w os x v):Ae F w os' x v:=by
  cases x with
  | dv=>simpa [Ae] using hr
  | _=>exact Fh (by simpa [Ee] using h) os' hr
theorem PB {c:AV}(h:simple c=true):Ee c=true:=by cases c<;>simp_all [simple,Ee]
theorem MH {xs:List AV}{us:List Value}(h:xs.all simple=true)(os':List Own)(hr:Bs F w os xs us):Bs F w os' xs us:=
  Db (BZ hr) λi x u hx hu=>by
    obtain⟨u',e1,e2⟩:=CO hr i x hx;rw[hu]at e1;cases e1;exact Fh (lh.1 h x (lT hx)) os' e2
theorem bE {x:AV}{v:Value}(h:Ye x=true)(os':List Own)(hr:Ae F w os x v):Ae F w os' x v:=by
  cases x with
  | fn f cs=>simp only[Ae]at hr⊢;obtain⟨us,e,hl⟩:=hr;exact⟨us,e,MH h os' hl⟩
  | agg cs=>simp only[Ae]at hr⊢;obtain⟨us,e,hl⟩:=hr;exact⟨us,e,MH h os' hl⟩
  | _=>exact Fh (by simpa [Ye] using h) os' hr
theorem Zs {xs:List AV}{us:List Value}(h:xs.all Ye=true)(os':List Own)(hr:Bs F w os xs us):Bs F w os' xs us:=
  Db (BZ hr) λi x u hx hu=>by
    obtain⟨u',e1,e2⟩:=CO hr i x hx;rw[hu]at e1;cases e1;exact bE (lh.1 h x (lT hx)) os' e2
theorem Jd {x:AV}{v:Value}(h:flat x=true)(os':List Own)(hr:Ae F w os x v):Ae F w os' x v:=by
  cases x with
  | own=>simp[flat]at h
  | ptr=>simp[flat]at h
  | dv=>simp[flat]at h
  | fn f cs=>simp only[Ae]at hr⊢;obtain⟨us,e,hl⟩:=hr;exact⟨us,e,MH h os' hl⟩
  | agg cs=>simp only[Ae]at hr⊢;obtain⟨us,e,hl⟩:=hr;exact⟨us,e,MH h os' hl⟩
  | Dd cs=>simp only[Ae]at hr⊢;obtain⟨us,e,hl⟩:=hr;exact⟨us,e,Zs h os' hl⟩
  | _=>exact Fh rfl os' hr
theorem RK {xs:List AV}{us:List Value}(h:xs.all flat=true)(os':List Own)(hr:Bs F w os xs us):Bs F w os' xs us:=
  Db (BZ hr) λi x u hx hu=>by
    obtain⟨u',e1,e2⟩:=CO hr i x hx;rw[hu]at e1;cases e1;exact Jd (lh.1 h x (lT hx)) os' e2
theorem HF.nil (hold :∀b,F b->b<w.heap.size):HF F [] [] w:=⟨rfl,by simp,by simp,hold⟩
theorem Rel.after (hr:Rel F os s a w){F':Nat->Prop}{w':World}{rL:List Own}(he:Ext F [] w F' rL w' 0)(hold :∀b,F' b->b<w'.heap.size):
    Rel F' os s a w'/\Ext F os w F' os w' k/\(∀x v,Ae F w os x v->Ae F' w' os x v)/\∀(i:Nat) (o:Own),os[i]?=some o->∀b,o.owns b->∀o1:Own,o1∈rL->¬ o1.owns b:=by
  have qk:∀x v,Ae F w os x v->Ae F' w' os x v:=λx v h=>DV he.NQ he.IX os os (FK.refl os) x v h;have tJ:∀(i:Nat) (o:Own),os[i]?=some o->∀b,o.owns b->w'.heap[b]?=w.heap[b]?/\¬ F' b/\∀o1:Own,o1∈rL->¬ o1.owns b:=λi o ho b hb=>
    he.other b ((hr.rows i o ho).lt hb) ((hr.rows i o ho).nF hb) (by simp)
  refine⟨⟨hr.st,λi=>qk _ _ (hr.env i),hr.size,λi o ho=>?_,hr.inj,hold,hr.defers⟩,⟨he.sys,he.tape,he.output,he.size,he.NQ,he.IX,λb hb h1 h2=>?_,λi o _ ho=>⟨o,ho,ll _,rfl,λ_=>⟨rfl,rfl,rfl⟩⟩⟩,qk,λi o ho b hb=>(tJ i o ho b hb).2.2⟩
  · have qf:=hr.rows i o ho;refine⟨qf.pos,qf.lens,qf.none,λb hb=>?_,λb hb=>⟨(tJ i o ho b (.inr hb)).2.1,ma (qf.mo b hb).2.1 he.size,(qf.mo b hb).2.2⟩,
      qf.deep.keep rfl (λ_ h=>h) rfl (λb hb=>(tJ i o ho b hb).1) (λi x j e s ys hx hc=>⟨x,hx,hc⟩)⟩
    obtain⟨h1,cur,h2,h3,h4,h5,h6⟩:=qf.some b hb;obtain⟨e1,e2,_⟩:=tJ i o ho b (.inl hb);exact⟨e2,cur,by rw[e1];exact h2,h3,h4,h5,λi' x hx j c hc=>by
      obtain⟨u,f1,f2⟩:=h6 i' x hx j c hc;exact⟨u,f1,qk _ _ f2⟩⟩
  · obtain⟨e1,e2,_⟩:=he.other b hb h1 (by simp);exact⟨e1,e2,h2⟩
theorem Um {f:FuncId}{args:List AV}{d:Option Tmp}{K:St->Prop}{v:AV}(h:Ab P f args [] λr st'=>r=v/\st'=[])(hf:args.all flat=true)(hv:flat v=true)(hK:K (s.put d v)):callThen P k s f args d K:=by
  intro F os a w vs hr hl;refine (h F [] w vs (HF.nil hr.FR) (RK hf [] hl)).mono ?_;rintro e w' ⟨u,r,st',F',os',rfl,⟨rfl,rfl⟩,hs,hru,he⟩;have rU:os'=[]:=by have:=hs.st;simpa using this
  subst rU;obtain⟨h1,h2,_⟩:=hr.after (k:=k) he hs.FR;exact⟨u,r,s.st,F',os,rfl,hK,h1,Jd hv os hru,h2⟩
def Yl (P:Program)(o:Oper)(s:St)(v:AV):Prop:=
  ∀(k:Nat) (F:Nat->Prop) (os:List Own) (a:Act) (w:World),Rel F os s a w->∀(next:Act->World->Prop) (Q:Exit->Act->World->Prop),
    (∀a' w',Step k s.n F os w (·=s.put o.dst v) a' w'->next a' w')->o.wp P a w next Q
def jb (P:Program)(o:Oper)(s:St)(K:AV->Prop):Prop:=
  ∃v,(∀s0:St,s0.st=s.st->(∀x∈o.op.operands,s0.ev x=s.ev x)->DH s0.n o.dst=true->Yl P o s0 v)/\K v
def LI (P:Program)(o:Oper)(s:St)(K:AV->Prop):Prop:=
  if J3 o.op then jb P o s K else Je P s o.op K
theorem Zi {op:Op}{K:AV->Prop}(h:Je P s op K):∃v,K v/\Je P s op (·=v):=by
  unfold Je at h⊢;split at h
  case h_1=>exact⟨_,h,rfl⟩
  case h_2=>exact⟨_,h,rfl⟩
  case h_3=>
    unfold PU at h⊢;split at h
    · exact⟨_,h,rfl⟩
    · rename_i t _ _;cases t
      · exact⟨_,h.2 rfl,by simp⟩
      · exact⟨_,h.1 rfl,by simp⟩
    · exact h.elim
  case h_4=>
    unfold X3 at h⊢;split at h
    · obtain⟨row,h1,h2,h3⟩:=BP h;exact⟨_,h3,Aq row h1 ⟨h2,rfl⟩⟩
    · exact⟨_,h,rfl⟩
    · exact h.elim
  case h_5 op t x y _=>
    unfold WN at h⊢;split at h
    · obtain⟨h1,h⟩:=h;cases op<;>simp only[aS]at h⊢<;>first|exact h.elim|exact⟨_,h,h1,rfl⟩|exact⟨_,h.2,h1,h.1,rfl⟩
    · obtain⟨h1,h⟩:=h;split at h
      · exact⟨_,h,h1,rfl⟩
      · exact⟨_,h,h1,rfl⟩
      · exact h.elim
    · exact h.elim
  case h_6=>
    unfold dm at h⊢;split at h
    · exact⟨_,h,rfl⟩
    · exact⟨_,h,rfl⟩
    · exact h.elim
  case h_7=>
    unfold WU at h⊢;split at h
    · exact⟨_,h,rfl⟩
    · exact h.elim
  case h_8 t p=>
    obtain⟨ti,h1,h⟩:=BP h;have part:∀{x:List AV} {off:Nat},LF ti.1 ti.2 x off K->∃v,K v/\LF ti.1 ti.2 x off (·=v):=λ{x off} h=>by
      unfold LF at h⊢;split at h
      · rename_i hh;exact⟨_,h.2,by rw[ld hh];exact⟨h.1,rfl⟩⟩
      · rename_i hh;obtain⟨c,e1,e2⟩:=BP h;exact⟨c,e2,by rw[la hh];exact Aq c e1 rfl⟩
    unfold PX;generalize s.ev p=pv at h⊢;cases pv with
    | ptr id g i off=>
      obtain⟨row,e1,e2,h⟩:=BP h;obtain⟨x,e3,h⟩:=BP h;obtain⟨v,hv,h⟩:=part h;exact⟨v,hv,Aq ti h1 (Aq row e1 ⟨e2,Aq x e3 h⟩)⟩
    | Bn x off=>
      obtain⟨v,hv,h⟩:=part h;exact⟨v,hv,Aq ti h1 h⟩
    | _=>exact h.elim
  case h_9 t x f=>
    obtain⟨o,h1,h⟩:=BP h;unfold Le;generalize s.ev x=pv at h⊢;cases pv with
    | ptr id g i off=>
      obtain⟨row,e1,e2,e3,h⟩:=BP h;exact⟨_,h,Aq o h1 (Aq row e1 ⟨e2,e3,rfl⟩)⟩
    | Bn x off=>exact⟨_,h,Aq o h1 rfl⟩
    | _=>exact h.elim
  case h_10=>
    unfold NI at h⊢;split at h
    · obtain⟨g,e1,h⟩:=BP h;obtain⟨ti,e2,h⟩:=BP h;unfold LF at h;split at h
      · rename_i hh;exact⟨_,h.2,Aq g e1 (Aq ti e2 (by unfold LF;rw[ld hh];exact⟨h.1,rfl⟩))⟩
      · rename_i hh;obtain⟨c,f1,f2⟩:=BP h;exact⟨c,f2,Aq g e1 (Aq ti e2 (by unfold LF;rw[la hh];exact Aq c f1 rfl))⟩
    · exact h.elim
  case h_11 t x i=>
    obtain⟨ei,e1,h⟩:=BP h;unfold JS;generalize s.ev x=xv at h⊢;generalize s.ev i=iv at h⊢;cases xv with
    | own id g n=>
      cases iv with
      | int kk j=>
        obtain⟨h1,h2,h⟩:=h;obtain⟨row,e2,e3,e4,h⟩:=BP h;exact⟨_,h,Aq ei e1 ⟨h1,h2,Aq row e2 ⟨e3,e4,rfl⟩⟩⟩
      | _=>exact h.elim
    | sl xs=>
      cases iv with
      | int kk j=>
        obtain⟨h1,h⟩:=h;obtain⟨y,e2,e3,h⟩:=BP h;exact⟨_,h,Aq ei e1 ⟨h1,Aq y e2 ⟨e3,rfl⟩⟩⟩
      | _=>exact h.elim
    | _=>exact h.elim
  case h_12=>
    unfold QR at h⊢;split at h
    · obtain⟨c,f1,f2⟩:=BP h;exact⟨c,f2,Aq c f1 rfl⟩
    · exact h.elim
  case h_13=>
    obtain⟨h1,h⟩:=h;obtain⟨fs,e1,h⟩:=BP h;obtain⟨z,e2,h⟩:=BP h;obtain⟨cs,e3,h⟩:=BP h;exact⟨_,h,h1,Aq fs e1 (Aq z e2 (Aq cs e3 rfl))⟩
  case h_14=>exact⟨_,h.2,h.1,rfl⟩
  case h_15=>
    split at h
    · obtain⟨h1,h⟩:=h;unfold dB at h⊢;split at h
      · obtain⟨row,e1,e2,h⟩:=BP h;exact⟨_,h,h1,Aq row e1 ⟨e2,rfl⟩⟩
      · exact⟨_,h,h1,rfl⟩
      · exact⟨_,h,h1,rfl⟩
      · exact h.elim
    · exact h.elim
  case h_16=>
    split at h
    · unfold cf at h⊢;split at h
      · exact⟨_,h,rfl⟩
      · exact h.elim
    · exact h.elim
  case h_17=>
    split at h
    · unfold ck at h⊢;split at h
      · exact⟨_,h,rfl⟩
      · exact h.elim
    · exact h.elim
  case h_18=>exact h.elim
theorem Wv {o:Oper}{K:AV->Prop}(h:LI P o s K):∃v,K v/\LI P o s (·=v):=by
  unfold LI at h⊢;split at h
  · rename_i hc;simp only[hc,mL];obtain⟨v,h1,h2⟩:=h;exact⟨v,h2,v,h1,rfl⟩
  · rename_i hc;simp only[hc,lY,mC];exact Zi h
theorem VI {s:St}{d:Option Tmp}{v:AV}{x:Operand}(h :∀t,d=some t->x≠.tmp t):(s.put d v).ev x=s.ev x:=by
  cases d with
  | none=>rfl
  | some d=>
    cases x with
    | tmp t=>
      have rE:t≠d:=λe=>h d rfl (e▸rfl);simp[St.ev,St.put,EI,rE]
    | _=>rfl
theorem put_comm (s:St){x y:Option Tmp}(v u:AV)(h :∀d,x=some d->y≠some d):(s.put x v).put y u=(s.put y u).put x v:=by
  cases x with
  | none=>rfl
  | some d=>
    cases y with
    | none=>rfl
    | some e=>
      have rE:d≠e:=λhe=>h d rfl (he▸rfl);simp only[St.put,St.mk.injEq,true_and,and_true];funext t;simp only[EI];by_cases h1:t=d
      · subst h1;simp[rE]
      · by_cases h2:t=e
        · subst h2;simp[h1]
        · simp[h1,h2]
theorem cS (s:St)(d:Option Tmp)(v:AV):(s.put d v).st=s.st:=by cases d<;>rfl
theorem OY {s s':St}{o:Oper}{K:AV->Prop}(qz:s'.st=s.st)(h :∀x∈o.op.operands,s'.ev x=s.ev x)(hd:LI P o s K):LI P o s' K:=by
  unfold LI at hd⊢;split at hd
  · rename_i hc;simp only[hc,mL];obtain⟨v,h1,h2⟩:=hd;exact⟨v,λs0 e1 e2 e3=>h1 s0 (e1.trans qz) (λx hx=>(e2 x hx).trans (h x hx)) e3,h2⟩
  rename_i hc;simp only[hc,lY,mC];obtain⟨dst,op,ty,pos,after,guard⟩:=o;simp only at h hd hc⊢;have hlist:∀args:Array Operand,(∀x∈args,s'.ev x=s.ev x)->args.toList.map s'.ev=args.toList.map s.ev:=λargs ha=>mH λx hx=>ha x (by simpa using hx);have zJ:∀parts:Array (Nat×Operand),(∀p∈parts,s'.ev p.2=s.ev p.2)->(parts.toList.map λp=>(p.1,s'.ev p.2))=parts.toList.map λp=>(p.1,s.ev p.2):=λparts hp=>mH λp hx=>by rw[hp p (by simpa using hx)]
  cases op
  case call c=>
    obtain⟨callee,args,types⟩:=c;cases callee with
    | value f=>exact absurd rfl hc
    | invoke r m=>exact hd
    | builtin b=>
      have ha:∀x∈args,s'.ev x=s.ev x:=λx hx=>h x (by simp[Op.operands,Call.operands,hx]);cases b<;>simp only[Je]at hd⊢<;>first
        | exact hd
        | (split at hd
           · rename_i h1 h2;have hx:=ha _ (by rw[<- pB,h1];exact nf);rw[hx,qz];exact hd
           · exact hd.elim)
        | (split at hd
           · rename_i x y h1;have hx:=ha x (by rw[<- pB,h1];simp);have hy:=ha y (by rw[<- pB,h1];simp);rw[hx,hy];exact hd
           · exact hd.elim)
  case build t parts=>
    simp only[Je]at hd⊢;rw[zJ parts (λp hp=>h p.2 (by simp only[Op.operands,pa,mA];exact⟨p,by simpa using hp,rfl⟩))];exact hd
  case makeFunc fn first rT=>
    cases fn<;>simp only[Je]at hd⊢<;>try exact hd
    rw[hlist rT (λx hx=>h x (by simp[Op.operands,hx]))];exact hd
  all_goals simp only[Je,Op.operands,pa,lk,mK,mr,forall_eq_or_imp,forall_eq]at hd h⊢
  all_goals first
    | exact hd
    | (rw[h,qz];exact hd)
    | (rw[h];exact hd)
    | (rw[h.1,h.2,qz];exact hd)
    | (rw[h.1,h.2];exact hd)
    | (rw[h.1,h.2.1,h.2.2];exact hd)
end Go.Abs
