import Derived.Test.YtihdgoiebmfapaaGreatAbsH
namespace Go.Abs
open Go
variable {P : Program} {F : Nat -> Prop} {os : List Own} {s : St} {a : Act} {w : World} {k : Nat}
def two (X:AV->AV):AV->AV
  | .fn f cs=>.fn f (cs.map X)
  | .agg cs=>.agg (cs.map X)
  | .Dd _=>.E7
  | v=>X v
theorem LR {F F':Nat->Prop}{w w':World}{os os':List Own}{X:AV->AV}(h0 :∀x v,Ae F w os x v->Ae F' w' os' (X x) v):∀x v,Ae F w os x v->Ae F' w' os' (two X x) v:=by
  have hL:∀cs us,Bs F w os cs us->Bs F' w' os' (cs.map X) us:=λcs us h=>
    Da (by simp[BZ h]) λi x u hx hu=>by
      simp only[lW,lg]at hx;obtain⟨y,hy,rfl⟩:=hx;obtain⟨u',sI,ru⟩:=CO h i y hy;rw[sI]at hu;cases hu;exact h0 _ _ ru
  intro x v h;cases x with
  | fn f cs=>simp only[two,Ae]at h⊢;obtain⟨us,e,hl⟩:=h;exact⟨us,e,hL _ _ hl⟩
  | agg cs=>simp only[two,Ae]at h⊢;obtain⟨us,e,hl⟩:=h;exact⟨us,e,hL _ _ hl⟩
  | Dd cs=>simp[two,Ae]
  | _=>exact h0 _ _ h
theorem SM {X:AV->AV}{c:AV}{el s:Nat}{ys:List (List AV)}(h0 :∀c,X c=.dv el s ys->c=.dv el s ys)(h:two X c=.dv el s ys):c=.dv el s ys:=by
  cases c<;>simp only[two]at h<;>first|exact h0 _ h|cases h
def simple:AV->Bool
  | .own ..|.ptr ..|.fn ..|.agg _|.Dd _|.dv ..=>false
  | _=>true
def Ee:AV->Bool
  | .dv ..=>true
  | c=>simple c
def Yo:AV->Bool
  | .fn _ cs|.agg cs=>cs.all simple
  | c=>simple c
def flat:AV->Bool
  | .own ..|.ptr ..|.dv ..=>false
  | .fn _ cs|.agg cs=>cs.all simple
  | .Dd cs=>cs.all Yo
  | _=>true
theorem Fg {x:AV}{v:Value}(h:simple x=true)(os':List Own)(hr:Ae F w os x v):Ae F w os' x v:=by
  cases x<;>simp only[simple,lY]at h<;>simp only[Ae]at hr⊢<;>exact hr
theorem Yy {x:AV}{v:Value}(h:Ee x=true)(os':List Own)(hr:Ae F w os x v):Ae F w os' x v:=by
  cases x with
  | dv=>simpa [Ae] using hr
  | _=>exact Fg (by simpa [Ee] using h) os' hr
theorem PH {c:AV}(h:simple c=true):Ee c=true:=by cases c<;>simp_all [simple,Ee]
theorem L9 {xs:List AV}{us:List Value}(h:xs.all simple=true)(os':List Own)(hr:Bs F w os xs us):Bs F w os' xs us:=
  Da (BZ hr) λi x u hx hu=>by
    obtain⟨u',e1,e2⟩:=CO hr i x hx;rw[hu]at e1;cases e1;exact Fg (lh.1 h x (lT hx)) os' e2
theorem cH {x:AV}{v:Value}(h:Yo x=true)(os':List Own)(hr:Ae F w os x v):Ae F w os' x v:=by
  cases x with
  | fn f cs=>simp only[Ae]at hr⊢;obtain⟨us,e,hl⟩:=hr;exact⟨us,e,L9 h os' hl⟩
  | agg cs=>simp only[Ae]at hr⊢;obtain⟨us,e,hl⟩:=hr;exact⟨us,e,L9 h os' hl⟩
  | _=>exact Fg (by simpa [Yo] using h) os' hr
theorem aY {xs:List AV}{us:List Value}(h:xs.all Yo=true)(os':List Own)(hr:Bs F w os xs us):Bs F w os' xs us:=
  Da (BZ hr) λi x u hx hu=>by
    obtain⟨u',e1,e2⟩:=CO hr i x hx;rw[hu]at e1;cases e1;exact cH (lh.1 h x (lT hx)) os' e2
theorem Ji {x:AV}{v:Value}(h:flat x=true)(os':List Own)(hr:Ae F w os x v):Ae F w os' x v:=by
  cases x with
  | own=>simp[flat]at h
  | ptr=>simp[flat]at h
  | dv=>simp[flat]at h
  | fn f cs=>simp only[Ae]at hr⊢;obtain⟨us,e,hl⟩:=hr;exact⟨us,e,L9 h os' hl⟩
  | agg cs=>simp only[Ae]at hr⊢;obtain⟨us,e,hl⟩:=hr;exact⟨us,e,L9 h os' hl⟩
  | Dd cs=>simp only[Ae]at hr⊢;obtain⟨us,e,hl⟩:=hr;exact⟨us,e,aY h os' hl⟩
  | _=>exact Fg rfl os' hr
theorem RQ {xs:List AV}{us:List Value}(h:xs.all flat=true)(os':List Own)(hr:Bs F w os xs us):Bs F w os' xs us:=
  Da (BZ hr) λi x u hx hu=>by
    obtain⟨u',e1,e2⟩:=CO hr i x hx;rw[hu]at e1;cases e1;exact Ji (lh.1 h x (lT hx)) os' e2
theorem G6.nil (hold :∀b,F b->b<w.heap.size):G6 F [] [] w:=⟨rfl,by simp,by simp,hold⟩
theorem Rel.after (hr:Rel F os s a w){F':Nat->Prop}{w':World}{rJ:List Own}(he:Ext F [] w F' rJ w' 0)(hold :∀b,F' b->b<w'.heap.size):
    Rel F' os s a w'/\Ext F os w F' os w' k/\(∀x v,Ae F w os x v->Ae F' w' os x v)/\∀(i:Nat) (o:Own),os[i]?=some o->∀b,o.owns b->∀o1:Own,o1∈rJ->¬ o1.owns b:=by
  have qi:∀x v,Ae F w os x v->Ae F' w' os x v:=λx v h=>DW he.NS he.IU os os (FN.refl os) x v h;have tH:∀(i:Nat) (o:Own),os[i]?=some o->∀b,o.owns b->w'.heap[b]?=w.heap[b]?/\¬ F' b/\∀o1:Own,o1∈rJ->¬ o1.owns b:=λi o ho b hb=>
    he.other b ((hr.rows i o ho).lt hb) ((hr.rows i o ho).nF hb) (by simp)
  refine⟨⟨hr.st,λi=>qi _ _ (hr.env i),hr.size,λi o ho=>?_,hr.inj,hold,hr.defers⟩,⟨he.sys,he.tape,he.output,he.size,he.NS,he.IU,λb hb h1 h2=>?_,λi o _ ho=>⟨o,ho,ll _,rfl,λ_=>⟨rfl,rfl,rfl⟩⟩⟩,qi,λi o ho b hb=>(tH i o ho b hb).2.2⟩
  · have qd:=hr.rows i o ho;refine⟨qd.pos,qd.lens,qd.none,λb hb=>?_,λb hb=>⟨(tH i o ho b (.inr hb)).2.1,ma (qd.mo b hb).2.1 he.size,(qd.mo b hb).2.2⟩,
      qd.deep.keep rfl (λ_ h=>h) rfl (λb hb=>(tH i o ho b hb).1) (λi x j e s ys hx hc=>⟨x,hx,hc⟩)⟩
    obtain⟨h1,cur,h2,h3,h4,h5,h6⟩:=qd.some b hb;obtain⟨e1,e2,_⟩:=tH i o ho b (.inl hb);exact⟨e2,cur,by rw[e1];exact h2,h3,h4,h5,λi' x hx j c hc=>by
      obtain⟨u,f1,f2⟩:=h6 i' x hx j c hc;exact⟨u,f1,qi _ _ f2⟩⟩
  · obtain⟨e1,e2,_⟩:=he.other b hb h1 (by simp);exact⟨e1,e2,h2⟩
theorem Uf {f:FuncId}{args:List AV}{d:Option Tmp}{K:St->Prop}{v:AV}(h:Ab P f args [] λr st'=>r=v/\st'=[])(hf:args.all flat=true)(hv:flat v=true)(hK:K (s.put d v)):callThen P k s f args d K:=by
  intro F os a w vs hr hl;refine (h F [] w vs (G6.nil hr.FR) (RQ hf [] hl)).mono ?_;rintro e w' ⟨u,r,st',F',os',rfl,⟨rfl,rfl⟩,hs,hru,he⟩;have rS:os'=[]:=by have:=hs.st;simpa using this
  subst rS;obtain⟨h1,h2,_⟩:=hr.after (k:=k) he hs.FR;exact⟨u,r,s.st,F',os,rfl,hK,h1,Ji hv os hru,h2⟩
def Yl (P:Program)(o:Oper)(s:St)(v:AV):Prop:=
  ∀(k:Nat) (F:Nat->Prop) (os:List Own) (a:Act) (w:World),Rel F os s a w->∀(next:Act->World->Prop) (Q:Exit->Act->World->Prop),
    (∀a' w',Step k s.n F os w (·=s.put o.dst v) a' w'->next a' w')->o.wp P a w next Q
def jR (P:Program)(o:Oper)(s:St)(K:AV->Prop):Prop:=
  ∃v,(∀s0:St,s0.st=s.st->(∀x∈o.op.operands,s0.ev x=s.ev x)->DH s0.n o.dst=true->Yl P o s0 v)/\K v
def LC (P:Program)(o:Oper)(s:St)(K:AV->Prop):Prop:=
  if J5 o.op then jR P o s K else Jd P s o.op K
theorem aR {op:Op}{K:AV->Prop}(h:Jd P s op K):∃v,K v/\Jd P s op (·=v):=by
  unfold Jd at h⊢;split at h
  case h_1=>exact⟨_,h,rfl⟩
  case h_2=>exact⟨_,h,rfl⟩
  case h_3=>
    unfold Pb at h⊢;split at h
    · exact⟨_,h,rfl⟩
    · rename_i t _ _;cases t
      · exact⟨_,h.2 rfl,by simp⟩
      · exact⟨_,h.1 rfl,by simp⟩
    · exact h.elim
  case h_4=>
    unfold Xw at h⊢;split at h
    · obtain⟨row,h1,h2,h3⟩:=BP h;exact⟨_,h3,Aq row h1 ⟨h2,rfl⟩⟩
    · exact⟨_,h,rfl⟩
    · exact h.elim
  case h_5 op t x y _=>
    unfold Vc at h⊢;split at h
    · obtain⟨h1,h⟩:=h;cases op<;>simp only[Z5]at h⊢<;>first|exact h.elim|exact⟨_,h,h1,rfl⟩|exact⟨_,h.2,h1,h.1,rfl⟩
    · obtain⟨h1,h⟩:=h;split at h
      · exact⟨_,h,h1,rfl⟩
      · exact⟨_,h,h1,rfl⟩
      · exact h.elim
    · exact h.elim
  case h_6=>
    unfold eP at h⊢;split at h
    · exact⟨_,h,rfl⟩
    · exact⟨_,h,rfl⟩
    · exact h.elim
  case h_7=>
    unfold WJ at h⊢;split at h
    · exact⟨_,h,rfl⟩
    · exact h.elim
  case h_8 t p=>
    obtain⟨ti,h1,h⟩:=BP h;have part:∀{x:List AV} {off:Nat},LJ ti.1 ti.2 x off K->∃v,K v/\LJ ti.1 ti.2 x off (·=v):=λ{x off} h=>by
      unfold LJ at h⊢;split at h
      · rename_i hh;exact⟨_,h.2,by rw[ld hh];exact⟨h.1,rfl⟩⟩
      · rename_i hh;obtain⟨c,e1,e2⟩:=BP h;exact⟨c,e2,by rw[la hh];exact Aq c e1 rfl⟩
    unfold Pa;generalize s.ev p=pv at h⊢;cases pv with
    | ptr id g i off=>
      obtain⟨row,e1,e2,h⟩:=BP h;obtain⟨x,e3,h⟩:=BP h;obtain⟨v,hv,h⟩:=part h;exact⟨v,hv,Aq ti h1 (Aq row e1 ⟨e2,Aq x e3 h⟩)⟩
    | Bo x off=>
      obtain⟨v,hv,h⟩:=part h;exact⟨v,hv,Aq ti h1 h⟩
    | _=>exact h.elim
  case h_9 t x f=>
    obtain⟨o,h1,h⟩:=BP h;unfold LS;generalize s.ev x=pv at h⊢;cases pv with
    | ptr id g i off=>
      obtain⟨row,e1,e2,e3,h⟩:=BP h;exact⟨_,h,Aq o h1 (Aq row e1 ⟨e2,e3,rfl⟩)⟩
    | Bo x off=>exact⟨_,h,Aq o h1 rfl⟩
    | _=>exact h.elim
  case h_10=>
    unfold NJ at h⊢;split at h
    · obtain⟨g,e1,h⟩:=BP h;obtain⟨ti,e2,h⟩:=BP h;unfold LJ at h;split at h
      · rename_i hh;exact⟨_,h.2,Aq g e1 (Aq ti e2 (by unfold LJ;rw[ld hh];exact⟨h.1,rfl⟩))⟩
      · rename_i hh;obtain⟨c,f1,f2⟩:=BP h;exact⟨c,f2,Aq g e1 (Aq ti e2 (by unfold LJ;rw[la hh];exact Aq c f1 rfl))⟩
    · exact h.elim
  case h_11 t x i=>
    obtain⟨ei,e1,h⟩:=BP h;unfold JP;generalize s.ev x=xv at h⊢;generalize s.ev i=iv at h⊢;cases xv with
    | own id g n=>
      cases iv with
      | int kk j=>
        obtain⟨h1,h2,h⟩:=h;obtain⟨row,e2,e3,e4,h⟩:=BP h;exact⟨_,h,Aq ei e1 ⟨h1,h2,Aq row e2 ⟨e3,e4,rfl⟩⟩⟩
      | _=>exact h.elim
    | sl xs=>
      cases iv with
      | int kk j=>
        obtain⟨h1,h⟩:=h;obtain⟨y,e2,e3,h⟩:=BP h;exact⟨_,h,Aq ei e1 ⟨h1,Aq y e2 ⟨e3,rfl⟩⟩⟩
      | _=>exact h.elim
    | _=>exact h.elim
  case h_12=>
    unfold QW at h⊢;split at h
    · obtain⟨c,f1,f2⟩:=BP h;exact⟨c,f2,Aq c f1 rfl⟩
    · exact h.elim
  case h_13=>
    obtain⟨h1,h⟩:=h;obtain⟨fs,e1,h⟩:=BP h;obtain⟨z,e2,h⟩:=BP h;obtain⟨cs,e3,h⟩:=BP h;exact⟨_,h,h1,Aq fs e1 (Aq z e2 (Aq cs e3 rfl))⟩
  case h_14=>exact⟨_,h.2,h.1,rfl⟩
  case h_15=>
    split at h
    · obtain⟨h1,h⟩:=h;unfold cT at h⊢;split at h
      · obtain⟨row,e1,e2,h⟩:=BP h;exact⟨_,h,h1,Aq row e1 ⟨e2,rfl⟩⟩
      · exact⟨_,h,h1,rfl⟩
      · exact⟨_,h,h1,rfl⟩
      · exact h.elim
    · exact h.elim
  case h_16=>
    split at h
    · unfold cr at h⊢;split at h
      · exact⟨_,h,rfl⟩
      · exact h.elim
    · exact h.elim
  case h_17=>
    split at h
    · unfold cm at h⊢;split at h
      · exact⟨_,h,rfl⟩
      · exact h.elim
    · exact h.elim
  case h_18=>exact h.elim
theorem WO {o:Oper}{K:AV->Prop}(h:LC P o s K):∃v,K v/\LC P o s (·=v):=by
  unfold LC at h⊢;split at h
  · rename_i hc;simp only[hc,mL];obtain⟨v,h1,h2⟩:=h;exact⟨v,h2,v,h1,rfl⟩
  · rename_i hc;simp only[hc,lY,mC];exact aR h
theorem VK {s:St}{d:Option Tmp}{v:AV}{x:Operand}(h :∀t,d=some t->x≠.tmp t):(s.put d v).ev x=s.ev x:=by
  cases d with
  | none=>rfl
  | some d=>
    cases x with
    | tmp t=>
      have rC:t≠d:=λe=>h d rfl (e▸rfl);simp[St.ev,St.put,EE,rC]
    | _=>rfl
theorem put_comm (s:St){x y:Option Tmp}(v u:AV)(h :∀d,x=some d->y≠some d):(s.put x v).put y u=(s.put y u).put x v:=by
  cases x with
  | none=>rfl
  | some d=>
    cases y with
    | none=>rfl
    | some e=>
      have rC:d≠e:=λhe=>h d rfl (he▸rfl);simp only[St.put,St.mk.injEq,true_and,and_true];funext t;simp only[EE];by_cases h1:t=d
      · subst h1;simp[rC]
      · by_cases h2:t=e
        · subst h2;simp[h1]
        · simp[h1,h2]
theorem cv (s:St)(d:Option Tmp)(v:AV):(s.put d v).st=s.st:=by cases d<;>rfl
theorem Oa {s s':St}{o:Oper}{K:AV->Prop}(qx:s'.st=s.st)(h :∀x∈o.op.operands,s'.ev x=s.ev x)(hd:LC P o s K):LC P o s' K:=by
  unfold LC at hd⊢;split at hd
  · rename_i hc;simp only[hc,mL];obtain⟨v,h1,h2⟩:=hd;exact⟨v,λs0 e1 e2 e3=>h1 s0 (e1.trans qx) (λx hx=>(e2 x hx).trans (h x hx)) e3,h2⟩
  rename_i hc;simp only[hc,lY,mC];obtain⟨dst,op,ty,pos,after,guard⟩:=o;simp only at h hd hc⊢;have hlist:∀args:Array Operand,(∀x∈args,s'.ev x=s.ev x)->args.toList.map s'.ev=args.toList.map s.ev:=λargs ha=>mH λx hx=>ha x (by simpa using hx);have zH:∀parts:Array (Nat×Operand),(∀p∈parts,s'.ev p.2=s.ev p.2)->(parts.toList.map λp=>(p.1,s'.ev p.2))=parts.toList.map λp=>(p.1,s.ev p.2):=λparts hp=>mH λp hx=>by rw[hp p (by simpa using hx)]
  cases op
  case call c=>
    obtain⟨callee,args,types⟩:=c;cases callee with
    | value f=>exact absurd rfl hc
    | invoke r m=>exact hd
    | builtin b=>
      have ha:∀x∈args,s'.ev x=s.ev x:=λx hx=>h x (by simp[Op.operands,Call.operands,hx]);cases b<;>simp only[Jd]at hd⊢<;>first
        | exact hd
        | (split at hd
           · rename_i h1 h2;have hx:=ha _ (by rw[<- pB,h1];exact nf);rw[hx,qx];exact hd
           · exact hd.elim)
        | (split at hd
           · rename_i x y h1;have hx:=ha x (by rw[<- pB,h1];simp);have hy:=ha y (by rw[<- pB,h1];simp);rw[hx,hy];exact hd
           · exact hd.elim)
  case build t parts=>
    simp only[Jd]at hd⊢;rw[zH parts (λp hp=>h p.2 (by simp only[Op.operands,pa,mA];exact⟨p,by simpa using hp,rfl⟩))];exact hd
  case makeFunc fn first rR=>
    cases fn<;>simp only[Jd]at hd⊢<;>try exact hd
    rw[hlist rR (λx hx=>h x (by simp[Op.operands,hx]))];exact hd
  all_goals simp only[Jd,Op.operands,pa,lk,mK,mr,forall_eq_or_imp,forall_eq]at hd h⊢
  all_goals first
    | exact hd
    | (rw[h,qx];exact hd)
    | (rw[h];exact hd)
    | (rw[h.1,h.2,qx];exact hd)
    | (rw[h.1,h.2];exact hd)
    | (rw[h.1,h.2.1,h.2.2];exact hd)
end Go.Abs
