import Derived.Test.YtfkncfjpobjbjaaAbsH
set_option linter.all false
namespace Go.Abs
open Go
variable {P : Program} {F : Nat -> Prop} {os : List Own} {s : St} {a : Act} {w : World} {k : Nat}
def two (X:AV->AV):AV->AV
  | .fn f cs=>.fn f (cs.map X)
  | .agg cs=>.agg (cs.map X)
  | .BB _=>.Bl
  | v=>X v
theorem FL {F F':Nat->Prop}{w w':World}{os os':List Own}{X:AV->AV}(h0 :∀x v,AF F w os x v->AF F' w' os' (X x) v):∀x v,AF F w os x v->AF F' w' os' (two X x) v:=by
  have hL:∀cs us,Ad F w os cs us->Ad F' w' os' (cs.map X) us:=λcs us h=>
    BP (by simp[Ab h]) λi x u hx hu=>by
      simp only[Rs,Rv]at hx;obtain⟨y,hy,rfl⟩:=hx;obtain⟨u',VJ,VS⟩:=Al h i y hy;rw[VJ]at hu;cases hu;exact h0 _ _ VS
  intro x v h;cases x with
  | fn f cs=>simp only[two,AF]at h⊢;obtain⟨us,e,hl⟩:=h;exact⟨us,e,hL _ _ hl⟩
  | agg cs=>simp only[two,AF]at h⊢;obtain⟨us,e,hl⟩:=h;exact⟨us,e,hL _ _ hl⟩
  | BB cs=>simp[two,AF]
  | _=>exact h0 _ _ h
theorem Lk {X:AV->AV}{c:AV}{el s:Nat}{ys:List (List AV)}(h0 :∀c,X c=.dv el s ys->c=.dv el s ys)(h:two X c=.dv el s ys):c=.dv el s ys:=by
  cases c<;>simp only[two]at h<;>first|exact h0 _ h|cases h
def simple:AV->Bool
  | .own ..|.ptr ..|.fn ..|.agg _|.BB _|.dv ..|.mp _=>false
  | _=>true
def BQ:AV->Bool
  | .dv ..=>true
  | c=>simple c
def LP:AV->Bool
  | .fn _ cs|.agg cs=>cs.all simple
  | c=>simple c
def flat:AV->Bool
  | .own ..|.ptr ..|.dv ..|.mp _=>false
  | .fn _ cs|.agg cs=>cs.all simple
  | .BB cs=>cs.all LP
  | _=>true
theorem CP {x:AV}{v:Value}(h:simple x=true)(os':List Own)(hr:AF F w os x v):AF F w os' x v:=by
  cases x<;>simp only[simple,R4]at h<;>simp only[AF]at hr⊢<;>exact hr
theorem Lm {x:AV}{v:Value}(h:BQ x=true)(os':List Own)(hr:AF F w os x v):AF F w os' x v:=by
  cases x with
  | dv=>simpa [AF] using hr
  | _=>exact CP (by simpa [BQ] using h) os' hr
theorem EY {c:AV}(h:simple c=true):BQ c=true:=by cases c<;>simp_all [simple,BQ]
theorem Ec {xs:List AV}{us:List Value}(h:xs.all simple=true)(os':List Own)(hr:Ad F w os xs us):Ad F w os' xs us:=
  BP (Ab hr) λi x u hx hu=>by
    obtain⟨u',e1,e2⟩:=Al hr i x hx;rw[hu]at e1;cases e1;exact CP (Ry.1 h x (Ro hx)) os' e2
theorem Ng {x:AV}{v:Value}(h:LP x=true)(os':List Own)(hr:AF F w os x v):AF F w os' x v:=by
  cases x with
  | fn f cs=>simp only[AF]at hr⊢;obtain⟨us,e,hl⟩:=hr;exact⟨us,e,Ec h os' hl⟩
  | agg cs=>simp only[AF]at hr⊢;obtain⟨us,e,hl⟩:=hr;exact⟨us,e,Ec h os' hl⟩
  | _=>exact CP (by simpa [LP] using h) os' hr
theorem MN {xs:List AV}{us:List Value}(h:xs.all LP=true)(os':List Own)(hr:Ad F w os xs us):Ad F w os' xs us:=
  BP (Ab hr) λi x u hx hu=>by
    obtain⟨u',e1,e2⟩:=Al hr i x hx;rw[hu]at e1;cases e1;exact Ng (Ry.1 h x (Ro hx)) os' e2
theorem FZ {x:AV}{v:Value}(h:flat x=true)(os':List Own)(hr:AF F w os x v):AF F w os' x v:=by
  cases x with
  | own=>simp[flat]at h
  | ptr=>simp[flat]at h
  | dv=>simp[flat]at h
  | mp=>simp[flat]at h
  | fn f cs=>simp only[AF]at hr⊢;obtain⟨us,e,hl⟩:=hr;exact⟨us,e,Ec h os' hl⟩
  | agg cs=>simp only[AF]at hr⊢;obtain⟨us,e,hl⟩:=hr;exact⟨us,e,Ec h os' hl⟩
  | BB cs=>simp only[AF]at hr⊢;obtain⟨us,e,hl⟩:=hr;exact⟨us,e,MN h os' hl⟩
  | _=>exact CP rfl os' hr
theorem Fk {xs:List AV}{us:List Value}(h:xs.all flat=true)(os':List Own)(hr:Ad F w os xs us):Ad F w os' xs us:=
  BP (Ab hr) λi x u hx hu=>by
    obtain⟨u',e1,e2⟩:=Al hr i x hx;rw[hu]at e1;cases e1;exact FZ (Ry.1 h x (Ro hx)) os' e2
theorem CA.nil (hold :∀b,F b->b<w.heap.size):CA F [] [] w:=⟨rfl,by simp,by simp,hold⟩
theorem Rel.after (hr:Rel F os s a w){F':Nat->Prop}{w':World}{UU:List Own}(he:Ext F [] w F' UU w' 0)(hold :∀b,F' b->b<w'.heap.size):
    Rel F' os s a w'/\Ext F os w F' os w' k/\(∀x v,AF F w os x v->AF F' w' os x v)/\∀(i:Nat) (o:Own),os[i]?=some o->∀b,o.owns b->∀o1:Own,o1∈UU->¬ o1.owns b:=by
  have T8:∀x v,AF F w os x v->AF F' w' os x v:=λx v h=>A8 he.FT he.DC os os (B2 os) x v h;have VL:∀(i:Nat) (o:Own),os[i]?=some o->∀b,o.owns b->w'.heap[b]?=w.heap[b]?/\¬ F' b/\∀o1:Own,o1∈UU->¬ o1.owns b:=λi o ho b hb=>
    he.other b ((hr.rows i o ho).lt hb) ((hr.rows i o ho).nF hb) (by simp)
  refine⟨⟨hr.st,λi=>T8 _ _ (hr.env i),hr.size,λi o ho=>?_,hr.inj,hold,hr.defers⟩,⟨he.sys,he.tape,he.output,he.size,he.FT,he.DC,λb hb h1 h2=>?_,λi o _ ho=>⟨o,ho,R3 _,rfl,λ_=>⟨rfl,rfl,rfl⟩⟩⟩,T8,λi o ho b hb=>(VL i o ho b hb).2.2⟩
  · have T6:=hr.rows i o ho;refine⟨T6.pos,T6.lens,T6.none,λb hb=>?_,λb hb=>⟨(VL i o ho b (.inr hb)).2.1,Si (T6.mo b hb).2.1 he.size,(T6.mo b hb).2.2⟩,
      T6.deep.keep rfl (λ_ h=>h) rfl (λb hb=>(VL i o ho b hb).1) (λi x j e s ys hx hc=>⟨x,hx,hc⟩)⟩
    obtain⟨h1,cur,h2,h3,h4,h5,h6⟩:=T6.some b hb;obtain⟨e1,e2,_⟩:=VL i o ho b (.inl hb);exact⟨e2,cur,by rw[e1];exact h2,h3,h4,h5,λi' x hx j c hc=>by
      obtain⟨u,f1,f2⟩:=h6 i' x hx j c hc;exact⟨u,f1,T8 _ _ f2⟩⟩
  · obtain⟨e1,e2,_⟩:=he.other b hb h1 (by simp);exact⟨e1,e2,h2⟩
theorem Iu {f:FuncId}{args:List AV}{d:Option Tmp}{K:St->Prop}{v:AV}(h:AY P f args [] λr st'=>r=v/\st'=[])(hf:args.all flat=true)(hv:flat v=true)(hK:K (s.put d v)):callThen P k s f args d K:=by
  intro F os a w vs hr hl;refine (h F [] w vs (CA.nil hr.CL) (Fk hf [] hl)).mono ?_;rintro e w' ⟨u,r,st',F',os',rfl,⟨rfl,rfl⟩,hs,hru,he⟩;have Uh:os'=[]:=by have:=hs.st;simpa using this
  subst Uh;obtain⟨h1,h2,_⟩:=hr.after (k:=k) he hs.CL;exact⟨u,r,s.st,F',os,rfl,hK,h1,FZ hv os hru,h2⟩
def Yl (P:Program)(o:Oper)(s:St)(v:AV):Prop:=
  ∀(k:Nat) (F:Nat->Prop) (os:List Own) (a:Act) (w:World),Rel F os s a w->∀(next:Act->World->Prop) (Q:Exit->Act->World->Prop),
    (∀a' w',Step k s.n F os w (·=s.put o.dst v) a' w'->next a' w')->o.wp P a w next Q
def QX (P:Program)(o:Oper)(s:St)(K:AV->Prop):Prop:=
  ∃v,(∀s0:St,s0.st=s.st->(∀x∈o.op.operands,s0.ev x=s.ev x)->Bo s0.n o.dst=true->Yl P o s0 v)/\K v
def EW (P:Program)(o:Oper)(s:St)(K:AV->Prop):Prop:=
  if D1 o.op then QX P o s K else DN P s o.op K
theorem MY {op:Op}{K:AV->Prop}(h:DN P s op K):∃v,K v/\DN P s op (·=v):=by
  unfold DN at h⊢;split at h
  case h_1=>exact⟨_,h,rfl⟩
  case h_2=>exact⟨_,h,rfl⟩
  case h_3=>
    unfold Ga at h⊢;split at h
    · exact⟨_,h,rfl⟩
    · rename_i t _ _;cases t
      · exact⟨_,h.2 rfl,by simp⟩
      · exact⟨_,h.1 rfl,by simp⟩
    · exact h.elim
  case h_4=>
    unfold K6 at h⊢;split at h
    · obtain⟨row,h1,h2,h3⟩:=AU h;exact⟨_,h3,AL row h1 ⟨h2,rfl⟩⟩
    · exact⟨_,h,rfl⟩
    · exact h.elim
  case h_5 op t x y _=>
    unfold JT at h⊢;split at h
    · obtain⟨h1,h⟩:=h;cases op<;>simp only[L0]at h⊢<;>first|exact h.elim|exact⟨_,h,h1,rfl⟩|exact⟨_,h.2,h1,h.1,rfl⟩
    · obtain⟨h1,h⟩:=h;split at h
      · exact⟨_,h,h1,rfl⟩
      · exact⟨_,h,h1,rfl⟩
      · exact h.elim
    · exact h.elim
  case h_6=>
    unfold OH at h⊢;split at h
    · exact⟨_,h,rfl⟩
    · exact⟨_,h,rfl⟩
    · exact h.elim
  case h_7=>
    unfold NK at h⊢;split at h
    · exact⟨_,h,rfl⟩
    · exact h.elim
  case h_8 t p=>
    obtain⟨ti,h1,h⟩:=AU h;have part:∀{x:List AV} {off:Nat},D9 ti.1 ti.2 x off K->∃v,K v/\D9 ti.1 ti.2 x off (·=v):=λ{x off} h=>by
      unfold D9 at h⊢;split at h
      · rename_i hh;exact⟨_,h.2,by rw[R1 hh];exact⟨h.1,rfl⟩⟩
      · rename_i hh;obtain⟨c,e1,e2⟩:=AU h;exact⟨c,e2,by rw[R0 hh];exact AL c e1 rfl⟩
    unfold GU;generalize s.ev p=pv at h⊢;cases pv with
    | ptr id g i off=>
      obtain⟨row,e1,e2,h⟩:=AU h;obtain⟨x,e3,h⟩:=AU h;obtain⟨v,hv,h⟩:=part h;exact⟨v,hv,AL ti h1 (AL row e1 ⟨e2,AL x e3 h⟩)⟩
    | A4 x off=>
      obtain⟨v,hv,h⟩:=part h;exact⟨v,hv,AL ti h1 h⟩
    | _=>exact h.elim
  case h_9 t x f=>
    obtain⟨o,h1,h⟩:=AU h;unfold EK;generalize s.ev x=pv at h⊢;cases pv with
    | ptr id g i off=>
      obtain⟨row,e1,e2,e3,h⟩:=AU h;exact⟨_,h,AL o h1 (AL row e1 ⟨e2,e3,rfl⟩)⟩
    | A4 x off=>exact⟨_,h,AL o h1 rfl⟩
    | _=>exact h.elim
  case h_10=>
    unfold E3 at h⊢;split at h
    · obtain⟨g,e1,h⟩:=AU h;obtain⟨ti,e2,h⟩:=AU h;unfold D9 at h;split at h
      · rename_i hh;exact⟨_,h.2,AL g e1 (AL ti e2 (by unfold D9;rw[R1 hh];exact⟨h.1,rfl⟩))⟩
      · rename_i hh;obtain⟨c,f1,f2⟩:=AU h;exact⟨c,f2,AL g e1 (AL ti e2 (by unfold D9;rw[R0 hh];exact AL c f1 rfl))⟩
    · exact h.elim
  case h_11 t x i=>
    obtain⟨ei,e1,h⟩:=AU h;unfold Dp;generalize s.ev x=xv at h⊢;generalize s.ev i=iv at h⊢;cases xv with
    | own id g n=>
      cases iv with
      | int kk j=>
        obtain⟨h1,h2,h⟩:=h;obtain⟨row,e2,e3,e4,h⟩:=AU h;exact⟨_,h,AL ei e1 ⟨h1,h2,AL row e2 ⟨e3,e4,rfl⟩⟩⟩
      | _=>exact h.elim
    | sl xs=>
      cases iv with
      | int kk j=>
        obtain⟨h1,h⟩:=h;obtain⟨y,e2,e3,h⟩:=AU h;exact⟨_,h,AL ei e1 ⟨h1,AL y e2 ⟨e3,rfl⟩⟩⟩
      | _=>exact h.elim
    | _=>exact h.elim
  case h_12=>
    unfold Gv at h⊢;split at h
    · obtain⟨c,f1,f2⟩:=AU h;exact⟨c,f2,AL c f1 rfl⟩
    · exact h.elim
  case h_13=>
    obtain⟨h1,h⟩:=h;obtain⟨fs,e1,h⟩:=AU h;obtain⟨z,e2,h⟩:=AU h;obtain⟨cs,e3,h⟩:=AU h;exact⟨_,h,h1,AL fs e1 (AL z e2 (AL cs e3 rfl))⟩
  case h_14=>exact⟨_,h.2,h.1,rfl⟩
  case h_15=>
    split at h
    · obtain⟨h1,h⟩:=h;unfold Nw at h⊢;split at h
      · obtain⟨row,e1,e2,h⟩:=AU h;exact⟨_,h,h1,AL row e1 ⟨e2,rfl⟩⟩
      · exact⟨_,h,h1,rfl⟩
      · exact⟨_,h,h1,rfl⟩
      · exact h.elim
    · exact h.elim
  case h_16=>
    split at h
    · unfold PT at h⊢;split at h
      · exact⟨_,h,rfl⟩
      · exact h.elim
    · exact h.elim
  case h_17=>
    split at h
    · unfold Ot at h⊢;split at h
      · exact⟨_,h,rfl⟩
      · exact h.elim
    · exact h.elim
  case h_18=>exact h.elim
theorem NC {o:Oper}{K:AV->Prop}(h:EW P o s K):∃v,K v/\EW P o s (·=v):=by
  unfold EW at h⊢;split at h
  · rename_i hc;simp only[hc,Sr];obtain⟨v,h1,h2⟩:=h;exact⟨v,h2,v,h1,rfl⟩
  · rename_i hc;simp only[hc,R4,Sa];exact MY h
theorem I3 {s:St}{d:Option Tmp}{v:AV}{x:Operand}(h :∀t,d=some t->x≠.tmp t):(s.put d v).ev x=s.ev x:=by
  cases d with
  | none=>rfl
  | some d=>
    cases x with
    | tmp t=>
      have Ua:t≠d:=λe=>h d rfl (e▸rfl);simp[St.ev,St.put,CE,Ua]
    | _=>rfl
theorem put_comm (s:St){x y:Option Tmp}(v u:AV)(h :∀d,x=some d->y≠some d):(s.put x v).put y u=(s.put y u).put x v:=by
  cases x with
  | none=>rfl
  | some d=>
    cases y with
    | none=>rfl
    | some e=>
      have Ua:d≠e:=λhe=>h d rfl (he▸rfl);simp only[St.put,St.mk.injEq,true_and,and_true];funext t;simp only[CE];by_cases h1:t=d
      · subst h1;simp[Ua]
      · by_cases h2:t=e
        · subst h2;simp[h1]
        · simp[h1,h2]
theorem Np (s:St)(d:Option Tmp)(v:AV):(s.put d v).st=s.st:=by cases d<;>rfl
theorem Hy {s s':St}{o:Oper}{K:AV->Prop}(UL:s'.st=s.st)(h :∀x∈o.op.operands,s'.ev x=s.ev x)(hd:EW P o s K):EW P o s' K:=by
  unfold EW at hd⊢;split at hd
  · rename_i hc;simp only[hc,Sr];obtain⟨v,h1,h2⟩:=hd;exact⟨v,λs0 e1 e2 e3=>h1 s0 (e1.trans UL) (λx hx=>(e2 x hx).trans (h x hx)) e3,h2⟩
  rename_i hc;simp only[hc,R4,Sa];obtain⟨dst,op,ty,pos,after,guard⟩:=o;simp only at h hd hc⊢;have ar:∀args:Array Operand,(∀x∈args,s'.ev x=s.ev x)->args.toList.map s'.ev=args.toList.map s.ev:=λargs ha=>R8 λx hx=>ha x (by simpa using hx);have Ze:∀parts:Array (Nat×Operand),(∀p∈parts,s'.ev p.2=s.ev p.2)->(parts.toList.map λp=>(p.1,s'.ev p.2))=parts.toList.map λp=>(p.1,s.ev p.2):=λparts hp=>R8 λp hx=>by rw[hp p (by simpa using hx)]
  cases op
  case call c=>
    obtain⟨callee,args,types⟩:=c;cases callee with
    | value f=>exact absurd rfl hc
    | invoke r m=>exact hd
    | builtin b=>
      have ha:∀x∈args,s'.ev x=s.ev x:=λx hx=>h x (by simp[Op.operands,Call.operands,hx]);cases b<;>simp only[DN]at hd⊢<;>first
        | exact hd
        | (split at hd
           · rename_i h1 h2;have hx:=ha _ (by rw[<- Ti,h1];exact Ss);rw[hx,UL];exact hd
           · exact hd.elim)
        | (split at hd
           · rename_i x y h1;have hx:=ha x (by rw[<- Ti,h1];simp);have hy:=ha y (by rw[<- Ti,h1];simp);rw[hx,hy];exact hd
           · exact hd.elim)
  case build t parts=>
    simp only[DN]at hd⊢;rw[Ze parts (λp hp=>h p.2 (by simp only[Op.operands,Ty,R9];exact⟨p,by simpa using hp,rfl⟩))];exact hd
  case makeFunc fn first Ul=>
    cases fn<;>simp only[DN]at hd⊢<;>try exact hd
    rw[ar Ul (λx hx=>h x (by simp[Op.operands,hx]))];exact hd
  all_goals simp only[DN,Op.operands,Ty,SE,List.not_mem_nil,or_false,forall_eq_or_imp,forall_eq]at hd h⊢
  all_goals first
    | exact hd
    | (rw[h,UL];exact hd)
    | (rw[h];exact hd)
    | (rw[h.1,h.2,UL];exact hd)
    | (rw[h.1,h.2];exact hd)
    | (rw[h.1,h.2.1,h.2.2];exact hd)
end Go.Abs
