import Derived.Test.YtfkncfjpobjbjaaAbsH
set_option linter.all false
namespace Go.Abs
open Go
variable {P : Program} {F : Nat -> Prop} {os : List Own} {s : St} {a : Act} {w : World} {k : Nat}
def two (X:AV->AV):AV->AV
  | .fn f cs=>.fn f (cs.map X)
  | .agg cs=>.agg (cs.map X)
  | .BK _=>.Bk
  | v=>X v
theorem FI {F F':Nat->Prop}{w w':World}{os os':List Own}{X:AV->AV}(h0 :∀x v,AF F w os x v->AF F' w' os' (X x) v):∀x v,AF F w os x v->AF F' w' os' (two X x) v:=by
  have hL:∀cs us,Ad F w os cs us->Ad F' w' os' (cs.map X) us:=λcs us h=>
    BQ (by simp[Aa h]) λi x u hx hu=>by
      simp only[Ro,Rr]at hx;obtain⟨y,hy,rfl⟩:=hx;obtain⟨u',VC,VL⟩:=Aj h i y hy;rw[VC]at hu;cases hu;exact h0 _ _ VL
  intro x v h;cases x with
  | fn f cs=>simp only[two,AF]at h⊢;obtain⟨us,e,hl⟩:=h;exact⟨us,e,hL _ _ hl⟩
  | agg cs=>simp only[two,AF]at h⊢;obtain⟨us,e,hl⟩:=h;exact⟨us,e,hL _ _ hl⟩
  | BK cs=>simp[two,AF]
  | _=>exact h0 _ _ h
theorem LZ {X:AV->AV}{c:AV}{el s:Nat}{ys:List (List AV)}(h0 :∀c,X c=.dv el s ys->c=.dv el s ys)(h:two X c=.dv el s ys):c=.dv el s ys:=by
  cases c<;>simp only[two]at h<;>first|exact h0 _ h|cases h
def simple:AV->Bool
  | .own ..|.ptr ..|.fn ..|.agg _|.BK _|.dv ..|.mp _=>false
  | _=>true
def BP:AV->Bool
  | .dv ..=>true
  | c=>simple c
def K0:AV->Bool
  | .fn _ cs|.agg cs=>cs.all simple
  | c=>simple c
def flat:AV->Bool
  | .own ..|.ptr ..|.dv ..|.mp _=>false
  | .fn _ cs|.agg cs=>cs.all simple
  | .BK cs=>cs.all K0
  | _=>true
theorem CV {x:AV}{v:Value}(h:simple x=true)(os':List Own)(hr:AF F w os x v):AF F w os' x v:=by
  cases x<;>simp only[simple,R1]at h<;>simp only[AF]at hr⊢<;>exact hr
theorem Le {x:AV}{v:Value}(h:BP x=true)(os':List Own)(hr:AF F w os x v):AF F w os' x v:=by
  cases x with
  | dv=>simpa [AF] using hr
  | _=>exact CV (by simpa [BP] using h) os' hr
theorem EU {c:AV}(h:simple c=true):BP c=true:=by cases c<;>simp_all [simple,BP]
theorem EY {xs:List AV}{us:List Value}(h:xs.all simple=true)(os':List Own)(hr:Ad F w os xs us):Ad F w os' xs us:=
  BQ (Aa hr) λi x u hx hu=>by
    obtain⟨u',e1,e2⟩:=Aj hr i x hx;rw[hu]at e1;cases e1;exact CV (Ru.1 h x (Rk hx)) os' e2
theorem NG {x:AV}{v:Value}(h:K0 x=true)(os':List Own)(hr:AF F w os x v):AF F w os' x v:=by
  cases x with
  | fn f cs=>simp only[AF]at hr⊢;obtain⟨us,e,hl⟩:=hr;exact⟨us,e,EY h os' hl⟩
  | agg cs=>simp only[AF]at hr⊢;obtain⟨us,e,hl⟩:=hr;exact⟨us,e,EY h os' hl⟩
  | _=>exact CV (by simpa [K0] using h) os' hr
theorem MQ {xs:List AV}{us:List Value}(h:xs.all K0=true)(os':List Own)(hr:Ad F w os xs us):Ad F w os' xs us:=
  BQ (Aa hr) λi x u hx hu=>by
    obtain⟨u',e1,e2⟩:=Aj hr i x hx;rw[hu]at e1;cases e1;exact NG (Ru.1 h x (Rk hx)) os' e2
theorem FK {x:AV}{v:Value}(h:flat x=true)(os':List Own)(hr:AF F w os x v):AF F w os' x v:=by
  cases x with
  | own=>simp[flat]at h
  | ptr=>simp[flat]at h
  | dv=>simp[flat]at h
  | mp=>simp[flat]at h
  | fn f cs=>simp only[AF]at hr⊢;obtain⟨us,e,hl⟩:=hr;exact⟨us,e,EY h os' hl⟩
  | agg cs=>simp only[AF]at hr⊢;obtain⟨us,e,hl⟩:=hr;exact⟨us,e,EY h os' hl⟩
  | BK cs=>simp only[AF]at hr⊢;obtain⟨us,e,hl⟩:=hr;exact⟨us,e,MQ h os' hl⟩
  | _=>exact CV rfl os' hr
theorem Fi {xs:List AV}{us:List Value}(h:xs.all flat=true)(os':List Own)(hr:Ad F w os xs us):Ad F w os' xs us:=
  BQ (Aa hr) λi x u hx hu=>by
    obtain⟨u',e1,e2⟩:=Aj hr i x hx;rw[hu]at e1;cases e1;exact FK (Ru.1 h x (Rk hx)) os' e2
theorem B9.nil (hold :∀b,F b->b<w.heap.size):B9 F [] [] w:=⟨rfl,by simp,by simp,hold⟩
theorem Rel.after (hr:Rel F os s a w){F':Nat->Prop}{w':World}{UQ:List Own}(he:Ext F [] w F' UQ w' 0)(hold :∀b,F' b->b<w'.heap.size):
    Rel F' os s a w'/\Ext F os w F' os w' k/\(∀x v,AF F w os x v->AF F' w' os x v)/\∀(i:Nat) (o:Own),os[i]?=some o->∀b,o.owns b->∀o1:Own,o1∈UQ->¬ o1.owns b:=by
  have T4:∀x v,AF F w os x v->AF F' w' os x v:=λx v h=>A5 he.FP he.C8 os os (Bz os) x v h;have VE:∀(i:Nat) (o:Own),os[i]?=some o->∀b,o.owns b->w'.heap[b]?=w.heap[b]?/\¬ F' b/\∀o1:Own,o1∈UQ->¬ o1.owns b:=λi o ho b hb=>
    he.other b ((hr.rows i o ho).lt hb) ((hr.rows i o ho).nF hb) (by simp)
  refine⟨⟨hr.st,λi=>T4 _ _ (hr.env i),hr.size,λi o ho=>?_,hr.inj,hold,hr.defers⟩,⟨he.sys,he.tape,he.output,he.size,he.FP,he.C8,λb hb h1 h2=>?_,λi o _ ho=>⟨o,ho,Rz _,rfl,λ_=>⟨rfl,rfl,rfl⟩⟩⟩,T4,λi o ho b hb=>(VE i o ho b hb).2.2⟩
  · have T2:=hr.rows i o ho;refine⟨T2.pos,T2.lens,T2.none,λb hb=>?_,λb hb=>⟨(VE i o ho b (.inr hb)).2.1,Sd (T2.mo b hb).2.1 he.size,(T2.mo b hb).2.2⟩,
      T2.deep.keep rfl (λ_ h=>h) rfl (λb hb=>(VE i o ho b hb).1) (λi x j e s ys hx hc=>⟨x,hx,hc⟩)⟩
    obtain⟨h1,cur,h2,h3,h4,h5,h6⟩:=T2.some b hb;obtain⟨e1,e2,_⟩:=VE i o ho b (.inl hb);exact⟨e2,cur,by rw[e1];exact h2,h3,h4,h5,λi' x hx j c hc=>by
      obtain⟨u,f1,f2⟩:=h6 i' x hx j c hc;exact⟨u,f1,T4 _ _ f2⟩⟩
  · obtain⟨e1,e2,_⟩:=he.other b hb h1 (by simp);exact⟨e1,e2,h2⟩
theorem Is {f:FuncId}{args:List AV}{d:Option Tmp}{K:St->Prop}{v:AV}(h:AY P f args [] λr st'=>r=v/\st'=[])(hf:args.all flat=true)(hv:flat v=true)(hK:K (s.put d v)):callThen P k s f args d K:=by
  intro F os a w vs hr hl;refine (h F [] w vs (B9.nil hr.CL) (Fi hf [] hl)).mono ?_;rintro e w' ⟨u,r,st',F',os',rfl,⟨rfl,rfl⟩,hs,hru,he⟩;have Ud:os'=[]:=by have:=hs.st;simpa using this
  subst Ud;obtain⟨h1,h2,_⟩:=hr.after (k:=k) he hs.CL;exact⟨u,r,s.st,F',os,rfl,hK,h1,FK hv os hru,h2⟩
def Yl (P:Program)(o:Oper)(s:St)(v:AV):Prop:=
  ∀(k:Nat) (F:Nat->Prop) (os:List Own) (a:Act) (w:World),Rel F os s a w->∀(next:Act->World->Prop) (Q:Exit->Act->World->Prop),
    (∀a' w',Step k s.n F os w (·=s.put o.dst v) a' w'->next a' w')->o.wp P a w next Q
def QR (P:Program)(o:Oper)(s:St)(K:AV->Prop):Prop:=
  ∃v,(∀s0:St,s0.st=s.st->(∀x∈o.op.operands,s0.ev x=s.ev x)->Bn s0.n o.dst=true->Yl P o s0 v)/\K v
def ER (P:Program)(o:Oper)(s:St)(K:AV->Prop):Prop:=
  if Dt o.op then QR P o s K else DM P s o.op K
theorem ML {op:Op}{K:AV->Prop}(h:DM P s op K):∃v,K v/\DM P s op (·=v):=by
  unfold DM at h⊢;split at h
  case h_1=>exact⟨_,h,rfl⟩
  case h_2=>exact⟨_,h,rfl⟩
  case h_3=>
    unfold GK at h⊢;split at h
    · exact⟨_,h,rfl⟩
    · rename_i t _ _;cases t
      · exact⟨_,h.2 rfl,by simp⟩
      · exact⟨_,h.1 rfl,by simp⟩
    · exact h.elim
  case h_4=>
    unfold Kv at h⊢;split at h
    · obtain⟨row,h1,h2,h3⟩:=AU h;exact⟨_,h3,AL row h1 ⟨h2,rfl⟩⟩
    · exact⟨_,h,rfl⟩
    · exact h.elim
  case h_5 op t x y _=>
    unfold Jw at h⊢;split at h
    · obtain⟨h1,h⟩:=h;cases op<;>simp only[L8]at h⊢<;>first|exact h.elim|exact⟨_,h,h1,rfl⟩|exact⟨_,h.2,h1,h.1,rfl⟩
    · obtain⟨h1,h⟩:=h;split at h
      · exact⟨_,h,h1,rfl⟩
      · exact⟨_,h,h1,rfl⟩
      · exact h.elim
    · exact h.elim
  case h_6=>
    unfold OU at h⊢;split at h
    · exact⟨_,h,rfl⟩
    · exact⟨_,h,rfl⟩
    · exact h.elim
  case h_7=>
    unfold Mw at h⊢;split at h
    · exact⟨_,h,rfl⟩
    · exact h.elim
  case h_8 t p=>
    obtain⟨ti,h1,h⟩:=AU h;have part:∀{x:List AV} {off:Nat},D4 ti.1 ti.2 x off K->∃v,K v/\D4 ti.1 ti.2 x off (·=v):=λ{x off} h=>by
      unfold D4 at h⊢;split at h
      · rename_i hh;exact⟨_,h.2,by rw[Ry hh];exact⟨h.1,rfl⟩⟩
      · rename_i hh;obtain⟨c,e1,e2⟩:=AU h;exact⟨c,e2,by rw[Rx hh];exact AL c e1 rfl⟩
    unfold Ga;generalize s.ev p=pv at h⊢;cases pv with
    | ptr id g i off=>
      obtain⟨row,e1,e2,h⟩:=AU h;obtain⟨x,e3,h⟩:=AU h;obtain⟨v,hv,h⟩:=part h;exact⟨v,hv,AL ti h1 (AL row e1 ⟨e2,AL x e3 h⟩)⟩
    | A6 x off=>
      obtain⟨v,hv,h⟩:=part h;exact⟨v,hv,AL ti h1 h⟩
    | _=>exact h.elim
  case h_9 t x f=>
    obtain⟨o,h1,h⟩:=AU h;unfold EE;generalize s.ev x=pv at h⊢;cases pv with
    | ptr id g i off=>
      obtain⟨row,e1,e2,e3,h⟩:=AU h;exact⟨_,h,AL o h1 (AL row e1 ⟨e2,e3,rfl⟩)⟩
    | A6 x off=>exact⟨_,h,AL o h1 rfl⟩
    | _=>exact h.elim
  case h_10=>
    unfold E8 at h⊢;split at h
    · obtain⟨g,e1,h⟩:=AU h;obtain⟨ti,e2,h⟩:=AU h;unfold D4 at h;split at h
      · rename_i hh;exact⟨_,h.2,AL g e1 (AL ti e2 (by unfold D4;rw[Ry hh];exact⟨h.1,rfl⟩))⟩
      · rename_i hh;obtain⟨c,f1,f2⟩:=AU h;exact⟨c,f2,AL g e1 (AL ti e2 (by unfold D4;rw[Rx hh];exact AL c f1 rfl))⟩
    · exact h.elim
  case h_11 t x i=>
    obtain⟨ei,e1,h⟩:=AU h;unfold Dj;generalize s.ev x=xv at h⊢;generalize s.ev i=iv at h⊢;cases xv with
    | own id g n=>
      cases iv with
      | int kk j=>
        obtain⟨h1,h2,h⟩:=h;obtain⟨row,e2,e3,e4,h⟩:=AU h;exact⟨_,h,AL ei e1 ⟨h1,h2,AL row e2 ⟨e3,e4,rfl⟩⟩⟩
      | _=>exact h.elim
    | sl xs=>
      cases iv with
      | int kk j=>
        obtain⟨h1,h⟩:=h;obtain⟨y,e2,e3,h⟩:=AU h;exact⟨_,h,AL ei e1 ⟨h1,AL y e2 ⟨e3,rfl⟩⟩⟩
      | _=>exact h.elim
    | _=>exact h.elim
  case h_12=>
    unfold Gs at h⊢;split at h
    · obtain⟨c,f1,f2⟩:=AU h;exact⟨c,f2,AL c f1 rfl⟩
    · exact h.elim
  case h_13=>
    obtain⟨h1,h⟩:=h;obtain⟨fs,e1,h⟩:=AU h;obtain⟨z,e2,h⟩:=AU h;obtain⟨cs,e3,h⟩:=AU h;exact⟨_,h,h1,AL fs e1 (AL z e2 (AL cs e3 rfl))⟩
  case h_14=>exact⟨_,h.2,h.1,rfl⟩
  case h_15=>
    split at h
    · obtain⟨h1,h⟩:=h;unfold Nw at h⊢;split at h
      · obtain⟨row,e1,e2,h⟩:=AU h;exact⟨_,h,h1,AL row e1 ⟨e2,rfl⟩⟩
      · exact⟨_,h,h1,rfl⟩
      · exact⟨_,h,h1,rfl⟩
      · exact h.elim
    · exact h.elim
  case h_16=>
    split at h
    · unfold O2 at h⊢;split at h
      · exact⟨_,h,rfl⟩
      · exact h.elim
    · exact h.elim
  case h_17=>
    split at h
    · unfold PO at h⊢;split at h
      · exact⟨_,h,rfl⟩
      · exact h.elim
    · exact h.elim
  case h_18=>exact h.elim
theorem Ml {o:Oper}{K:AV->Prop}(h:ER P o s K):∃v,K v/\ER P o s (·=v):=by
  unfold ER at h⊢;split at h
  · rename_i hc;simp only[hc,Sm];obtain⟨v,h1,h2⟩:=h;exact⟨v,h2,v,h1,rfl⟩
  · rename_i hc;simp only[hc,R1,SX];exact ML h
theorem Iw {s:St}{d:Option Tmp}{v:AV}{x:Operand}(h :∀t,d=some t->x≠.tmp t):(s.put d v).ev x=s.ev x:=by
  cases d with
  | none=>rfl
  | some d=>
    cases x with
    | tmp t=>
      have UW:t≠d:=λe=>h d rfl (e▸rfl);simp[St.ev,St.put,CD,UW]
    | _=>rfl
theorem put_comm (s:St){x y:Option Tmp}(v u:AV)(h :∀d,x=some d->y≠some d):(s.put x v).put y u=(s.put y u).put x v:=by
  cases x with
  | none=>rfl
  | some d=>
    cases y with
    | none=>rfl
    | some e=>
      have UW:d≠e:=λhe=>h d rfl (he▸rfl);simp only[St.put,St.mk.injEq,true_and,and_true];funext t;simp only[CD];by_cases h1:t=d
      · subst h1;simp[UW]
      · by_cases h2:t=e
        · subst h2;simp[h1]
        · simp[h1,h2]
theorem Nk (s:St)(d:Option Tmp)(v:AV):(s.put d v).st=s.st:=by cases d<;>rfl
theorem Hk {s s':St}{o:Oper}{K:AV->Prop}(T8:s'.st=s.st)(h :∀x∈o.op.operands,s'.ev x=s.ev x)(hd:ER P o s K):ER P o s' K:=by
  unfold ER at hd⊢;split at hd
  · rename_i hc;simp only[hc,Sm];obtain⟨v,h1,h2⟩:=hd;exact⟨v,λs0 e1 e2 e3=>h1 s0 (e1.trans T8) (λx hx=>(e2 x hx).trans (h x hx)) e3,h2⟩
  rename_i hc;simp only[hc,R1,SX];obtain⟨dst,op,ty,pos,after,guard⟩:=o;simp only at h hd hc⊢;have ak:∀args:Array Operand,(∀x∈args,s'.ev x=s.ev x)->args.toList.map s'.ev=args.toList.map s.ev:=λargs ha=>R4 λx hx=>ha x (by simpa using hx);have Zb:∀parts:Array (Nat×Operand),(∀p∈parts,s'.ev p.2=s.ev p.2)->(parts.toList.map λp=>(p.1,s'.ev p.2))=parts.toList.map λp=>(p.1,s.ev p.2):=λparts hp=>R4 λp hx=>by rw[hp p (by simpa using hx)]
  cases op
  case call c=>
    obtain⟨callee,args,types⟩:=c;cases callee with
    | value f=>exact absurd rfl hc
    | invoke r m=>exact hd
    | builtin b=>
      have ha:∀x∈args,s'.ev x=s.ev x:=λx hx=>h x (by simp[Op.operands,Call.operands,hx]);cases b<;>simp only[DM]at hd⊢<;>first
        | exact hd
        | (split at hd
           · rename_i h1 h2;have hx:=ha _ (by rw[<- Te,h1];exact Sn);rw[hx,T8];exact hd
           · exact hd.elim)
        | (split at hd
           · rename_i x y h1;have hx:=ha x (by rw[<- Te,h1];simp);have hy:=ha y (by rw[<- Te,h1];simp);rw[hx,hy];exact hd
           · exact hd.elim)
  case build t parts=>
    simp only[DM]at hd⊢;rw[Zb parts (λp hp=>h p.2 (by simp only[Op.operands,Tu,R7];exact⟨p,by simpa using hp,rfl⟩))];exact hd
  case makeFunc fn first Uh=>
    cases fn<;>simp only[DM]at hd⊢<;>try exact hd
    rw[ak Uh (λx hx=>h x (by simp[Op.operands,hx]))];exact hd
  all_goals simp only[DM,Op.operands,Tu,SA,List.not_mem_nil,or_false,forall_eq_or_imp,forall_eq]at hd h⊢
  all_goals first
    | exact hd
    | (rw[h,T8];exact hd)
    | (rw[h];exact hd)
    | (rw[h.1,h.2,T8];exact hd)
    | (rw[h.1,h.2];exact hd)
    | (rw[h.1,h.2.1,h.2.2];exact hd)
end Go.Abs
