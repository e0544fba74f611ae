import Derived.Test.YtccficmcdkcpnaaGreatAbsH
set_option linter.all false
namespace Go.Abs
open Go
variable {P : Program} {F : Nat -> Prop} {os : List Own} {s : St} {a : Act} {w : World} {k : Nat}
def two (X:AV->AV):AV->AV
  | .fn f cs=>.fn f (cs.map X)
  | .agg cs=>.agg (cs.map X)
  | .CW _=>.F6
  | v=>X v
theorem PQ {F F':Nat->Prop}{w w':World}{os os':List Own}{X:AV->AV}(h0 :∀x v,Ae F w os x v->Ae F' w' os' (X x) v):∀x v,Ae F w os x v->Ae F' w' os' (two X x) v:=by
  have hL:∀cs us,Bc F w os cs us->Bc F' w' os' (cs.map X) us:=λcs us h=>
    DZ (by simp[BR h]) λi x u hx hu=>by
      simp only[uP,uR]at hx;obtain⟨y,hy,rfl⟩:=hx;obtain⟨u',hu',hr'⟩:=Bo h i y hy;rw[hu']at hu;cases hu;exact h0 _ _ hr'
  intro x v h;cases x with
  | fn f cs=>simp only[two,Ae]at h⊢;obtain⟨us,e,hl⟩:=h;exact⟨us,e,hL _ _ hl⟩
  | agg cs=>simp only[two,Ae]at h⊢;obtain⟨us,e,hl⟩:=h;exact⟨us,e,hL _ _ hl⟩
  | CW cs=>simp[two,Ae]
  | _=>exact h0 _ _ h
theorem Yh {X:AV->AV}{c:AV}{el s:Nat}{ys:List (List AV)}(h0 :∀c,X c=.dv el s ys->c=.dv el s ys)(h:two X c=.dv el s ys):c=.dv el s ys:=by
  cases c<;>simp only[two]at h<;>first|exact h0 _ h|cases h
def simple:AV->Bool
  | .own ..|.ptr ..|.fn ..|.agg _|.CW _|.dv ..=>false
  | _=>true
def FI:AV->Bool
  | .dv ..=>true
  | c=>simple c
def df:AV->Bool
  | .fn _ cs|.agg cs=>cs.all simple
  | c=>simple c
def flat:AV->Bool
  | .own ..|.ptr ..|.dv ..=>false
  | .fn _ cs|.agg cs=>cs.all simple
  | .CW cs=>cs.all df
  | _=>true
theorem J0 {x:AV}{v:Value}(h:simple x=true)(os':List Own)(hr:Ae F w os x v):Ae F w os' x v:=by
  cases x<;>simp only[simple,uN]at h<;>simp only[Ae]at hr⊢<;>exact hr
theorem eH {x:AV}{v:Value}(h:FI x=true)(os':List Own)(hr:Ae F w os x v):Ae F w os' x v:=by
  cases x with
  | dv=>simpa [Ae] using hr
  | _=>exact J0 (by simpa [FI] using h) os' hr
theorem R9 {c:AV}(h:simple c=true):FI c=true:=by cases c<;>simp_all [simple,FI]
theorem Oz {xs:List AV}{us:List Value}(h:xs.all simple=true)(os':List Own)(hr:Bc F w os xs us):Bc F w os' xs us:=
  DZ (BR hr) λi x u hx hu=>by
    obtain⟨u',e1,e2⟩:=Bo hr i x hx;rw[hu]at e1;cases e1;exact J0 (uS.1 h x (uL hx)) os' e2
theorem iA {x:AV}{v:Value}(h:df x=true)(os':List Own)(hr:Ae F w os x v):Ae F w os' x v:=by
  cases x with
  | fn f cs=>simp only[Ae]at hr⊢;obtain⟨us,e,hl⟩:=hr;exact⟨us,e,Oz h os' hl⟩
  | agg cs=>simp only[Ae]at hr⊢;obtain⟨us,e,hl⟩:=hr;exact⟨us,e,Oz h os' hl⟩
  | _=>exact J0 (by simpa [df] using h) os' hr
theorem gG {xs:List AV}{us:List Value}(h:xs.all df=true)(os':List Own)(hr:Bc F w os xs us):Bc F w os' xs us:=
  DZ (BR hr) λi x u hx hu=>by
    obtain⟨u',e1,e2⟩:=Bo hr i x hx;rw[hu]at e1;cases e1;exact iA (uS.1 h x (uL hx)) os' e2
theorem PA {x:AV}{v:Value}(h:flat x=true)(os':List Own)(hr:Ae F w os x v):Ae F w os' x v:=by
  cases x with
  | own=>simp[flat]at h
  | ptr=>simp[flat]at h
  | dv=>simp[flat]at h
  | fn f cs=>simp only[Ae]at hr⊢;obtain⟨us,e,hl⟩:=hr;exact⟨us,e,Oz h os' hl⟩
  | agg cs=>simp only[Ae]at hr⊢;obtain⟨us,e,hl⟩:=hr;exact⟨us,e,Oz h os' hl⟩
  | CW cs=>simp only[Ae]at hr⊢;obtain⟨us,e,hl⟩:=hr;exact⟨us,e,gG h os' hl⟩
  | _=>exact J0 rfl os' hr
theorem R0 {xs:List AV}{us:List Value}(h:xs.all flat=true)(os':List Own)(hr:Bc F w os xs us):Bc F w os' xs us:=
  DZ (BR hr) λi x u hx hu=>by
    obtain⟨u',e1,e2⟩:=Bo hr i x hx;rw[hu]at e1;cases e1;exact PA (uS.1 h x (uL hx)) os' e2
theorem FN.nil (hold :∀b,F b->b<w.heap.size):FN F [] [] w:=⟨rfl,by simp,by simp,hold⟩
theorem Rel.after (hr:Rel F os s a w){F':Nat->Prop}{w':World}{os1:List Own}(he:Ext F [] w F' os1 w' 0)(hold :∀b,F' b->b<w'.heap.size):
    Rel F' os s a w'/\Ext F os w F' os w' k/\(∀x v,Ae F w os x v->Ae F' w' os x v)/\∀(i:Nat) (o:Own),os[i]?=some o->∀b,o.owns b->∀o1:Own,o1∈os1->¬ o1.owns b:=by
  have AAC:∀x v,Ae F w os x v->Ae F' w' os x v:=λx v h=>D8 he.RN he.Jx os os (Er.refl os) x v h;have hoth:∀(i:Nat) (o:Own),os[i]?=some o->∀b,o.owns b->w'.heap[b]?=w.heap[b]?/\¬ F' b/\∀o1:Own,o1∈os1->¬ o1.owns b:=λi o ho b hb=>
    he.other b ((hr.rows i o ho).lt hb) ((hr.rows i o ho).nF hb) (by simp)
  refine⟨⟨hr.st,λi=>AAC _ _ (hr.env i),hr.size,λi o ho=>?_,hr.inj,hold,hr.defers⟩,⟨he.sys,he.tape,he.output,he.size,he.RN,he.Jx,λb hb h1 h2=>?_,λi o _ ho=>⟨o,ho,uq _,rfl,λ_=>⟨rfl,rfl,rfl⟩⟩⟩,AAC,λi o ho b hb=>(hoth i o ho b hb).2.2⟩
  · have zp:=hr.rows i o ho;refine⟨zp.pos,zp.lens,zp.none,λb hb=>?_,λb hb=>⟨(hoth i o ho b (.inr hb)).2.1,vi (zp.mo b hb).2.1 he.size,(zp.mo b hb).2.2⟩,
      zp.deep.keep rfl (λ_ h=>h) rfl (λb hb=>(hoth i o ho b hb).1) (λi x j e s ys hx hc=>⟨x,hx,hc⟩)⟩
    obtain⟨h1,cur,h2,h3,h4,h5,h6⟩:=zp.some b hb;obtain⟨e1,e2,_⟩:=hoth i o ho b (.inl hb);exact⟨e2,cur,by rw[e1];exact h2,h3,h4,h5,λi' x hx j c hc=>by
      obtain⟨u,f1,f2⟩:=h6 i' x hx j c hc;exact⟨u,f1,AAC _ _ f2⟩⟩
  · obtain⟨e1,e2,_⟩:=he.other b hb h1 (by simp);exact⟨e1,e2,h2⟩
theorem X6 {f:FuncId}{args:List AV}{d:Option Tmp}{K:St->Prop}{v:AV}(h:BW P f args [] λr st'=>r=v/\st'=[])(hf:args.all flat=true)(hv:flat v=true)(hK:K (s.put d v)):callThen P k s f args d K:=by
  intro F os a w vs hr hl;refine (h F [] w vs (FN.nil hr.GK) (R0 hf [] hl)).mono ?_;rintro e w' ⟨u,r,st',F',os',rfl,⟨rfl,rfl⟩,hs,hru,he⟩;have hos:os'=[]:=by have:=hs.st;simpa using this
  subst hos;obtain⟨h1,h2,_⟩:=hr.after (k:=k) he hs.GK;exact⟨u,r,s.st,F',os,rfl,hK,h1,PA hv os hru,h2⟩
def Yl (P:Program)(o:Oper)(s:St)(v:AV):Prop:=
  ∀(k:Nat) (F:Nat->Prop) (os:List Own) (a:Act) (w:World),Rel F os s a w->∀(next:Act->World->Prop) (Q:Exit->Act->World->Prop),
    (∀a' w',Step k s.n F os w (·=s.put o.dst v) a' w'->next a' w')->o.wp P a w next Q
def sB (P:Program)(o:Oper)(s:St)(K:AV->Prop):Prop:=
  ∃v,(∀s0:St,s0.st=s.st->(∀x∈o.op.operands,s0.ev x=s.ev x)->DK s0.n o.dst=true->Yl P o s0 v)/\K v
def Ol (P:Program)(o:Oper)(s:St)(K:AV->Prop):Prop:=
  if MA o.op then sB P o s K else La P s o.op K
theorem fu {op:Op}{K:AV->Prop}(h:La P s op K):∃v,K v/\La P s op (·=v):=by
  unfold La at h⊢;split at h
  case h_1=>exact⟨_,h,rfl⟩
  case h_2=>exact⟨_,h,rfl⟩
  case h_3=>
    unfold Ta at h⊢;split at h
    · exact⟨_,h,rfl⟩
    · rename_i t _ _;cases t
      · exact⟨_,h.2 rfl,by simp⟩
      · exact⟨_,h.1 rfl,by simp⟩
    · exact h.elim
  case h_4=>
    unfold cY at h⊢;split at h
    · obtain⟨row,h1,h2,h3⟩:=BL h;exact⟨_,h3,Am row h1 ⟨h2,rfl⟩⟩
    · exact⟨_,h,rfl⟩
    · exact h.elim
  case h_5 op t x y _=>
    unfold Yy at h⊢;split at h
    · obtain⟨h1,h⟩:=h;cases op<;>simp only[gp]at h⊢<;>first|exact h.elim|exact⟨_,h,h1,rfl⟩|exact⟨_,h.2,h1,h.1,rfl⟩
    · obtain⟨h1,h⟩:=h;split at h
      · exact⟨_,h,h1,rfl⟩
      · exact⟨_,h,h1,rfl⟩
      · exact h.elim
    · exact h.elim
  case h_6=>
    unfold mH at h⊢;split at h
    · exact⟨_,h,rfl⟩
    · exact⟨_,h,rfl⟩
    · exact h.elim
  case h_7=>
    unfold ZL at h⊢;split at h
    · exact⟨_,h,rfl⟩
    · exact h.elim
  case h_8 t p=>
    obtain⟨ti,h1,h⟩:=BL h;have part:∀{x:List AV} {off:Nat},Nj ti.1 ti.2 x off K->∃v,K v/\Nj ti.1 ti.2 x off (·=v):=λ{x off} h=>by
      unfold Nj at h⊢;split at h
      · rename_i hh;exact⟨_,h.2,by rw[uX hh];exact⟨h.1,rfl⟩⟩
      · rename_i hh;obtain⟨c,e1,e2⟩:=BL h;exact⟨c,e2,by rw[uY hh];exact Am c e1 rfl⟩
    unfold TA;generalize s.ev p=pv at h⊢;cases pv with
    | ptr id g i off=>
      obtain⟨row,e1,e2,h⟩:=BL h;obtain⟨x,e3,h⟩:=BL h;obtain⟨v,hv,h⟩:=part h;exact⟨v,hv,Am ti h1 (Am row e1 ⟨e2,Am x e3 h⟩)⟩
    | Bj x off=>
      obtain⟨v,hv,h⟩:=part h;exact⟨v,hv,Am ti h1 h⟩
    | _=>exact h.elim
  case h_9 t x f=>
    obtain⟨o,h1,h⟩:=BL h;unfold OY;generalize s.ev x=pv at h⊢;cases pv with
    | ptr id g i off=>
      obtain⟨row,e1,e2,e3,h⟩:=BL h;exact⟨_,h,Am o h1 (Am row e1 ⟨e2,e3,rfl⟩)⟩
    | Bj x off=>exact⟨_,h,Am o h1 rfl⟩
    | _=>exact h.elim
  case h_10=>
    unfold QA at h⊢;split at h
    · obtain⟨g,e1,h⟩:=BL h;obtain⟨ti,e2,h⟩:=BL h;unfold Nj at h;split at h
      · rename_i hh;exact⟨_,h.2,Am g e1 (Am ti e2 (by unfold Nj;rw[uX hh];exact⟨h.1,rfl⟩))⟩
      · rename_i hh;obtain⟨c,f1,f2⟩:=BL h;exact⟨c,f2,Am g e1 (Am ti e2 (by unfold Nj;rw[uY hh];exact Am c f1 rfl))⟩
    · exact h.elim
  case h_11 t x i=>
    obtain⟨ei,e1,h⟩:=BL h;unfold Mi;generalize s.ev x=xv at h⊢;generalize s.ev i=iv at h⊢;cases xv with
    | own id g n=>
      cases iv with
      | int kk j=>
        obtain⟨h1,h2,h⟩:=h;obtain⟨row,e2,e3,e4,h⟩:=BL h;exact⟨_,h,Am ei e1 ⟨h1,h2,Am row e2 ⟨e3,e4,rfl⟩⟩⟩
      | _=>exact h.elim
    | sl xs=>
      cases iv with
      | int kk j=>
        obtain⟨h1,h⟩:=h;obtain⟨y,e2,e3,h⟩:=BL h;exact⟨_,h,Am ei e1 ⟨h1,Am y e2 ⟨e3,rfl⟩⟩⟩
      | _=>exact h.elim
    | _=>exact h.elim
  case h_12=>
    unfold Tr at h⊢;split at h
    · obtain⟨c,f1,f2⟩:=BL h;exact⟨c,f2,Am c f1 rfl⟩
    · exact h.elim
  case h_13=>
    obtain⟨h1,h⟩:=h;obtain⟨fs,e1,h⟩:=BL h;obtain⟨z,e2,h⟩:=BL h;obtain⟨cs,e3,h⟩:=BL h;exact⟨_,h,h1,Am fs e1 (Am z e2 (Am cs e3 rfl))⟩
  case h_14=>
    rcases h with ⟨h1,h⟩|⟨h1,h2,h⟩
    · exact⟨_,h,.inl ⟨h1,rfl⟩⟩
    · exact⟨_,h,.inr ⟨h1,h2,rfl⟩⟩
  case h_15=>
    split at h
    · obtain⟨h1,h⟩:=h;unfold kW at h⊢;split at h
      · obtain⟨row,e1,e2,h⟩:=BL h;exact⟨_,h,h1,Am row e1 ⟨e2,rfl⟩⟩
      · exact⟨_,h,h1,rfl⟩
      · exact⟨_,h,h1,rfl⟩
      · exact h.elim
    · exact h.elim
  case h_16=>
    split at h
    · unfold nD at h⊢;split at h
      · exact⟨_,h,rfl⟩
      · exact h.elim
    · exact h.elim
  case h_17=>
    split at h
    · unfold nT at h⊢;split at h
      · exact⟨_,h,rfl⟩
      · exact h.elim
    · exact h.elim
  case h_18=>exact h.elim
theorem jT {o:Oper}{K:AV->Prop}(h:Ol P o s K):∃v,K v/\Ol P o s (·=v):=by
  unfold Ol at h⊢;split at h
  · rename_i hc;simp only[hc,vH];obtain⟨v,h1,h2⟩:=h;exact⟨v,h2,v,h1,rfl⟩
  · rename_i hc;simp only[hc,uN,uf];exact fu h
theorem Yn {s:St}{d:Option Tmp}{v:AV}{x:Operand}(h :∀t,d=some t->x≠.tmp t):(s.put d v).ev x=s.ev x:=by
  cases d with
  | none=>rfl
  | some d=>
    cases x with
    | tmp t=>
      have hne:t≠d:=λe=>h d rfl (e▸rfl);simp[St.ev,St.put,EW,hne]
    | _=>rfl
theorem put_comm (s:St){x y:Option Tmp}(v u:AV)(h :∀d,x=some d->y≠some d):(s.put x v).put y u=(s.put y u).put x v:=by
  cases x with
  | none=>rfl
  | some d=>
    cases y with
    | none=>rfl
    | some e=>
      have hne:d≠e:=λhe=>h d rfl (he▸rfl);simp only[St.put,St.mk.injEq,true_and,and_true];funext t;simp only[EW];by_cases h1:t=d
      · subst h1;simp[hne]
      · by_cases h2:t=e
        · subst h2;simp[h1]
        · simp[h1,h2]
theorem jv (s:St)(d:Option Tmp)(v:AV):(s.put d v).st=s.st:=by cases d<;>rfl
theorem V3 {s s':St}{o:Oper}{K:AV->Prop}(hst:s'.st=s.st)(h :∀x∈o.op.operands,s'.ev x=s.ev x)(hd:Ol P o s K):Ol P o s' K:=by
  unfold Ol at hd⊢;split at hd
  · rename_i hc;simp only[hc,vH];obtain⟨v,h1,h2⟩:=hd;exact⟨v,λs0 e1 e2 e3=>h1 s0 (e1.trans hst) (λx hx=>(e2 x hx).trans (h x hx)) e3,h2⟩
  rename_i hc;simp only[hc,uN,uf];obtain⟨dst,op,ty,pos,after,guard⟩:=o;simp only at h hd hc⊢;have hlist:∀args:Array Operand,(∀x∈args,s'.ev x=s.ev x)->args.toList.map s'.ev=args.toList.map s.ev:=λargs ha=>vL λx hx=>ha x (by simpa using hx);have hparts:∀parts:Array (Nat×Operand),(∀p∈parts,s'.ev p.2=s.ev p.2)->(parts.toList.map λp=>(p.1,s'.ev p.2))=parts.toList.map λp=>(p.1,s.ev p.2):=λparts hp=>vL λp hx=>by rw[hp p (by simpa using hx)]
  cases op
  case call c=>
    obtain⟨callee,args,types⟩:=c;cases callee with
    | value f=>exact absurd rfl hc
    | invoke r m=>exact hd
    | builtin b=>
      have ha:∀x∈args,s'.ev x=s.ev x:=λx hx=>h x (by simp[Op.operands,Call.operands,hx]);cases b<;>simp only[La]at hd⊢<;>first
        | exact hd
        | (split at hd
           · rename_i h1 h2;have hx:=ha _ (by rw[<- yD,h1];exact wo);rw[hx,hst];exact hd
           · exact hd.elim)
        | (split at hd
           · rename_i x y h1;have hx:=ha x (by rw[<- yD,h1];simp);have hy:=ha y (by rw[<- yD,h1];simp);rw[hx,hy];exact hd
           · exact hd.elim)
  case build t parts=>
    simp only[La]at hd⊢;rw[hparts parts (λp hp=>h p.2 (by simp only[Op.operands,yA,uw];exact⟨p,by simpa using hp,rfl⟩))];exact hd
  case makeFunc fn first caps=>
    cases fn<;>simp only[La]at hd⊢<;>try exact hd
    rw[hlist caps (λx hx=>h x (by simp[Op.operands,hx])),hlist first (λx hx=>h x (by simp[Op.operands,hx]))];exact hd
  all_goals simp only[La,Op.operands,yA,uz,List.not_mem_nil,yc,forall_eq_or_imp,forall_eq]at hd h⊢
  all_goals first
    | exact hd
    | (rw[h,hst];exact hd)
    | (rw[h];exact hd)
    | (rw[h.1,h.2,hst];exact hd)
    | (rw[h.1,h.2];exact hd)
    | (rw[h.1,h.2.1,h.2.2];exact hd)
end Go.Abs
