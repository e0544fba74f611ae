import Derived.Test.YtgiajkaabnbieaaGreatAbsH
set_option linter.all false
namespace Go.Abs
open Go
variable {P : Program} {F : Nat -> Prop} {os : List Own} {s : St} {a : Act} {w : World} {k : Nat}
def two (X:AV->AV):AV->AV
  | .fn f cs=>.fn f (cs.map X)
  | .agg cs=>.agg (cs.map X)
  | .DX _=>.FN
  | v=>X v
theorem NN {F F':Nat->Prop}{w w':World}{os os':List Own}{X:AV->AV}(h0 :∀x v,Ae F w os x v->Ae F' w' os' (X x) v):∀x v,Ae F w os x v->Ae F' w' os' (two X x) v:=by
  have hL:∀cs us,Ba F w os cs us->Ba F' w' os' (cs.map X) us:=λcs us h=>
    Ds (by simp[BJ h]) λi x u hx hu=>by
      simp only[mG,mK]at hx;obtain⟨y,hy,rfl⟩:=hx;obtain⟨u',sa,sx⟩:=CD h i y hy;rw[sa]at hu;cases hu;exact h0 _ _ sx
  intro x v h;cases x with
  | fn f cs=>simp only[two,Ae]at h⊢;obtain⟨us,e,hl⟩:=h;exact⟨us,e,hL _ _ hl⟩
  | agg cs=>simp only[two,Ae]at h⊢;obtain⟨us,e,hl⟩:=h;exact⟨us,e,hL _ _ hl⟩
  | DX cs=>simp[two,Ae]
  | _=>exact h0 _ _ h
theorem VK {X:AV->AV}{c:AV}{el s:Nat}{ys:List (List AV)}(h0 :∀c,X c=.dv el s ys->c=.dv el s ys)(h:two X c=.dv el s ys):c=.dv el s ys:=by
  cases c<;>simp only[two]at h<;>first|exact h0 _ h|cases h
def simple:AV->Bool
  | .own ..|.ptr ..|.fn ..|.agg _|.DX _|.dv ..=>false
  | _=>true
def Em:AV->Bool
  | .dv ..=>true
  | c=>simple c
def X9:AV->Bool
  | .fn _ cs|.agg cs=>cs.all simple
  | c=>simple c
def flat:AV->Bool
  | .own ..|.ptr ..|.dv ..=>false
  | .fn _ cs|.agg cs=>cs.all simple
  | .DX cs=>cs.all X9
  | _=>true
theorem IW {x:AV}{v:Value}(h:simple x=true)(os':List Own)(hr:Ae F w os x v):Ae F w os' x v:=by
  cases x<;>simp only[simple,mF]at h<;>simp only[Ae]at hr⊢<;>exact hr
theorem YD {x:AV}{v:Value}(h:Em x=true)(os':List Own)(hr:Ae F w os x v):Ae F w os' x v:=by
  cases x with
  | dv=>simpa [Ae] using hr
  | _=>exact IW (by simpa [Em] using h) os' hr
theorem PU {c:AV}(h:simple c=true):Em c=true:=by cases c<;>simp_all [simple,Em]
theorem Mn {xs:List AV}{us:List Value}(h:xs.all simple=true)(os':List Own)(hr:Ba F w os xs us):Ba F w os' xs us:=
  Ds (BJ hr) λi x u hx hu=>by
    obtain⟨u',e1,e2⟩:=CD hr i x hx;rw[hu]at e1;cases e1;exact IW (mL.1 h x (mB hx)) os' e2
theorem cH {x:AV}{v:Value}(h:X9 x=true)(os':List Own)(hr:Ae F w os x v):Ae F w os' x v:=by
  cases x with
  | fn f cs=>simp only[Ae]at hr⊢;obtain⟨us,e,hl⟩:=hr;exact⟨us,e,Mn h os' hl⟩
  | agg cs=>simp only[Ae]at hr⊢;obtain⟨us,e,hl⟩:=hr;exact⟨us,e,Mn h os' hl⟩
  | _=>exact IW (by simpa [X9] using h) os' hr
theorem Z9 {xs:List AV}{us:List Value}(h:xs.all X9=true)(os':List Own)(hr:Ba F w os xs us):Ba F w os' xs us:=
  Ds (BJ hr) λi x u hx hu=>by
    obtain⟨u',e1,e2⟩:=CD hr i x hx;rw[hu]at e1;cases e1;exact cH (mL.1 h x (mB hx)) os' e2
theorem Mw {x:AV}{v:Value}(h:flat x=true)(os':List Own)(hr:Ae F w os x v):Ae F w os' x v:=by
  cases x with
  | own=>simp[flat]at h
  | ptr=>simp[flat]at h
  | dv=>simp[flat]at h
  | fn f cs=>simp only[Ae]at hr⊢;obtain⟨us,e,hl⟩:=hr;exact⟨us,e,Mn h os' hl⟩
  | agg cs=>simp only[Ae]at hr⊢;obtain⟨us,e,hl⟩:=hr;exact⟨us,e,Mn h os' hl⟩
  | DX cs=>simp only[Ae]at hr⊢;obtain⟨us,e,hl⟩:=hr;exact⟨us,e,Z9 h os' hl⟩
  | _=>exact IW rfl os' hr
theorem Rs {xs:List AV}{us:List Value}(h:xs.all flat=true)(os':List Own)(hr:Ba F w os xs us):Ba F w os' xs us:=
  Ds (BJ hr) λi x u hx hu=>by
    obtain⟨u',e1,e2⟩:=CD hr i x hx;rw[hu]at e1;cases e1;exact Mw (mL.1 h x (mB hx)) os' e2
theorem GU.nil (hold :∀b,F b->b<w.heap.size):GU F [] [] w:=⟨rfl,by simp,by simp,hold⟩
theorem Rel.after (hr:Rel F os s a w){F':Nat->Prop}{w':World}{rj:List Own}(he:Ext F [] w F' rj w' 0)(hold :∀b,F' b->b<w'.heap.size):
    Rel F' os s a w'/\Ext F os w F' os w' k/\(∀x v,Ae F w os x v->Ae F' w' os x v)/\∀(i:Nat) (o:Own),os[i]?=some o->∀b,o.owns b->∀o1:Own,o1∈rj->¬ o1.owns b:=by
  have rC:∀x v,Ae F w os x v->Ae F' w' os x v:=λx v h=>EJ he.OO he.H8 os os (Ex.refl os) x v h;have uV:∀(i:Nat) (o:Own),os[i]?=some o->∀b,o.owns b->w'.heap[b]?=w.heap[b]?/\¬ F' b/\∀o1:Own,o1∈rj->¬ o1.owns b:=λi o ho b hb=>
    he.other b ((hr.rows i o ho).lt hb) ((hr.rows i o ho).nF hb) (by simp)
  refine⟨⟨hr.st,λi=>rC _ _ (hr.env i),hr.size,λi o ho=>?_,hr.inj,hold,hr.defers⟩,⟨he.sys,he.tape,he.output,he.size,he.OO,he.H8,λb hb h1 h2=>?_,λi o _ ho=>⟨o,ho,mS _,rfl,λ_=>⟨rfl,rfl,rfl⟩⟩⟩,rC,λi o ho b hb=>(uV i o ho b hb).2.2⟩
  · have qu:=hr.rows i o ho;refine⟨qu.pos,qu.lens,qu.none,λb hb=>?_,λb hb=>⟨(uV i o ho b (.inr hb)).2.1,nL (qu.mo b hb).2.1 he.size,(qu.mo b hb).2.2⟩,
      qu.deep.keep rfl (λ_ h=>h) rfl (λb hb=>(uV i o ho b hb).1) (λi x j e s ys hx hc=>⟨x,hx,hc⟩)⟩
    obtain⟨h1,cur,h2,h3,h4,h5,h6⟩:=qu.some b hb;obtain⟨e1,e2,_⟩:=uV i o ho b (.inl hb);exact⟨e2,cur,by rw[e1];exact h2,h3,h4,h5,λi' x hx j c hc=>by
      obtain⟨u,f1,f2⟩:=h6 i' x hx j c hc;exact⟨u,f1,rC _ _ f2⟩⟩
  · obtain⟨e1,e2,_⟩:=he.other b hb h1 (by simp);exact⟨e1,e2,h2⟩
theorem U2 {f:FuncId}{args:List AV}{d:Option Tmp}{K:St->Prop}{v:AV}(h:AS P f args [] λr st'=>r=v/\st'=[])(hf:args.all flat=true)(hv:flat v=true)(hK:K (s.put d v)):callThen P k s f args d K:=by
  intro F os a w vs hr hl;refine (h F [] w vs (GU.nil hr.F6) (Rs hf [] hl)).mono ?_;rintro e w' ⟨u,r,st',F',os',rfl,⟨rfl,rfl⟩,hs,hru,he⟩;have rq:os'=[]:=by have:=hs.st;simpa using this
  subst rq;obtain⟨h1,h2,_⟩:=hr.after (k:=k) he hs.F6;exact⟨u,r,s.st,F',os,rfl,hK,h1,Mw hv os hru,h2⟩
def Yl (P:Program)(o:Oper)(s:St)(v:AV):Prop:=
  ∀(k:Nat) (F:Nat->Prop) (os:List Own) (a:Act) (w:World),Rel F os s a w->∀(next:Act->World->Prop) (Q:Exit->Act->World->Prop),
    (∀a' w',Step k s.n F os w (·=s.put o.dst v) a' w'->next a' w')->o.wp P a w next Q
def je (P:Program)(o:Oper)(s:St)(K:AV->Prop):Prop:=
  ∃v,(∀s0:St,s0.st=s.st->(∀x∈o.op.operands,s0.ev x=s.ev x)->DY s0.n o.dst=true->Yl P o s0 v)/\K v
def MY (P:Program)(o:Oper)(s:St)(K:AV->Prop):Prop:=
  if Ks o.op then je P o s K else Jt P s o.op K
theorem Zx {op:Op}{K:AV->Prop}(h:Jt P s op K):∃v,K v/\Jt P s op (·=v):=by
  unfold Jt at h⊢;split at h
  case h_1=>exact⟨_,h,rfl⟩
  case h_2=>exact⟨_,h,rfl⟩
  case h_3=>
    unfold QA at h⊢;split at h
    · exact⟨_,h,rfl⟩
    · rename_i t _ _;cases t
      · exact⟨_,h.2 rfl,by simp⟩
      · exact⟨_,h.1 rfl,by simp⟩
    · exact h.elim
  case h_4=>
    unfold Xt at h⊢;split at h
    · obtain⟨row,h1,h2,h3⟩:=Ax h;exact⟨_,h3,Ak row h1 ⟨h2,rfl⟩⟩
    · exact⟨_,h,rfl⟩
    · exact h.elim
  case h_5 op t x y _=>
    unfold WV at h⊢;split at h
    · obtain⟨h1,h⟩:=h;cases op<;>simp only[aF]at h⊢<;>first|exact h.elim|exact⟨_,h,h1,rfl⟩|exact⟨_,h.2,h1,h.1,rfl⟩
    · obtain⟨h1,h⟩:=h;split at h
      · exact⟨_,h,h1,rfl⟩
      · exact⟨_,h,h1,rfl⟩
      · exact h.elim
    · exact h.elim
  case h_6=>
    unfold ee at h⊢;split at h
    · exact⟨_,h,rfl⟩
    · exact⟨_,h,rfl⟩
    · exact h.elim
  case h_7=>
    unfold Wo at h⊢;split at h
    · exact⟨_,h,rfl⟩
    · exact h.elim
  case h_8 t p=>
    obtain⟨ti,h1,h⟩:=Ax h;have part:∀{x:List AV} {off:Nat},Ld ti.1 ti.2 x off K->∃v,K v/\Ld ti.1 ti.2 x off (·=v):=λ{x off} h=>by
      unfold Ld at h⊢;split at h
      · rename_i hh;exact⟨_,h.2,by rw[mI hh];exact⟨h.1,rfl⟩⟩
      · rename_i hh;obtain⟨c,e1,e2⟩:=Ax h;exact⟨c,e2,by rw[mJ hh];exact Ak c e1 rfl⟩
    unfold P4;generalize s.ev p=pv at h⊢;cases pv with
    | ptr id g i off=>
      obtain⟨row,e1,e2,h⟩:=Ax h;obtain⟨x,e3,h⟩:=Ax h;obtain⟨v,hv,h⟩:=part h;exact⟨v,hv,Ak ti h1 (Ak row e1 ⟨e2,Ak x e3 h⟩)⟩
    | Bt x off=>
      obtain⟨v,hv,h⟩:=part h;exact⟨v,hv,Ak ti h1 h⟩
    | _=>exact h.elim
  case h_9 t x f=>
    obtain⟨o,h1,h⟩:=Ax h;unfold L5;generalize s.ev x=pv at h⊢;cases pv with
    | ptr id g i off=>
      obtain⟨row,e1,e2,e3,h⟩:=Ax h;exact⟨_,h,Ak o h1 (Ak row e1 ⟨e2,e3,rfl⟩)⟩
    | Bt x off=>exact⟨_,h,Ak o h1 rfl⟩
    | _=>exact h.elim
  case h_10=>
    unfold Nj at h⊢;split at h
    · obtain⟨g,e1,h⟩:=Ax h;obtain⟨ti,e2,h⟩:=Ax h;unfold Ld at h;split at h
      · rename_i hh;exact⟨_,h.2,Ak g e1 (Ak ti e2 (by unfold Ld;rw[mI hh];exact⟨h.1,rfl⟩))⟩
      · rename_i hh;obtain⟨c,f1,f2⟩:=Ax h;exact⟨c,f2,Ak g e1 (Ak ti e2 (by unfold Ld;rw[mJ hh];exact Ak c f1 rfl))⟩
    · exact h.elim
  case h_11 t x i=>
    obtain⟨ei,e1,h⟩:=Ax h;unfold KP;generalize s.ev x=xv at h⊢;generalize s.ev i=iv at h⊢;cases xv with
    | own id g n=>
      cases iv with
      | int kk j=>
        obtain⟨h1,h2,h⟩:=h;obtain⟨row,e2,e3,e4,h⟩:=Ax h;exact⟨_,h,Ak ei e1 ⟨h1,h2,Ak row e2 ⟨e3,e4,rfl⟩⟩⟩
      | _=>exact h.elim
    | sl xs=>
      cases iv with
      | int kk j=>
        obtain⟨h1,h⟩:=h;obtain⟨y,e2,e3,h⟩:=Ax h;exact⟨_,h,Ak ei e1 ⟨h1,Ak y e2 ⟨e3,rfl⟩⟩⟩
      | _=>exact h.elim
    | _=>exact h.elim
  case h_12=>
    unfold Qd at h⊢;split at h
    · obtain⟨c,f1,f2⟩:=Ax h;exact⟨c,f2,Ak c f1 rfl⟩
    · exact h.elim
  case h_13=>
    obtain⟨h1,h⟩:=h;obtain⟨fs,e1,h⟩:=Ax h;obtain⟨z,e2,h⟩:=Ax h;obtain⟨cs,e3,h⟩:=Ax h;exact⟨_,h,h1,Ak fs e1 (Ak z e2 (Ak cs e3 rfl))⟩
  case h_14=>exact⟨_,h.2,h.1,rfl⟩
  case h_15=>
    split at h
    · obtain⟨h1,h⟩:=h;unfold cR at h⊢;split at h
      · obtain⟨row,e1,e2,h⟩:=Ax h;exact⟨_,h,h1,Ak row e1 ⟨e2,rfl⟩⟩
      · exact⟨_,h,h1,rfl⟩
      · exact⟨_,h,h1,rfl⟩
      · exact h.elim
    · exact h.elim
  case h_16=>
    split at h
    · unfold et at h⊢;split at h
      · exact⟨_,h,rfl⟩
      · exact h.elim
    · exact h.elim
  case h_17=>
    split at h
    · unfold eu at h⊢;split at h
      · exact⟨_,h,rfl⟩
      · exact h.elim
    · exact h.elim
  case h_18=>exact h.elim
theorem bl {o:Oper}{K:AV->Prop}(h:MY P o s K):∃v,K v/\MY P o s (·=v):=by
  unfold MY at h⊢;split at h
  · rename_i hc;simp only[hc,mm];obtain⟨v,h1,h2⟩:=h;exact⟨v,h2,v,h1,rfl⟩
  · rename_i hc;simp only[hc,mF,mW];exact Zx h
theorem VI {s:St}{d:Option Tmp}{v:AV}{x:Operand}(h :∀t,d=some t->x≠.tmp t):(s.put d v).ev x=s.ev x:=by
  cases d with
  | none=>rfl
  | some d=>
    cases x with
    | tmp t=>
      have rV:t≠d:=λe=>h d rfl (e▸rfl);simp[St.ev,St.put,FY,rV]
    | _=>rfl
theorem put_comm (s:St){x y:Option Tmp}(v u:AV)(h :∀d,x=some d->y≠some d):(s.put x v).put y u=(s.put y u).put x v:=by
  cases x with
  | none=>rfl
  | some d=>
    cases y with
    | none=>rfl
    | some e=>
      have rV:d≠e:=λhe=>h d rfl (he▸rfl);simp only[St.put,St.mk.injEq,true_and,and_true];funext t;simp only[FY];by_cases h1:t=d
      · subst h1;simp[rV]
      · by_cases h2:t=e
        · subst h2;simp[h1]
        · simp[h1,h2]
theorem cT (s:St)(d:Option Tmp)(v:AV):(s.put d v).st=s.st:=by cases d<;>rfl
theorem Sb {s s':St}{o:Oper}{K:AV->Prop}(rH:s'.st=s.st)(h :∀x∈o.op.operands,s'.ev x=s.ev x)(hd:MY P o s K):MY P o s' K:=by
  unfold MY at hd⊢;split at hd
  · rename_i hc;simp only[hc,mm];obtain⟨v,h1,h2⟩:=hd;exact⟨v,λs0 e1 e2 e3=>h1 s0 (e1.trans rH) (λx hx=>(e2 x hx).trans (h x hx)) e3,h2⟩
  rename_i hc;simp only[hc,mF,mW];obtain⟨dst,op,ty,pos,after,guard⟩:=o;simp only at h hd hc⊢;have hlist:∀args:Array Operand,(∀x∈args,s'.ev x=s.ev x)->args.toList.map s'.ev=args.toList.map s.ev:=λargs ha=>mj λx hx=>ha x (by simpa using hx);have zP:∀parts:Array (Nat×Operand),(∀p∈parts,s'.ev p.2=s.ev p.2)->(parts.toList.map λp=>(p.1,s'.ev p.2))=parts.toList.map λp=>(p.1,s.ev p.2):=λparts hp=>mj λp hx=>by rw[hp p (by simpa using hx)]
  cases op
  case call c=>
    obtain⟨callee,args,types⟩:=c;cases callee with
    | value f=>exact absurd rfl hc
    | invoke r m=>exact hd
    | builtin b=>
      have ha:∀x∈args,s'.ev x=s.ev x:=λx hx=>h x (by simp[Op.operands,Call.operands,hx]);cases b<;>simp only[Jt]at hd⊢<;>first
        | exact hd
        | (split at hd
           · rename_i h1 h2;have hx:=ha _ (by rw[<- pT,h1];exact oJ);rw[hx,rH];exact hd
           · exact hd.elim)
        | (split at hd
           · rename_i x y h1;have hx:=ha x (by rw[<- pT,h1];simp);have hy:=ha y (by rw[<- pT,h1];simp);rw[hx,hy];exact hd
           · exact hd.elim)
  case build t parts=>
    simp only[Jt]at hd⊢;rw[zP parts (λp hp=>h p.2 (by simp only[Op.operands,pR,mU];exact⟨p,by simpa using hp,rfl⟩))];exact hd
  case makeFunc fn first rp=>
    cases fn<;>simp only[Jt]at hd⊢<;>try exact hd
    rw[hlist rp (λx hx=>h x (by simp[Op.operands,hx]))];exact hd
  all_goals simp only[Jt,Op.operands,pR,mc,List.not_mem_nil,pt,forall_eq_or_imp,forall_eq]at hd h⊢
  all_goals first
    | exact hd
    | (rw[h,rH];exact hd)
    | (rw[h];exact hd)
    | (rw[h.1,h.2,rH];exact hd)
    | (rw[h.1,h.2];exact hd)
    | (rw[h.1,h.2.1,h.2.2];exact hd)
end Go.Abs
