import Derived.Test.YtccficmcdkcpnaaGreatAbsH
set_option linter.all false
namespace Go.Abs
open Go
variable {P : Program} {F : Nat -> Prop} {os : List Own} {s : St} {a : Act} {w : World} {k : Nat}
def two (X:AV->AV):AV->AV
  | .fn f cs=>.fn f (cs.map X)
  | .agg cs=>.agg (cs.map X)
  | .C7 _=>.FQ
  | v=>X v
theorem Nt {F F':Nat->Prop}{w w':World}{os os':List Own}{X:AV->AV}(h0 :∀x v,AU F w os x v->AU F' w' os' (X x) v):∀x v,AU F w os x v->AU F' w' os' (two X x) v:=by
  have hL:∀cs us,A7 F w os cs us->A7 F' w' os' (cs.map X) us:=λcs us h=>
    Cq (by simp[A3 h]) λi x u hx hu=>by
      simp only[mX,mZ]at hx;obtain⟨y,hy,rfl⟩:=hx;obtain⟨u',tZ,sw⟩:=BQ h i y hy;rw[tZ]at hu;cases hu;exact h0 _ _ sw
  intro x v h;cases x with
  | fn f cs=>simp only[two,AU]at h⊢;obtain⟨us,e,hl⟩:=h;exact⟨us,e,hL _ _ hl⟩
  | agg cs=>simp only[two,AU]at h⊢;obtain⟨us,e,hl⟩:=h;exact⟨us,e,hL _ _ hl⟩
  | C7 cs=>simp[two,AU]
  | _=>exact h0 _ _ h
theorem YN {X:AV->AV}{c:AV}{el s:Nat}{ys:List (List AV)}(h0 :∀c,X c=.dv el s ys->c=.dv el s ys)(h:two X c=.dv el s ys):c=.dv el s ys:=by
  cases c<;>simp only[two]at h<;>first|exact h0 _ h|cases h
def simple:AV->Bool
  | .own ..|.ptr ..|.fn ..|.agg _|.C7 _|.dv ..=>false
  | _=>true
def Dd:AV->Bool
  | .dv ..=>true
  | c=>simple c
def Xs:AV->Bool
  | .fn _ cs|.agg cs=>cs.all simple
  | c=>simple c
def flat:AV->Bool
  | .own ..|.ptr ..|.dv ..=>false
  | .fn _ cs|.agg cs=>cs.all simple
  | .C7 cs=>cs.all Xs
  | _=>true
theorem Fw {x:AV}{v:Value}(h:simple x=true)(os':List Own)(hr:AU F w os x v):AU F w os' x v:=by
  cases x<;>simp only[simple,mW]at h<;>simp only[AU]at hr⊢<;>exact hr
theorem Xx {x:AV}{v:Value}(h:Dd x=true)(os':List Own)(hr:AU F w os x v):AU F w os' x v:=by
  cases x with
  | dv=>simpa [AU] using hr
  | _=>exact Fw (by simpa [Dd] using h) os' hr
theorem LW {c:AV}(h:simple c=true):Dd c=true:=by cases c<;>simp_all [simple,Dd]
theorem Ln {xs:List AV}{us:List Value}(h:xs.all simple=true)(os':List Own)(hr:A7 F w os xs us):A7 F w os' xs us:=
  Cq (A3 hr) λi x u hx hu=>by
    obtain⟨u',e1,e2⟩:=BQ hr i x hx;rw[hu]at e1;cases e1;exact Fw (ma.1 h x (mS hx)) os' e2
theorem bP {x:AV}{v:Value}(h:Xs x=true)(os':List Own)(hr:AU F w os x v):AU F w os' x v:=by
  cases x with
  | fn f cs=>simp only[AU]at hr⊢;obtain⟨us,e,hl⟩:=hr;exact⟨us,e,Ln h os' hl⟩
  | agg cs=>simp only[AU]at hr⊢;obtain⟨us,e,hl⟩:=hr;exact⟨us,e,Ln h os' hl⟩
  | _=>exact Fw (by simpa [Xs] using h) os' hr
theorem Yj {xs:List AV}{us:List Value}(h:xs.all Xs=true)(os':List Own)(hr:A7 F w os xs us):A7 F w os' xs us:=
  Cq (A3 hr) λi x u hx hu=>by
    obtain⟨u',e1,e2⟩:=BQ hr i x hx;rw[hu]at e1;cases e1;exact bP (ma.1 h x (mS hx)) os' e2
theorem Lu {x:AV}{v:Value}(h:flat x=true)(os':List Own)(hr:AU F w os x v):AU F w os' x v:=by
  cases x with
  | own=>simp[flat]at h
  | ptr=>simp[flat]at h
  | dv=>simp[flat]at h
  | fn f cs=>simp only[AU]at hr⊢;obtain⟨us,e,hl⟩:=hr;exact⟨us,e,Ln h os' hl⟩
  | agg cs=>simp only[AU]at hr⊢;obtain⟨us,e,hl⟩:=hr;exact⟨us,e,Ln h os' hl⟩
  | C7 cs=>simp only[AU]at hr⊢;obtain⟨us,e,hl⟩:=hr;exact⟨us,e,Yj h os' hl⟩
  | _=>exact Fw rfl os' hr
theorem OQ {xs:List AV}{us:List Value}(h:xs.all flat=true)(os':List Own)(hr:A7 F w os xs us):A7 F w os' xs us:=
  Cq (A3 hr) λi x u hx hu=>by
    obtain⟨u',e1,e2⟩:=BQ hr i x hx;rw[hu]at e1;cases e1;exact Lu (ma.1 h x (mS hx)) os' e2
theorem FT.nil (hold :∀b,F b->b<w.heap.size):FT F [] [] w:=⟨rfl,by simp,by simp,hold⟩
theorem Rel.after (hr:Rel F os s a w){F':Nat->Prop}{w':World}{sC:List Own}(he:Ext F [] w F' sC w' 0)(hold :∀b,F' b->b<w'.heap.size):
    Rel F' os s a w'/\Ext F os w F' os w' k/\(∀x v,AU F w os x v->AU F' w' os x v)/\∀(i:Nat) (o:Own),os[i]?=some o->∀b,o.owns b->∀o1:Own,o1∈sC->¬ o1.owns b:=by
  have rZ:∀x v,AU F w os x v->AU F' w' os x v:=λx v h=>Cy he.Ng he.HP os os (DX.refl os) x v h;have tq:∀(i:Nat) (o:Own),os[i]?=some o->∀b,o.owns b->w'.heap[b]?=w.heap[b]?/\¬ F' b/\∀o1:Own,o1∈sC->¬ o1.owns b:=λi o ho b hb=>
    he.other b ((hr.rows i o ho).lt hb) ((hr.rows i o ho).nF hb) (by simp)
  refine⟨⟨hr.st,λi=>rZ _ _ (hr.env i),hr.size,λi o ho=>?_,hr.inj,hold,hr.defers⟩,⟨he.sys,he.tape,he.output,he.size,he.Ng,he.HP,λb hb h1 h2=>?_,λi o _ ho=>⟨o,ho,ml _,rfl,λ_=>⟨rfl,rfl,rfl⟩⟩⟩,rZ,λi o ho b hb=>(tq i o ho b hb).2.2⟩
  · have rR:=hr.rows i o ho;refine⟨rR.pos,rR.lens,rR.none,λb hb=>?_,λb hb=>⟨(tq i o ho b (.inr hb)).2.1,nk (rR.mo b hb).2.1 he.size,(rR.mo b hb).2.2⟩,
      rR.deep.keep rfl (λ_ h=>h) rfl (λb hb=>(tq i o ho b hb).1) (λi x j e s ys hx hc=>⟨x,hx,hc⟩)⟩
    obtain⟨h1,cur,h2,h3,h4,h5,h6⟩:=rR.some b hb;obtain⟨e1,e2,_⟩:=tq i o ho b (.inl hb);exact⟨e2,cur,by rw[e1];exact h2,h3,h4,h5,λi' x hx j c hc=>by
      obtain⟨u,f1,f2⟩:=h6 i' x hx j c hc;exact⟨u,f1,rZ _ _ f2⟩⟩
  · obtain⟨e1,e2,_⟩:=he.other b hb h1 (by simp);exact⟨e1,e2,h2⟩
theorem UR {f:FuncId}{args:List AV}{d:Option Tmp}{K:St->Prop}{v:AV}(h:BJ P f args [] λr st'=>r=v/\st'=[])(hf:args.all flat=true)(hv:flat v=true)(hK:K (s.put d v)):callThen P k s f args d K:=by
  intro F os a w vs hr hl;refine (h F [] w vs (FT.nil hr.FU) (OQ hf [] hl)).mono ?_;rintro e w' ⟨u,r,st',F',os',rfl,⟨rfl,rfl⟩,hs,hru,he⟩;have sP:os'=[]:=by have:=hs.st;simpa using this
  subst sP;obtain⟨h1,h2,_⟩:=hr.after (k:=k) he hs.FU;exact⟨u,r,s.st,F',os,rfl,hK,h1,Lu hv os hru,h2⟩
def Yl (P:Program)(o:Oper)(s:St)(v:AV):Prop:=
  ∀(k:Nat) (F:Nat->Prop) (os:List Own) (a:Act) (w:World),Rel F os s a w->∀(next:Act->World->Prop) (Q:Exit->Act->World->Prop),
    (∀a' w',Step k s.n F os w (·=s.put o.dst v) a' w'->next a' w')->o.wp P a w next Q
def je (P:Program)(o:Oper)(s:St)(K:AV->Prop):Prop:=
  ∃v,(∀s0:St,s0.st=s.st->(∀x∈o.op.operands,s0.ev x=s.ev x)->Ce s0.n o.dst=true->Yl P o s0 v)/\K v
def LZ (P:Program)(o:Oper)(s:St)(K:AV->Prop):Prop:=
  if KH o.op then je P o s K else Is P s o.op K
theorem Y5 {op:Op}{K:AV->Prop}(h:Is P s op K):∃v,K v/\Is P s op (·=v):=by
  unfold Is at h⊢;split at h
  case h_1=>exact⟨_,h,rfl⟩
  case h_2=>exact⟨_,h,rfl⟩
  case h_3=>
    unfold PZ at h⊢;split at h
    · exact⟨_,h,rfl⟩
    · rename_i t _ _;cases t
      · exact⟨_,h.2 rfl,by simp⟩
      · exact⟨_,h.1 rfl,by simp⟩
    · exact h.elim
  case h_4=>
    unfold Wv at h⊢;split at h
    · obtain⟨row,h1,h2,h3⟩:=Aw h;exact⟨_,h3,Ai row h1 ⟨h2,rfl⟩⟩
    · exact⟨_,h,rfl⟩
    · exact h.elim
  case h_5 op t x y _=>
    unfold VF at h⊢;split at h
    · obtain⟨h1,h⟩:=h;cases op<;>simp only[Y7]at h⊢<;>first|exact h.elim|exact⟨_,h,h1,rfl⟩|exact⟨_,h.2,h1,h.1,rfl⟩
    · obtain⟨h1,h⟩:=h;split at h
      · exact⟨_,h,h1,rfl⟩
      · exact⟨_,h,h1,rfl⟩
      · exact h.elim
    · exact h.elim
  case h_6=>
    unfold cr at h⊢;split at h
    · exact⟨_,h,rfl⟩
    · exact⟨_,h,rfl⟩
    · exact h.elim
  case h_7=>
    unfold U2 at h⊢;split at h
    · exact⟨_,h,rfl⟩
    · exact h.elim
  case h_8 t p=>
    obtain⟨ti,h1,h⟩:=Aw h;have part:∀{x:List AV} {off:Nat},KT ti.1 ti.2 x off K->∃v,K v/\KT ti.1 ti.2 x off (·=v):=λ{x off} h=>by
      unfold KT at h⊢;split at h
      · rename_i hh;exact⟨_,h.2,by rw[me hh];exact⟨h.1,rfl⟩⟩
      · rename_i hh;obtain⟨c,e1,e2⟩:=Aw h;exact⟨c,e2,by rw[mj hh];exact Ai c e1 rfl⟩
    unfold PD;generalize s.ev p=pv at h⊢;cases pv with
    | ptr id g i off=>
      obtain⟨row,e1,e2,h⟩:=Aw h;obtain⟨x,e3,h⟩:=Aw h;obtain⟨v,hv,h⟩:=part h;exact⟨v,hv,Ai ti h1 (Ai row e1 ⟨e2,Ai x e3 h⟩)⟩
    | Bz x off=>
      obtain⟨v,hv,h⟩:=part h;exact⟨v,hv,Ai ti h1 h⟩
    | _=>exact h.elim
  case h_9 t x f=>
    obtain⟨o,h1,h⟩:=Aw h;unfold LH;generalize s.ev x=pv at h⊢;cases pv with
    | ptr id g i off=>
      obtain⟨row,e1,e2,e3,h⟩:=Aw h;exact⟨_,h,Ai o h1 (Ai row e1 ⟨e2,e3,rfl⟩)⟩
    | Bz x off=>exact⟨_,h,Ai o h1 rfl⟩
    | _=>exact h.elim
  case h_10=>
    unfold Mf at h⊢;split at h
    · obtain⟨g,e1,h⟩:=Aw h;obtain⟨ti,e2,h⟩:=Aw h;unfold KT at h;split at h
      · rename_i hh;exact⟨_,h.2,Ai g e1 (Ai ti e2 (by unfold KT;rw[me hh];exact⟨h.1,rfl⟩))⟩
      · rename_i hh;obtain⟨c,f1,f2⟩:=Aw h;exact⟨c,f2,Ai g e1 (Ai ti e2 (by unfold KT;rw[mj hh];exact Ai c f1 rfl))⟩
    · exact h.elim
  case h_11 t x i=>
    obtain⟨ei,e1,h⟩:=Aw h;unfold IX;generalize s.ev x=xv at h⊢;generalize s.ev i=iv at h⊢;cases xv with
    | own id g n=>
      cases iv with
      | int kk j=>
        obtain⟨h1,h2,h⟩:=h;obtain⟨row,e2,e3,e4,h⟩:=Aw h;exact⟨_,h,Ai ei e1 ⟨h1,h2,Ai row e2 ⟨e3,e4,rfl⟩⟩⟩
      | _=>exact h.elim
    | sl xs=>
      cases iv with
      | int kk j=>
        obtain⟨h1,h⟩:=h;obtain⟨y,e2,e3,h⟩:=Aw h;exact⟨_,h,Ai ei e1 ⟨h1,Ai y e2 ⟨e3,rfl⟩⟩⟩
      | _=>exact h.elim
    | _=>exact h.elim
  case h_12=>
    unfold QI at h⊢;split at h
    · obtain⟨c,f1,f2⟩:=Aw h;exact⟨c,f2,Ai c f1 rfl⟩
    · exact h.elim
  case h_13=>
    obtain⟨h1,h⟩:=h;obtain⟨fs,e1,h⟩:=Aw h;obtain⟨z,e2,h⟩:=Aw h;obtain⟨cs,e3,h⟩:=Aw h;exact⟨_,h,h1,Ai fs e1 (Ai z e2 (Ai cs e3 rfl))⟩
  case h_14=>
    rcases h with ⟨h1,h⟩|⟨h1,h2,h⟩
    · exact⟨_,h,.inl ⟨h1,rfl⟩⟩
    · exact⟨_,h,.inr ⟨h1,h2,rfl⟩⟩
  case h_15=>
    split at h
    · obtain⟨h1,h⟩:=h;unfold cA at h⊢;split at h
      · obtain⟨row,e1,e2,h⟩:=Aw h;exact⟨_,h,h1,Ai row e1 ⟨e2,rfl⟩⟩
      · exact⟨_,h,h1,rfl⟩
      · exact⟨_,h,h1,rfl⟩
      · exact h.elim
    · exact h.elim
  case h_16=>
    split at h
    · unfold fe at h⊢;split at h
      · exact⟨_,h,rfl⟩
      · exact h.elim
    · exact h.elim
  case h_17=>
    split at h
    · unfold en at h⊢;split at h
      · exact⟨_,h,rfl⟩
      · exact h.elim
    · exact h.elim
  case h_18=>exact h.elim
theorem bW {o:Oper}{K:AV->Prop}(h:LZ P o s K):∃v,K v/\LZ P o s (·=v):=by
  unfold LZ at h⊢;split at h
  · rename_i hc;simp only[hc,nL];obtain⟨v,h1,h2⟩:=h;exact⟨v,h2,v,h1,rfl⟩
  · rename_i hc;simp only[hc,mW,my];exact Y5 h
theorem Uk {s:St}{d:Option Tmp}{v:AV}{x:Operand}(h :∀t,d=some t->x≠.tmp t):(s.put d v).ev x=s.ev x:=by
  cases d with
  | none=>rfl
  | some d=>
    cases x with
    | tmp t=>
      have sB:t≠d:=λe=>h d rfl (e▸rfl);simp[St.ev,St.put,Ew,sB]
    | _=>rfl
theorem put_comm (s:St){x y:Option Tmp}(v u:AV)(h :∀d,x=some d->y≠some d):(s.put x v).put y u=(s.put y u).put x v:=by
  cases x with
  | none=>rfl
  | some d=>
    cases y with
    | none=>rfl
    | some e=>
      have sB:d≠e:=λhe=>h d rfl (he▸rfl);simp only[St.put,St.mk.injEq,true_and,and_true];funext t;simp only[Ew];by_cases h1:t=d
      · subst h1;simp[sB]
      · by_cases h2:t=e
        · subst h2;simp[h1]
        · simp[h1,h2]
theorem cO (s:St)(d:Option Tmp)(v:AV):(s.put d v).st=s.st:=by cases d<;>rfl
theorem SA {s s':St}{o:Oper}{K:AV->Prop}(ra:s'.st=s.st)(h :∀x∈o.op.operands,s'.ev x=s.ev x)(hd:LZ P o s K):LZ P o s' K:=by
  unfold LZ at hd⊢;split at hd
  · rename_i hc;simp only[hc,nL];obtain⟨v,h1,h2⟩:=hd;exact⟨v,λs0 e1 e2 e3=>h1 s0 (e1.trans ra) (λx hx=>(e2 x hx).trans (h x hx)) e3,h2⟩
  rename_i hc;simp only[hc,mW,my];obtain⟨dst,op,ty,pos,after,guard⟩:=o;simp only at h hd hc⊢;have yK:∀args:Array Operand,(∀x∈args,s'.ev x=s.ev x)->args.toList.map s'.ev=args.toList.map s.ev:=λargs ha=>nD λx hx=>ha x (by simpa using hx);have zC:∀parts:Array (Nat×Operand),(∀p∈parts,s'.ev p.2=s.ev p.2)->(parts.toList.map λp=>(p.1,s'.ev p.2))=parts.toList.map λp=>(p.1,s.ev p.2):=λparts hp=>nD λp hx=>by rw[hp p (by simpa using hx)]
  cases op
  case call c=>
    obtain⟨callee,args,types⟩:=c;cases callee with
    | value f=>exact absurd rfl hc
    | invoke r m=>exact hd
    | builtin b=>
      have ha:∀x∈args,s'.ev x=s.ev x:=λx hx=>h x (by simp[Op.operands,Call.operands,hx]);cases b<;>simp only[Is]at hd⊢<;>first
        | exact hd
        | (split at hd
           · rename_i h1 h2;have hx:=ha _ (by rw[<- qD,h1];exact oQ);rw[hx,ra];exact hd
           · exact hd.elim)
        | (split at hd
           · rename_i x y h1;have hx:=ha x (by rw[<- qD,h1];simp);have hy:=ha y (by rw[<- qD,h1];simp);rw[hx,hy];exact hd
           · exact hd.elim)
  case build t parts=>
    simp only[Is]at hd⊢;rw[zC parts (λp hp=>h p.2 (by simp only[Op.operands,qA,mu];exact⟨p,by simpa using hp,rfl⟩))];exact hd
  case makeFunc fn first sM=>
    cases fn<;>simp only[Is]at hd⊢<;>try exact hd
    rw[yK sM (λx hx=>h x (by simp[Op.operands,hx])),yK first (λx hx=>h x (by simp[Op.operands,hx]))];exact hd
  all_goals simp only[Is,Op.operands,qA,mr,List.not_mem_nil,qY,forall_eq_or_imp,forall_eq]at hd h⊢
  all_goals first
    | exact hd
    | (rw[h,ra];exact hd)
    | (rw[h];exact hd)
    | (rw[h.1,h.2,ra];exact hd)
    | (rw[h.1,h.2];exact hd)
    | (rw[h.1,h.2.1,h.2.2];exact hd)
end Go.Abs
