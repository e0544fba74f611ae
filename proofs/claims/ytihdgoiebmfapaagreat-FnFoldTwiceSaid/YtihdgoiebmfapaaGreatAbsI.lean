import Derived.Test.YtihdgoiebmfapaaGreatAbsH
set_option linter.all false
namespace Go.Abs
open Go
variable {P : Program} {F : Nat -> Prop} {os : List Own} {s : St} {a : Act} {w : World} {k : Nat}
def two (X:AV->AV):AV->AV
  | .fn f cs=>.fn f (cs.map X)
  | .agg cs=>.agg (cs.map X)
  | .Dp _=>.E2
  | v=>X v
theorem LQ {F F':Nat->Prop}{w w':World}{os os':List Own}{X:AV->AV}(h0 :∀x v,Ae F w os x v->Ae F' w' os' (X x) v):∀x v,Ae F w os x v->Ae F' w' os' (two X x) v:=by
  have hL:∀cs us,Br F w os cs us->Br F' w' os' (cs.map X) us:=λcs us h=>
    DZ (by simp[BY h]) λi x u hx hu=>by
      simp only[ji,jo]at hx;obtain⟨y,hy,rfl⟩:=hx;obtain⟨u',qV,qF⟩:=CN h i y hy;rw[qV]at hu;cases hu;exact h0 _ _ qF
  intro x v h;cases x with
  | fn f cs=>simp only[two,Ae]at h⊢;obtain⟨us,e,hl⟩:=h;exact⟨us,e,hL _ _ hl⟩
  | agg cs=>simp only[two,Ae]at h⊢;obtain⟨us,e,hl⟩:=h;exact⟨us,e,hL _ _ hl⟩
  | Dp cs=>simp[two,Ae]
  | _=>exact h0 _ _ h
theorem SE {X:AV->AV}{c:AV}{el s:Nat}{ys:List (List AV)}(h0 :∀c,X c=.dv el s ys->c=.dv el s ys)(h:two X c=.dv el s ys):c=.dv el s ys:=by
  cases c<;>simp only[two]at h<;>first|exact h0 _ h|cases h
def simple:AV->Bool
  | .own ..|.ptr ..|.fn ..|.agg _|.Dp _|.dv ..=>false
  | _=>true
def Ed:AV->Bool
  | .dv ..=>true
  | c=>simple c
def YG:AV->Bool
  | .fn _ cs|.agg cs=>cs.all simple
  | c=>simple c
def flat:AV->Bool
  | .own ..|.ptr ..|.dv ..=>false
  | .fn _ cs|.agg cs=>cs.all simple
  | .Dp cs=>cs.all YG
  | _=>true
theorem FZ {x:AV}{v:Value}(h:simple x=true)(os':List Own)(hr:Ae F w os x v):Ae F w os' x v:=by
  cases x<;>simp only[simple,jk]at h<;>simp only[Ae]at hr⊢<;>exact hr
theorem YC {x:AV}{v:Value}(h:Ed x=true)(os':List Own)(hr:Ae F w os x v):Ae F w os' x v:=by
  cases x with
  | dv=>simpa [Ae] using hr
  | _=>exact FZ (by simpa [Ed] using h) os' hr
theorem Of {c:AV}(h:simple c=true):Ed c=true:=by cases c<;>simp_all [simple,Ed]
theorem Lv {xs:List AV}{us:List Value}(h:xs.all simple=true)(os':List Own)(hr:Br F w os xs us):Br F w os' xs us:=
  DZ (BY hr) λi x u hx hu=>by
    obtain⟨u',e1,e2⟩:=CN hr i x hx;rw[hu]at e1;cases e1;exact FZ (jq.1 h x (je hx)) os' e2
theorem Zo {x:AV}{v:Value}(h:YG x=true)(os':List Own)(hr:Ae F w os x v):Ae F w os' x v:=by
  cases x with
  | fn f cs=>simp only[Ae]at hr⊢;obtain⟨us,e,hl⟩:=hr;exact⟨us,e,Lv h os' hl⟩
  | agg cs=>simp only[Ae]at hr⊢;obtain⟨us,e,hl⟩:=hr;exact⟨us,e,Lv h os' hl⟩
  | _=>exact FZ (by simpa [YG] using h) os' hr
theorem Y7 {xs:List AV}{us:List Value}(h:xs.all YG=true)(os':List Own)(hr:Br F w os xs us):Br F w os' xs us:=
  DZ (BY hr) λi x u hx hu=>by
    obtain⟨u',e1,e2⟩:=CN hr i x hx;rw[hu]at e1;cases e1;exact Zo (jq.1 h x (je hx)) os' e2
theorem JX {x:AV}{v:Value}(h:flat x=true)(os':List Own)(hr:Ae F w os x v):Ae F w os' x v:=by
  cases x with
  | own=>simp[flat]at h
  | ptr=>simp[flat]at h
  | dv=>simp[flat]at h
  | fn f cs=>simp only[Ae]at hr⊢;obtain⟨us,e,hl⟩:=hr;exact⟨us,e,Lv h os' hl⟩
  | agg cs=>simp only[Ae]at hr⊢;obtain⟨us,e,hl⟩:=hr;exact⟨us,e,Lv h os' hl⟩
  | Dp cs=>simp only[Ae]at hr⊢;obtain⟨us,e,hl⟩:=hr;exact⟨us,e,Y7 h os' hl⟩
  | _=>exact FZ rfl os' hr
theorem RL {xs:List AV}{us:List Value}(h:xs.all flat=true)(os':List Own)(hr:Br F w os xs us):Br F w os' xs us:=
  DZ (BY hr) λi x u hx hu=>by
    obtain⟨u',e1,e2⟩:=CN hr i x hx;rw[hu]at e1;cases e1;exact JX (jq.1 h x (je hx)) os' e2
theorem G4.nil (hold :∀b,F b->b<w.heap.size):G4 F [] [] w:=⟨rfl,by simp,by simp,hold⟩
theorem Rel.after (hr:Rel F os s a w){F':Nat->Prop}{w':World}{pU:List Own}(he:Ext F [] w F' pU w' 0)(hold :∀b,F' b->b<w'.heap.size):
    Rel F' os s a w'/\Ext F os w F' os w' k/\(∀x v,Ae F w os x v->Ae F' w' os x v)/\∀(i:Nat) (o:Own),os[i]?=some o->∀b,o.owns b->∀o1:Own,o1∈pU->¬ o1.owns b:=by
  have oh:∀x v,Ae F w os x v->Ae F' w' os x v:=λx v h=>DU he.NB he.IJ os os (FH.refl os) x v h;have rJ:∀(i:Nat) (o:Own),os[i]?=some o->∀b,o.owns b->w'.heap[b]?=w.heap[b]?/\¬ F' b/\∀o1:Own,o1∈pU->¬ o1.owns b:=λi o ho b hb=>
    he.other b ((hr.rows i o ho).lt hb) ((hr.rows i o ho).nF hb) (by simp)
  refine⟨⟨hr.st,λi=>oh _ _ (hr.env i),hr.size,λi o ho=>?_,hr.inj,hold,hr.defers⟩,⟨he.sys,he.tape,he.output,he.size,he.NB,he.IJ,λb hb h1 h2=>?_,λi o _ ho=>⟨o,ho,jv _,rfl,λ_=>⟨rfl,rfl,rfl⟩⟩⟩,oh,λi o ho b hb=>(rJ i o ho b hb).2.2⟩
  · have ob:=hr.rows i o ho;refine⟨ob.pos,ob.lens,ob.none,λb hb=>?_,λb hb=>⟨(rJ i o ho b (.inr hb)).2.1,ke (ob.mo b hb).2.1 he.size,(ob.mo b hb).2.2⟩,
      ob.deep.keep rfl (λ_ h=>h) rfl (λb hb=>(rJ i o ho b hb).1) (λi x j e s ys hx hc=>⟨x,hx,hc⟩)⟩
    obtain⟨h1,cur,h2,h3,h4,h5,h6⟩:=ob.some b hb;obtain⟨e1,e2,_⟩:=rJ i o ho b (.inl hb);exact⟨e2,cur,by rw[e1];exact h2,h3,h4,h5,λi' x hx j c hc=>by
      obtain⟨u,f1,f2⟩:=h6 i' x hx j c hc;exact⟨u,f1,oh _ _ f2⟩⟩
  · obtain⟨e1,e2,_⟩:=he.other b hb h1 (by simp);exact⟨e1,e2,h2⟩
theorem UI {f:FuncId}{args:List AV}{d:Option Tmp}{K:St->Prop}{v:AV}(h:Ab P f args [] λr st'=>r=v/\st'=[])(hf:args.all flat=true)(hv:flat v=true)(hK:K (s.put d v)):callThen P k s f args d K:=by
  intro F os a w vs hr hl;refine (h F [] w vs (G4.nil hr.FR) (RL hf [] hl)).mono ?_;rintro e w' ⟨u,r,st',F',os',rfl,⟨rfl,rfl⟩,hs,hru,he⟩;have pd:os'=[]:=by have:=hs.st;simpa using this
  subst pd;obtain⟨h1,h2,_⟩:=hr.after (k:=k) he hs.FR;exact⟨u,r,s.st,F',os,rfl,hK,h1,JX hv os hru,h2⟩
def Yl (P:Program)(o:Oper)(s:St)(v:AV):Prop:=
  ∀(k:Nat) (F:Nat->Prop) (os:List Own) (a:Act) (w:World),Rel F os s a w->∀(next:Act->World->Prop) (Q:Exit->Act->World->Prop),
    (∀a' w',Step k s.n F os w (·=s.put o.dst v) a' w'->next a' w')->o.wp P a w next Q
def gb (P:Program)(o:Oper)(s:St)(K:AV->Prop):Prop:=
  ∃v,(∀s0:St,s0.st=s.st->(∀x∈o.op.operands,s0.ev x=s.ev x)->DC s0.n o.dst=true->Yl P o s0 v)/\K v
def Kd (P:Program)(o:Oper)(s:St)(K:AV->Prop):Prop:=
  if Jt o.op then gb P o s K else JU P s o.op K
theorem Ye {op:Op}{K:AV->Prop}(h:JU P s op K):∃v,K v/\JU P s op (·=v):=by
  unfold JU at h⊢;split at h
  case h_1=>exact⟨_,h,rfl⟩
  case h_2=>exact⟨_,h,rfl⟩
  case h_3=>
    unfold Pj at h⊢;split at h
    · exact⟨_,h,rfl⟩
    · rename_i t _ _;cases t
      · exact⟨_,h.2 rfl,by simp⟩
      · exact⟨_,h.1 rfl,by simp⟩
    · exact h.elim
  case h_4=>
    unfold W7 at h⊢;split at h
    · obtain⟨row,h1,h2,h3⟩:=BN h;exact⟨_,h3,Ap row h1 ⟨h2,rfl⟩⟩
    · exact⟨_,h,rfl⟩
    · exact h.elim
  case h_5 op t x y _=>
    unfold Um at h⊢;split at h
    · obtain⟨h1,h⟩:=h;cases op<;>simp only[Yx]at h⊢<;>first|exact h.elim|exact⟨_,h,h1,rfl⟩|exact⟨_,h.2,h1,h.1,rfl⟩
    · obtain⟨h1,h⟩:=h;split at h
      · exact⟨_,h,h1,rfl⟩
      · exact⟨_,h,h1,rfl⟩
      · exact h.elim
    · exact h.elim
  case h_6=>
    unfold bj at h⊢;split at h
    · exact⟨_,h,rfl⟩
    · exact⟨_,h,rfl⟩
    · exact h.elim
  case h_7=>
    unfold Vh at h⊢;split at h
    · exact⟨_,h,rfl⟩
    · exact h.elim
  case h_8 t p=>
    obtain⟨ti,h1,h⟩:=BN h;have part:∀{x:List AV} {off:Nat},Kk ti.1 ti.2 x off K->∃v,K v/\Kk ti.1 ti.2 x off (·=v):=λ{x off} h=>by
      unfold Kk at h⊢;split at h
      · rename_i hh;exact⟨_,h.2,by rw[jm hh];exact⟨h.1,rfl⟩⟩
      · rename_i hh;obtain⟨c,e1,e2⟩:=BN h;exact⟨c,e2,by rw[jn hh];exact Ap c e1 rfl⟩
    unfold PV;generalize s.ev p=pv at h⊢;cases pv with
    | ptr id g i off=>
      obtain⟨row,e1,e2,h⟩:=BN h;obtain⟨x,e3,h⟩:=BN h;obtain⟨v,hv,h⟩:=part h;exact⟨v,hv,Ap ti h1 (Ap row e1 ⟨e2,Ap x e3 h⟩)⟩
    | Bh x off=>
      obtain⟨v,hv,h⟩:=part h;exact⟨v,hv,Ap ti h1 h⟩
    | _=>exact h.elim
  case h_9 t x f=>
    obtain⟨o,h1,h⟩:=BN h;unfold LI;generalize s.ev x=pv at h⊢;cases pv with
    | ptr id g i off=>
      obtain⟨row,e1,e2,e3,h⟩:=BN h;exact⟨_,h,Ap o h1 (Ap row e1 ⟨e2,e3,rfl⟩)⟩
    | Bh x off=>exact⟨_,h,Ap o h1 rfl⟩
    | _=>exact h.elim
  case h_10=>
    unfold Ml at h⊢;split at h
    · obtain⟨g,e1,h⟩:=BN h;obtain⟨ti,e2,h⟩:=BN h;unfold Kk at h;split at h
      · rename_i hh;exact⟨_,h.2,Ap g e1 (Ap ti e2 (by unfold Kk;rw[jm hh];exact⟨h.1,rfl⟩))⟩
      · rename_i hh;obtain⟨c,f1,f2⟩:=BN h;exact⟨c,f2,Ap g e1 (Ap ti e2 (by unfold Kk;rw[jn hh];exact Ap c f1 rfl))⟩
    · exact h.elim
  case h_11 t x i=>
    obtain⟨ei,e1,h⟩:=BN h;unfold JB;generalize s.ev x=xv at h⊢;generalize s.ev i=iv at h⊢;cases xv with
    | own id g n=>
      cases iv with
      | int kk j=>
        obtain⟨h1,h2,h⟩:=h;obtain⟨row,e2,e3,e4,h⟩:=BN h;exact⟨_,h,Ap ei e1 ⟨h1,h2,Ap row e2 ⟨e3,e4,rfl⟩⟩⟩
      | _=>exact h.elim
    | sl xs=>
      cases iv with
      | int kk j=>
        obtain⟨h1,h⟩:=h;obtain⟨y,e2,e3,h⟩:=BN h;exact⟨_,h,Ap ei e1 ⟨h1,Ap y e2 ⟨e3,rfl⟩⟩⟩
      | _=>exact h.elim
    | _=>exact h.elim
  case h_12=>
    unfold Pq at h⊢;split at h
    · obtain⟨c,f1,f2⟩:=BN h;exact⟨c,f2,Ap c f1 rfl⟩
    · exact h.elim
  case h_13=>
    obtain⟨h1,h⟩:=h;obtain⟨fs,e1,h⟩:=BN h;obtain⟨z,e2,h⟩:=BN h;obtain⟨cs,e3,h⟩:=BN h;exact⟨_,h,h1,Ap fs e1 (Ap z e2 (Ap cs e3 rfl))⟩
  case h_14=>exact⟨_,h.2,h.1,rfl⟩
  case h_15=>
    split at h
    · obtain⟨h1,h⟩:=h;unfold bI at h⊢;split at h
      · obtain⟨row,e1,e2,h⟩:=BN h;exact⟨_,h,h1,Ap row e1 ⟨e2,rfl⟩⟩
      · exact⟨_,h,h1,rfl⟩
      · exact⟨_,h,h1,rfl⟩
      · exact h.elim
    · exact h.elim
  case h_16=>
    split at h
    · unfold au at h⊢;split at h
      · exact⟨_,h,rfl⟩
      · exact h.elim
    · exact h.elim
  case h_17=>
    split at h
    · unfold bE at h⊢;split at h
      · exact⟨_,h,rfl⟩
      · exact h.elim
    · exact h.elim
  case h_18=>exact h.elim
theorem U9 {o:Oper}{K:AV->Prop}(h:Kd P o s K):∃v,K v/\Kd P o s (·=v):=by
  unfold Kd at h⊢;split at h
  · rename_i hc;simp only[hc,kO];obtain⟨v,h1,h2⟩:=h;exact⟨v,h2,v,h1,rfl⟩
  · rename_i hc;simp only[hc,jk,kH];exact Ye h
theorem UY {s:St}{d:Option Tmp}{v:AV}{x:Operand}(h :∀t,d=some t->x≠.tmp t):(s.put d v).ev x=s.ev x:=by
  cases d with
  | none=>rfl
  | some d=>
    cases x with
    | tmp t=>
      have pN:t≠d:=λe=>h d rfl (e▸rfl);simp[St.ev,St.put,EC,pN]
    | _=>rfl
theorem put_comm (s:St){x y:Option Tmp}(v u:AV)(h :∀d,x=some d->y≠some d):(s.put x v).put y u=(s.put y u).put x v:=by
  cases x with
  | none=>rfl
  | some d=>
    cases y with
    | none=>rfl
    | some e=>
      have pN:d≠e:=λhe=>h d rfl (he▸rfl);simp only[St.put,St.mk.injEq,true_and,and_true];funext t;simp only[EC];by_cases h1:t=d
      · subst h1;simp[pN]
      · by_cases h2:t=e
        · subst h2;simp[h1]
        · simp[h1,h2]
theorem bT (s:St)(d:Option Tmp)(v:AV):(s.put d v).st=s.st:=by cases d<;>rfl
theorem N8 {s s':St}{o:Oper}{K:AV->Prop}(pI:s'.st=s.st)(h :∀x∈o.op.operands,s'.ev x=s.ev x)(hd:Kd P o s K):Kd P o s' K:=by
  unfold Kd at hd⊢;split at hd
  · rename_i hc;simp only[hc,kO];obtain⟨v,h1,h2⟩:=hd;exact⟨v,λs0 e1 e2 e3=>h1 s0 (e1.trans pI) (λx hx=>(e2 x hx).trans (h x hx)) e3,h2⟩
  rename_i hc;simp only[hc,jk,kH];obtain⟨dst,op,ty,pos,after,guard⟩:=o;simp only at h hd hc⊢;have yp:∀args:Array Operand,(∀x∈args,s'.ev x=s.ev x)->args.toList.map s'.ev=args.toList.map s.ev:=λargs ha=>kM λx hx=>ha x (by simpa using hx);have xC:∀parts:Array (Nat×Operand),(∀p∈parts,s'.ev p.2=s.ev p.2)->(parts.toList.map λp=>(p.1,s'.ev p.2))=parts.toList.map λp=>(p.1,s.ev p.2):=λparts hp=>kM λp hx=>by rw[hp p (by simpa using hx)]
  cases op
  case call c=>
    obtain⟨callee,args,types⟩:=c;cases callee with
    | value f=>exact absurd rfl hc
    | invoke r m=>exact hd
    | builtin b=>
      have ha:∀x∈args,s'.ev x=s.ev x:=λx hx=>h x (by simp[Op.operands,Call.operands,hx]);cases b<;>simp only[JU]at hd⊢<;>first
        | exact hd
        | (split at hd
           · rename_i h1 h2;have hx:=ha _ (by rw[<- nB,h1];exact ld);rw[hx,pI];exact hd
           · exact hd.elim)
        | (split at hd
           · rename_i x y h1;have hx:=ha x (by rw[<- nB,h1];simp);have hy:=ha y (by rw[<- nB,h1];simp);rw[hx,hy];exact hd
           · exact hd.elim)
  case build t parts=>
    simp only[JU]at hd⊢;rw[xC parts (λp hp=>h p.2 (by simp only[Op.operands,na,kC];exact⟨p,by simpa using hp,rfl⟩))];exact hd
  case makeFunc fn first pc=>
    cases fn<;>simp only[JU]at hd⊢<;>try exact hd
    rw[yp pc (λx hx=>h x (by simp[Op.operands,hx]))];exact hd
  all_goals simp only[JU,Op.operands,na,js,kN,kx,forall_eq_or_imp,forall_eq]at hd h⊢
  all_goals first
    | exact hd
    | (rw[h,pI];exact hd)
    | (rw[h];exact hd)
    | (rw[h.1,h.2,pI];exact hd)
    | (rw[h.1,h.2];exact hd)
    | (rw[h.1,h.2.1,h.2.2];exact hd)
end Go.Abs
