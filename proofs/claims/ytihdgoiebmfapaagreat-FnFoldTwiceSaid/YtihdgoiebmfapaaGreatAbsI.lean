import Derived.Test.YtihdgoiebmfapaaGreatAbsH
namespace Go.Abs
open Go
variable {P : Program} {F : Nat -> Prop} {os : List Own} {s : St} {a : Act} {w : World} {k : Nat}
def two (X:AV->AV):AV->AV
  | .fn f cs=>.fn f (cs.map X)
  | .agg cs=>.agg (cs.map X)
  | .Dw _=>.E2
  | v=>X v
theorem LH {F F':Nat->Prop}{w w':World}{os os':List Own}{X:AV->AV}(h0 :∀x v,Ae F w os x v->Ae F' w' os' (X x) v):∀x v,Ae F w os x v->Ae F' w' os' (two X x) v:=by
  have hL:∀cs us,Br F w os cs us->Br F' w' os' (cs.map X) us:=λcs us h=>
    DZ (by simp[BY h]) λi x u hx hu=>by
      simp only[ji,jo]at hx;obtain⟨y,hy,rfl⟩:=hx;obtain⟨u',hu',hr'⟩:=CN h i y hy;rw[hu']at hu;cases hu;exact h0 _ _ hr'
  intro x v h;cases x with
  | fn f cs=>simp only[two,Ae]at h⊢;obtain⟨us,e,hl⟩:=h;exact⟨us,e,hL _ _ hl⟩
  | agg cs=>simp only[two,Ae]at h⊢;obtain⟨us,e,hl⟩:=h;exact⟨us,e,hL _ _ hl⟩
  | Dw cs=>simp[two,Ae]
  | _=>exact h0 _ _ h
theorem Rn {X:AV->AV}{c:AV}{el s:Nat}{ys:List (List AV)}(h0 :∀c,X c=.dv el s ys->c=.dv el s ys)(h:two X c=.dv el s ys):c=.dv el s ys:=by
  cases c<;>simp only[two]at h<;>first|exact h0 _ h|cases h
def simple:AV->Bool
  | .own ..|.ptr ..|.fn ..|.agg _|.Dw _|.dv ..=>false
  | _=>true
def EY:AV->Bool
  | .dv ..=>true
  | c=>simple c
def X2:AV->Bool
  | .fn _ cs|.agg cs=>cs.all simple
  | c=>simple c
def flat:AV->Bool
  | .own ..|.ptr ..|.dv ..=>false
  | .fn _ cs|.agg cs=>cs.all simple
  | .Dw cs=>cs.all X2
  | _=>true
theorem Fc {x:AV}{v:Value}(h:simple x=true)(os':List Own)(hr:Ae F w os x v):Ae F w os' x v:=by
  cases x<;>simp only[simple,jk]at h<;>simp only[Ae]at hr⊢<;>exact hr
theorem X6 {x:AV}{v:Value}(h:EY x=true)(os':List Own)(hr:Ae F w os x v):Ae F w os' x v:=by
  cases x with
  | dv=>simpa [Ae] using hr
  | _=>exact Fc (by simpa [EY] using h) os' hr
theorem Od {c:AV}(h:simple c=true):EY c=true:=by cases c<;>simp_all [simple,EY]
theorem Lx {xs:List AV}{us:List Value}(h:xs.all simple=true)(os':List Own)(hr:Br F w os xs us):Br F w os' xs us:=
  DZ (BY hr) λi x u hx hu=>by
    obtain⟨u',e1,e2⟩:=CN hr i x hx;rw[hu]at e1;cases e1;exact Fc (jq.1 h x (je hx)) os' e2
theorem aM {x:AV}{v:Value}(h:X2 x=true)(os':List Own)(hr:Ae F w os x v):Ae F w os' x v:=by
  cases x with
  | fn f cs=>simp only[Ae]at hr⊢;obtain⟨us,e,hl⟩:=hr;exact⟨us,e,Lx h os' hl⟩
  | agg cs=>simp only[Ae]at hr⊢;obtain⟨us,e,hl⟩:=hr;exact⟨us,e,Lx h os' hl⟩
  | _=>exact Fc (by simpa [X2] using h) os' hr
theorem Y9 {xs:List AV}{us:List Value}(h:xs.all X2=true)(os':List Own)(hr:Br F w os xs us):Br F w os' xs us:=
  DZ (BY hr) λi x u hx hu=>by
    obtain⟨u',e1,e2⟩:=CN hr i x hx;rw[hu]at e1;cases e1;exact aM (jq.1 h x (je hx)) os' e2
theorem JP {x:AV}{v:Value}(h:flat x=true)(os':List Own)(hr:Ae F w os x v):Ae F w os' x v:=by
  cases x with
  | own=>simp[flat]at h
  | ptr=>simp[flat]at h
  | dv=>simp[flat]at h
  | fn f cs=>simp only[Ae]at hr⊢;obtain⟨us,e,hl⟩:=hr;exact⟨us,e,Lx h os' hl⟩
  | agg cs=>simp only[Ae]at hr⊢;obtain⟨us,e,hl⟩:=hr;exact⟨us,e,Lx h os' hl⟩
  | Dw cs=>simp only[Ae]at hr⊢;obtain⟨us,e,hl⟩:=hr;exact⟨us,e,Y9 h os' hl⟩
  | _=>exact Fc rfl os' hr
theorem RK {xs:List AV}{us:List Value}(h:xs.all flat=true)(os':List Own)(hr:Br F w os xs us):Br F w os' xs us:=
  DZ (BY hr) λi x u hx hu=>by
    obtain⟨u',e1,e2⟩:=CN hr i x hx;rw[hu]at e1;cases e1;exact JP (jq.1 h x (je hx)) os' e2
theorem G4.nil (hold :∀b,F b->b<w.heap.size):G4 F [] [] w:=⟨rfl,by simp,by simp,hold⟩
theorem Rel.after (hr:Rel F os s a w){F':Nat->Prop}{w':World}{os1:List Own}(he:Ext F [] w F' os1 w' 0)(hold :∀b,F' b->b<w'.heap.size):
    Rel F' os s a w'/\Ext F os w F' os w' k/\(∀x v,Ae F w os x v->Ae F' w' os x v)/\∀(i:Nat) (o:Own),os[i]?=some o->∀b,o.owns b->∀o1:Own,o1∈os1->¬ o1.owns b:=by
  have hmono:∀x v,Ae F w os x v->Ae F' w' os x v:=λx v h=>DV he.Mr he.II os os (FH.refl os) x v h;have hoth:∀(i:Nat) (o:Own),os[i]?=some o->∀b,o.owns b->w'.heap[b]?=w.heap[b]?/\¬ F' b/\∀o1:Own,o1∈os1->¬ o1.owns b:=λi o ho b hb=>
    he.other b ((hr.rows i o ho).lt hb) ((hr.rows i o ho).nF hb) (by simp)
  refine⟨⟨hr.st,λi=>hmono _ _ (hr.env i),hr.size,λi o ho=>?_,hr.inj,hold,hr.defers⟩,⟨he.sys,he.tape,he.output,he.size,he.Mr,he.II,λb hb h1 h2=>?_,λi o _ ho=>⟨o,ho,jv _,rfl,λ_=>⟨rfl,rfl,rfl⟩⟩⟩,hmono,λi o ho b hb=>(hoth i o ho b hb).2.2⟩
  · have hok:=hr.rows i o ho;refine⟨hok.pos,hok.lens,hok.none,λb hb=>?_,λb hb=>⟨(hoth i o ho b (.inr hb)).2.1,ke (hok.mo b hb).2.1 he.size,(hok.mo b hb).2.2⟩,
      hok.deep.keep rfl (λ_ h=>h) rfl (λb hb=>(hoth i o ho b hb).1) (λi x j e s ys hx hc=>⟨x,hx,hc⟩)⟩
    obtain⟨h1,cur,h2,h3,h4,h5,h6⟩:=hok.some b hb;obtain⟨e1,e2,_⟩:=hoth i o ho b (.inl hb);exact⟨e2,cur,by rw[e1];exact h2,h3,h4,h5,λi' x hx j c hc=>by
      obtain⟨u,f1,f2⟩:=h6 i' x hx j c hc;exact⟨u,f1,hmono _ _ f2⟩⟩
  · obtain⟨e1,e2,_⟩:=he.other b hb h1 (by simp);exact⟨e1,e2,h2⟩
theorem T1 {f:FuncId}{args:List AV}{d:Option Tmp}{K:St->Prop}{v:AV}(h:Ab P f args [] λr st'=>r=v/\st'=[])(hf:args.all flat=true)(hv:flat v=true)(hK:K (s.put d v)):callThen P k s f args d K:=by
  intro F os a w vs hr hl;refine (h F [] w vs (G4.nil hr.FT) (RK hf [] hl)).mono ?_;rintro e w' ⟨u,r,st',F',os',rfl,⟨rfl,rfl⟩,hs,hru,he⟩;have hos:os'=[]:=by have:=hs.st;simpa using this
  subst hos;obtain⟨h1,h2,_⟩:=hr.after (k:=k) he hs.FT;exact⟨u,r,s.st,F',os,rfl,hK,h1,JP hv os hru,h2⟩
def Yl (P:Program)(o:Oper)(s:St)(v:AV):Prop:=
  ∀(k:Nat) (F:Nat->Prop) (os:List Own) (a:Act) (w:World),Rel F os s a w->∀(next:Act->World->Prop) (Q:Exit->Act->World->Prop),
    (∀a' w',Step k s.n F os w (·=s.put o.dst v) a' w'->next a' w')->o.wp P a w next Q
def gT (P:Program)(o:Oper)(s:St)(K:AV->Prop):Prop:=
  ∃v,(∀s0:St,s0.st=s.st->(∀x∈o.op.operands,s0.ev x=s.ev x)->DC s0.n o.dst=true->Yl P o s0 v)/\K v
def Kj (P:Program)(o:Oper)(s:St)(K:AV->Prop):Prop:=
  if Jq o.op then gT P o s K else JV P s o.op K
theorem ZM {op:Op}{K:AV->Prop}(h:JV P s op K):∃v,K v/\JV P s op (·=v):=by
  unfold JV at h⊢;split at h
  case h_1=>exact⟨_,h,rfl⟩
  case h_2=>exact⟨_,h,rfl⟩
  case h_3=>
    unfold Pa at h⊢;split at h
    · exact⟨_,h,rfl⟩
    · rename_i t _ _;cases t
      · exact⟨_,h.2 rfl,by simp⟩
      · exact⟨_,h.1 rfl,by simp⟩
    · exact h.elim
  case h_4=>
    unfold W6 at h⊢;split at h
    · obtain⟨row,h1,h2,h3⟩:=BN h;exact⟨_,h3,Ap row h1 ⟨h2,rfl⟩⟩
    · exact⟨_,h,rfl⟩
    · exact h.elim
  case h_5 op t x y _=>
    unfold Vf at h⊢;split at h
    · obtain⟨h1,h⟩:=h;cases op<;>simp only[Yp]at h⊢<;>first|exact h.elim|exact⟨_,h,h1,rfl⟩|exact⟨_,h.2,h1,h.1,rfl⟩
    · obtain⟨h1,h⟩:=h;split at h
      · exact⟨_,h,h1,rfl⟩
      · exact⟨_,h,h1,rfl⟩
      · exact h.elim
    · exact h.elim
  case h_6=>
    unfold cI at h⊢;split at h
    · exact⟨_,h,rfl⟩
    · exact⟨_,h,rfl⟩
    · exact h.elim
  case h_7=>
    unfold VJ at h⊢;split at h
    · exact⟨_,h,rfl⟩
    · exact h.elim
  case h_8 t p=>
    obtain⟨ti,h1,h⟩:=BN h;have part:∀{x:List AV} {off:Nat},Kp ti.1 ti.2 x off K->∃v,K v/\Kp ti.1 ti.2 x off (·=v):=λ{x off} h=>by
      unfold Kp at h⊢;split at h
      · rename_i hh;exact⟨_,h.2,by rw[jm hh];exact⟨h.1,rfl⟩⟩
      · rename_i hh;obtain⟨c,e1,e2⟩:=BN h;exact⟨c,e2,by rw[jn hh];exact Ap c e1 rfl⟩
    unfold PZ;generalize s.ev p=pv at h⊢;cases pv with
    | ptr id g i off=>
      obtain⟨row,e1,e2,h⟩:=BN h;obtain⟨x,e3,h⟩:=BN h;obtain⟨v,hv,h⟩:=part h;exact⟨v,hv,Ap ti h1 (Ap row e1 ⟨e2,Ap x e3 h⟩)⟩
    | Bh x off=>
      obtain⟨v,hv,h⟩:=part h;exact⟨v,hv,Ap ti h1 h⟩
    | _=>exact h.elim
  case h_9 t x f=>
    obtain⟨o,h1,h⟩:=BN h;unfold Ky;generalize s.ev x=pv at h⊢;cases pv with
    | ptr id g i off=>
      obtain⟨row,e1,e2,e3,h⟩:=BN h;exact⟨_,h,Ap o h1 (Ap row e1 ⟨e2,e3,rfl⟩)⟩
    | Bh x off=>exact⟨_,h,Ap o h1 rfl⟩
    | _=>exact h.elim
  case h_10=>
    unfold Mw at h⊢;split at h
    · obtain⟨g,e1,h⟩:=BN h;obtain⟨ti,e2,h⟩:=BN h;unfold Kp at h;split at h
      · rename_i hh;exact⟨_,h.2,Ap g e1 (Ap ti e2 (by unfold Kp;rw[jm hh];exact⟨h.1,rfl⟩))⟩
      · rename_i hh;obtain⟨c,f1,f2⟩:=BN h;exact⟨c,f2,Ap g e1 (Ap ti e2 (by unfold Kp;rw[jn hh];exact Ap c f1 rfl))⟩
    · exact h.elim
  case h_11 t x i=>
    obtain⟨ei,e1,h⟩:=BN h;unfold I7;generalize s.ev x=xv at h⊢;generalize s.ev i=iv at h⊢;cases xv with
    | own id g n=>
      cases iv with
      | int kk j=>
        obtain⟨h1,h2,h⟩:=h;obtain⟨row,e2,e3,e4,h⟩:=BN h;exact⟨_,h,Ap ei e1 ⟨h1,h2,Ap row e2 ⟨e3,e4,rfl⟩⟩⟩
      | _=>exact h.elim
    | sl xs=>
      cases iv with
      | int kk j=>
        obtain⟨h1,h⟩:=h;obtain⟨y,e2,e3,h⟩:=BN h;exact⟨_,h,Ap ei e1 ⟨h1,Ap y e2 ⟨e3,rfl⟩⟩⟩
      | _=>exact h.elim
    | _=>exact h.elim
  case h_12=>
    unfold Pt at h⊢;split at h
    · obtain⟨c,f1,f2⟩:=BN h;exact⟨c,f2,Ap c f1 rfl⟩
    · exact h.elim
  case h_13=>
    obtain⟨h1,h⟩:=h;obtain⟨fs,e1,h⟩:=BN h;obtain⟨z,e2,h⟩:=BN h;obtain⟨cs,e3,h⟩:=BN h;exact⟨_,h,h1,Ap fs e1 (Ap z e2 (Ap cs e3 rfl))⟩
  case h_14=>exact⟨_,h.2,h.1,rfl⟩
  case h_15=>
    split at h
    · obtain⟨h1,h⟩:=h;unfold bB at h⊢;split at h
      · obtain⟨row,e1,e2,h⟩:=BN h;exact⟨_,h,h1,Ap row e1 ⟨e2,rfl⟩⟩
      · exact⟨_,h,h1,rfl⟩
      · exact⟨_,h,h1,rfl⟩
      · exact h.elim
    · exact h.elim
  case h_16=>
    split at h
    · unfold bH at h⊢;split at h
      · exact⟨_,h,rfl⟩
      · exact h.elim
    · exact h.elim
  case h_17=>
    split at h
    · unfold bA at h⊢;split at h
      · exact⟨_,h,rfl⟩
      · exact h.elim
    · exact h.elim
  case h_18=>exact h.elim
theorem Vr {o:Oper}{K:AV->Prop}(h:Kj P o s K):∃v,K v/\Kj P o s (·=v):=by
  unfold Kj at h⊢;split at h
  · rename_i hc;simp only[hc,kO];obtain⟨v,h1,h2⟩:=h;exact⟨v,h2,v,h1,rfl⟩
  · rename_i hc;simp only[hc,jk,kH];exact ZM h
theorem Ub {s:St}{d:Option Tmp}{v:AV}{x:Operand}(h :∀t,d=some t->x≠.tmp t):(s.put d v).ev x=s.ev x:=by
  cases d with
  | none=>rfl
  | some d=>
    cases x with
    | tmp t=>
      have hne:t≠d:=λe=>h d rfl (e▸rfl);simp[St.ev,St.put,ED,hne]
    | _=>rfl
theorem put_comm (s:St){x y:Option Tmp}(v u:AV)(h :∀d,x=some d->y≠some d):(s.put x v).put y u=(s.put y u).put x v:=by
  cases x with
  | none=>rfl
  | some d=>
    cases y with
    | none=>rfl
    | some e=>
      have hne:d≠e:=λhe=>h d rfl (he▸rfl);simp only[St.put,St.mk.injEq,true_and,and_true];funext t;simp only[ED];by_cases h1:t=d
      · subst h1;simp[hne]
      · by_cases h2:t=e
        · subst h2;simp[h1]
        · simp[h1,h2]
theorem bI (s:St)(d:Option Tmp)(v:AV):(s.put d v).st=s.st:=by cases d<;>rfl
theorem OC {s s':St}{o:Oper}{K:AV->Prop}(hst:s'.st=s.st)(h :∀x∈o.op.operands,s'.ev x=s.ev x)(hd:Kj P o s K):Kj P o s' K:=by
  unfold Kj at hd⊢;split at hd
  · rename_i hc;simp only[hc,kO];obtain⟨v,h1,h2⟩:=hd;exact⟨v,λs0 e1 e2 e3=>h1 s0 (e1.trans hst) (λx hx=>(e2 x hx).trans (h x hx)) e3,h2⟩
  rename_i hc;simp only[hc,jk,kH];obtain⟨dst,op,ty,pos,after,guard⟩:=o;simp only at h hd hc⊢;have hlist:∀args:Array Operand,(∀x∈args,s'.ev x=s.ev x)->args.toList.map s'.ev=args.toList.map s.ev:=λargs ha=>kM λx hx=>ha x (by simpa using hx);have hparts:∀parts:Array (Nat×Operand),(∀p∈parts,s'.ev p.2=s.ev p.2)->(parts.toList.map λp=>(p.1,s'.ev p.2))=parts.toList.map λp=>(p.1,s.ev p.2):=λparts hp=>kM λp hx=>by rw[hp p (by simpa using hx)]
  cases op
  case call c=>
    obtain⟨callee,args,types⟩:=c;cases callee with
    | value f=>exact absurd rfl hc
    | invoke r m=>exact hd
    | builtin b=>
      have ha:∀x∈args,s'.ev x=s.ev x:=λx hx=>h x (by simp[Op.operands,Call.operands,hx]);cases b<;>simp only[JV]at hd⊢<;>first
        | exact hd
        | (split at hd
           · rename_i h1 h2;have hx:=ha _ (by rw[<- nB,h1];exact ld);rw[hx,hst];exact hd
           · exact hd.elim)
        | (split at hd
           · rename_i x y h1;have hx:=ha x (by rw[<- nB,h1];simp);have hy:=ha y (by rw[<- nB,h1];simp);rw[hx,hy];exact hd
           · exact hd.elim)
  case build t parts=>
    simp only[JV]at hd⊢;rw[hparts parts (λp hp=>h p.2 (by simp only[Op.operands,na,kC];exact⟨p,by simpa using hp,rfl⟩))];exact hd
  case makeFunc fn first caps=>
    cases fn<;>simp only[JV]at hd⊢<;>try exact hd
    rw[hlist caps (λx hx=>h x (by simp[Op.operands,hx]))];exact hd
  all_goals simp only[JV,Op.operands,na,js,kN,kx,forall_eq_or_imp,forall_eq]at hd h⊢
  all_goals first
    | exact hd
    | (rw[h,hst];exact hd)
    | (rw[h];exact hd)
    | (rw[h.1,h.2,hst];exact hd)
    | (rw[h.1,h.2];exact hd)
    | (rw[h.1,h.2.1,h.2.2];exact hd)
end Go.Abs
