import Derived.Test.YtccficmcdkcpnaaGreatAbsH
set_option linter.all false
namespace Go.Abs
open Go
variable {P : Program} {F : Nat -> Prop} {os : List Own} {s : St} {a : Act} {w : World} {k : Nat}
def two (X:AV->AV):AV->AV
  | .fn f cs=>.fn f (cs.map X)
  | .agg cs=>.agg (cs.map X)
  | .Dv _=>.FZ
  | v=>X v
theorem Ng {F F':Nat->Prop}{w w':World}{os os':List Own}{X:AV->AV}(h0 :∀x v,Ac F w os x v->Ac F' w' os' (X x) v):∀x v,Ac F w os x v->Ac F' w' os' (two X x) v:=by
  have hL:∀cs us,Bw F w os cs us->Bw F' w' os' (cs.map X) us:=λcs us h=>
    Df (by simp[BW h]) λi x u hx hu=>by
      simp only[qA,qB]at hx;obtain⟨y,hy,rfl⟩:=hx;obtain⟨u',xB,wS⟩:=CJ h i y hy;rw[xB]at hu;cases hu;exact h0 _ _ wS
  intro x v h;cases x with
  | fn f cs=>simp only[two,Ac]at h⊢;obtain⟨us,e,hl⟩:=h;exact⟨us,e,hL _ _ hl⟩
  | agg cs=>simp only[two,Ac]at h⊢;obtain⟨us,e,hl⟩:=h;exact⟨us,e,hL _ _ hl⟩
  | Dv cs=>simp[two,Ac]
  | _=>exact h0 _ _ h
theorem T8 {X:AV->AV}{c:AV}{el s:Nat}{ys:List (List AV)}(h0 :∀c,X c=.dv el s ys->c=.dv el s ys)(h:two X c=.dv el s ys):c=.dv el s ys:=by
  cases c<;>simp only[two]at h<;>first|exact h0 _ h|cases h
def simple:AV->Bool
  | .own ..|.ptr ..|.fn ..|.agg _|.Dv _|.dv ..=>false
  | _=>true
def Ey:AV->Bool
  | .dv ..=>true
  | c=>simple c
def aF:AV->Bool
  | .fn _ cs|.agg cs=>cs.all simple
  | c=>simple c
def flat:AV->Bool
  | .own ..|.ptr ..|.dv ..=>false
  | .fn _ cs|.agg cs=>cs.all simple
  | .Dv cs=>cs.all aF
  | _=>true
theorem Fu {x:AV}{v:Value}(h:simple x=true)(os':List Own)(hr:Ac F w os x v):Ac F w os' x v:=by
  cases x<;>simp only[simple,py]at h<;>simp only[Ac]at hr⊢<;>exact hr
theorem al {x:AV}{v:Value}(h:Ey x=true)(os':List Own)(hr:Ac F w os x v):Ac F w os' x v:=by
  cases x with
  | dv=>simpa [Ac] using hr
  | _=>exact Fu (by simpa [Ey] using h) os' hr
theorem RK {c:AV}(h:simple c=true):Ey c=true:=by cases c<;>simp_all [simple,Ey]
theorem OL {xs:List AV}{us:List Value}(h:xs.all simple=true)(os':List Own)(hr:Bw F w os xs us):Bw F w os' xs us:=
  Df (BW hr) λi x u hx hu=>by
    obtain⟨u',e1,e2⟩:=CJ hr i x hx;rw[hu]at e1;cases e1;exact Fu (qC.1 h x (pt hx)) os' e2
theorem dq {x:AV}{v:Value}(h:aF x=true)(os':List Own)(hr:Ac F w os x v):Ac F w os' x v:=by
  cases x with
  | fn f cs=>simp only[Ac]at hr⊢;obtain⟨us,e,hl⟩:=hr;exact⟨us,e,OL h os' hl⟩
  | agg cs=>simp only[Ac]at hr⊢;obtain⟨us,e,hl⟩:=hr;exact⟨us,e,OL h os' hl⟩
  | _=>exact Fu (by simpa [aF] using h) os' hr
theorem cb {xs:List AV}{us:List Value}(h:xs.all aF=true)(os':List Own)(hr:Bw F w os xs us):Bw F w os' xs us:=
  Df (BW hr) λi x u hx hu=>by
    obtain⟨u',e1,e2⟩:=CJ hr i x hx;rw[hu]at e1;cases e1;exact dq (qC.1 h x (pt hx)) os' e2
theorem J1 {x:AV}{v:Value}(h:flat x=true)(os':List Own)(hr:Ac F w os x v):Ac F w os' x v:=by
  cases x with
  | own=>simp[flat]at h
  | ptr=>simp[flat]at h
  | dv=>simp[flat]at h
  | fn f cs=>simp only[Ac]at hr⊢;obtain⟨us,e,hl⟩:=hr;exact⟨us,e,OL h os' hl⟩
  | agg cs=>simp only[Ac]at hr⊢;obtain⟨us,e,hl⟩:=hr;exact⟨us,e,OL h os' hl⟩
  | Dv cs=>simp only[Ac]at hr⊢;obtain⟨us,e,hl⟩:=hr;exact⟨us,e,cb h os' hl⟩
  | _=>exact Fu rfl os' hr
theorem Te {xs:List AV}{us:List Value}(h:xs.all flat=true)(os':List Own)(hr:Bw F w os xs us):Bw F w os' xs us:=
  Df (BW hr) λi x u hx hu=>by
    obtain⟨u',e1,e2⟩:=CJ hr i x hx;rw[hu]at e1;cases e1;exact J1 (qC.1 h x (pt hx)) os' e2
theorem IY.nil (hold :∀b,F b->b<w.heap.size):IY F [] [] w:=⟨rfl,by simp,by simp,hold⟩
theorem Rel.after (hr:Rel F os s a w){F':Nat->Prop}{w':World}{vo:List Own}(he:Ext F [] w F' vo w' 0)(hold :∀b,F' b->b<w'.heap.size):
    Rel F' os s a w'/\Ext F os w F' os w' k/\(∀x v,Ac F w os x v->Ac F' w' os x v)/\∀(i:Nat) (o:Own),os[i]?=some o->∀b,o.owns b->∀o1:Own,o1∈vo->¬ o1.owns b:=by
  have vL:∀x v,Ac F w os x v->Ac F' w' os x v:=λx v h=>Ds he.RI he.KX os os (F8.refl os) x v h;have zF:∀(i:Nat) (o:Own),os[i]?=some o->∀b,o.owns b->w'.heap[b]?=w.heap[b]?/\¬ F' b/\∀o1:Own,o1∈vo->¬ o1.owns b:=λi o ho b hb=>
    he.other b ((hr.rows i o ho).lt hb) ((hr.rows i o ho).nF hb) (by simp)
  refine⟨⟨hr.st,λi=>vL _ _ (hr.env i),hr.size,λi o ho=>?_,hr.inj,hold,hr.defers⟩,⟨he.sys,he.tape,he.output,he.size,he.RI,he.KX,λb hb h1 h2=>?_,λi o _ ho=>⟨o,ho,qU _,rfl,λ_=>⟨rfl,rfl,rfl⟩⟩⟩,vL,λi o ho b hb=>(zF i o ho b hb).2.2⟩
  · have vF:=hr.rows i o ho;refine⟨vF.pos,vF.lens,vF.none,λb hb=>?_,λb hb=>⟨(zF i o ho b (.inr hb)).2.1,rW (vF.mo b hb).2.1 he.size,(vF.mo b hb).2.2⟩,
      vF.deep.keep rfl (λ_ h=>h) rfl (λb hb=>(zF i o ho b hb).1) (λi x j e s ys hx hc=>⟨x,hx,hc⟩)⟩
    obtain⟨h1,cur,h2,h3,h4,h5,h6⟩:=vF.some b hb;obtain⟨e1,e2,_⟩:=zF i o ho b (.inl hb);exact⟨e2,cur,by rw[e1];exact h2,h3,h4,h5,λi' x hx j c hc=>by
      obtain⟨u,f1,f2⟩:=h6 i' x hx j c hc;exact⟨u,f1,vL _ _ f2⟩⟩
  · obtain⟨e1,e2,_⟩:=he.other b hb h1 (by simp);exact⟨e1,e2,h2⟩
theorem Wp {f:FuncId}{args:List AV}{d:Option Tmp}{K:St->Prop}{v:AV}(h:BS P f args [] λr st'=>r=v/\st'=[])(hf:args.all flat=true)(hv:flat v=true)(hK:K (s.put d v)):callThen P k s f args d K:=by
  intro F os a w vs hr hl;refine (h F [] w vs (IY.nil hr.HO) (Te hf [] hl)).mono ?_;rintro e w' ⟨u,r,st',F',os',rfl,⟨rfl,rfl⟩,hs,hru,he⟩;have vq:os'=[]:=by have:=hs.st;simpa using this
  subst vq;obtain⟨h1,h2,_⟩:=hr.after (k:=k) he hs.HO;exact⟨u,r,s.st,F',os,rfl,hK,h1,J1 hv os hru,h2⟩
def Yl (P:Program)(o:Oper)(s:St)(v:AV):Prop:=
  ∀(k:Nat) (F:Nat->Prop) (os:List Own) (a:Act) (w:World),Rel F os s a w->∀(next:Act->World->Prop) (Q:Exit->Act->World->Prop),
    (∀a' w',Step k s.n F os w (·=s.put o.dst v) a' w'->next a' w')->o.wp P a w next Q
def nw (P:Program)(o:Oper)(s:St)(K:AV->Prop):Prop:=
  ∃v,(∀s0:St,s0.st=s.st->(∀x∈o.op.operands,s0.ev x=s.ev x)->DG s0.n o.dst=true->Yl P o s0 v)/\K v
def My (P:Program)(o:Oper)(s:St)(K:AV->Prop):Prop:=
  if Kx o.op then nw P o s K else Kw P s o.op K
theorem bq {op:Op}{K:AV->Prop}(h:Kw P s op K):∃v,K v/\Kw P s op (·=v):=by
  unfold Kw at h⊢;split at h
  case h_1=>exact⟨_,h,rfl⟩
  case h_2=>exact⟨_,h,rfl⟩
  case h_3=>
    unfold Rw at h⊢;split at h
    · exact⟨_,h,rfl⟩
    · rename_i t _ _;cases t
      · exact⟨_,h.2 rfl,by simp⟩
      · exact⟨_,h.1 rfl,by simp⟩
    · exact h.elim
  case h_4=>
    unfold Zs at h⊢;split at h
    · obtain⟨row,h1,h2,h3⟩:=BN h;exact⟨_,h3,An row h1 ⟨h2,rfl⟩⟩
    · exact⟨_,h,rfl⟩
    · exact h.elim
  case h_5 op t x y _=>
    unfold XC at h⊢;split at h
    · obtain⟨h1,h⟩:=h;cases op<;>simp only[bx]at h⊢<;>first|exact h.elim|exact⟨_,h,h1,rfl⟩|exact⟨_,h.2,h1,h.1,rfl⟩
    · obtain⟨h1,h⟩:=h;split at h
      · exact⟨_,h,h1,rfl⟩
      · exact⟨_,h,h1,rfl⟩
      · exact h.elim
    · exact h.elim
  case h_6=>
    unfold iE at h⊢;split at h
    · exact⟨_,h,rfl⟩
    · exact⟨_,h,rfl⟩
    · exact h.elim
  case h_7=>
    unfold Xa at h⊢;split at h
    · exact⟨_,h,rfl⟩
    · exact h.elim
  case h_8 t p=>
    obtain⟨ti,h1,h⟩:=BN h;have part:∀{x:List AV} {off:Nat},ND ti.1 ti.2 x off K->∃v,K v/\ND ti.1 ti.2 x off (·=v):=λ{x off} h=>by
      unfold ND at h⊢;split at h
      · rename_i hh;exact⟨_,h.2,by rw[qF hh];exact⟨h.1,rfl⟩⟩
      · rename_i hh;obtain⟨c,e1,e2⟩:=BN h;exact⟨c,e2,by rw[qG hh];exact An c e1 rfl⟩
    unfold SA;generalize s.ev p=pv at h⊢;cases pv with
    | ptr id g i off=>
      obtain⟨row,e1,e2,h⟩:=BN h;obtain⟨x,e3,h⟩:=BN h;obtain⟨v,hv,h⟩:=part h;exact⟨v,hv,An ti h1 (An row e1 ⟨e2,An x e3 h⟩)⟩
    | CT x off=>
      obtain⟨v,hv,h⟩:=part h;exact⟨v,hv,An ti h1 h⟩
    | _=>exact h.elim
  case h_9 t x f=>
    obtain⟨o,h1,h⟩:=BN h;unfold Nh;generalize s.ev x=pv at h⊢;cases pv with
    | ptr id g i off=>
      obtain⟨row,e1,e2,e3,h⟩:=BN h;exact⟨_,h,An o h1 (An row e1 ⟨e2,e3,rfl⟩)⟩
    | CT x off=>exact⟨_,h,An o h1 rfl⟩
    | _=>exact h.elim
  case h_10=>
    unfold PJ at h⊢;split at h
    · obtain⟨g,e1,h⟩:=BN h;obtain⟨ti,e2,h⟩:=BN h;unfold ND at h;split at h
      · rename_i hh;exact⟨_,h.2,An g e1 (An ti e2 (by unfold ND;rw[qF hh];exact⟨h.1,rfl⟩))⟩
      · rename_i hh;obtain⟨c,f1,f2⟩:=BN h;exact⟨c,f2,An g e1 (An ti e2 (by unfold ND;rw[qG hh];exact An c f1 rfl))⟩
    · exact h.elim
  case h_11 t x i=>
    obtain⟨ei,e1,h⟩:=BN h;unfold MD;generalize s.ev x=xv at h⊢;generalize s.ev i=iv at h⊢;cases xv with
    | own id g n=>
      cases iv with
      | int kk j=>
        obtain⟨h1,h2,h⟩:=h;obtain⟨row,e2,e3,e4,h⟩:=BN h;exact⟨_,h,An ei e1 ⟨h1,h2,An row e2 ⟨e3,e4,rfl⟩⟩⟩
      | _=>exact h.elim
    | sl xs=>
      cases iv with
      | int kk j=>
        obtain⟨h1,h⟩:=h;obtain⟨y,e2,e3,h⟩:=BN h;exact⟨_,h,An ei e1 ⟨h1,An y e2 ⟨e3,rfl⟩⟩⟩
      | _=>exact h.elim
    | _=>exact h.elim
  case h_12=>
    unfold Sm at h⊢;split at h
    · obtain⟨c,f1,f2⟩:=BN h;exact⟨c,f2,An c f1 rfl⟩
    · exact h.elim
  case h_13=>
    obtain⟨h1,h⟩:=h;obtain⟨fs,e1,h⟩:=BN h;obtain⟨z,e2,h⟩:=BN h;obtain⟨cs,e3,h⟩:=BN h;exact⟨_,h,h1,An fs e1 (An z e2 (An cs e3 rfl))⟩
  case h_14=>
    rcases h with ⟨h1,h⟩|⟨h1,h2,h⟩
    · exact⟨_,h,.inl ⟨h1,rfl⟩⟩
    · exact⟨_,h,.inr ⟨h1,h2,rfl⟩⟩
  case h_15=>
    split at h
    · obtain⟨h1,h⟩:=h;unfold fh at h⊢;split at h
      · obtain⟨row,e1,e2,h⟩:=BN h;exact⟨_,h,h1,An row e1 ⟨e2,rfl⟩⟩
      · exact⟨_,h,h1,rfl⟩
      · exact⟨_,h,h1,rfl⟩
      · exact h.elim
    · exact h.elim
  case h_16=>
    split at h
    · unfold kK at h⊢;split at h
      · exact⟨_,h,rfl⟩
      · exact h.elim
    · exact h.elim
  case h_17=>
    split at h
    · unfold jr at h⊢;split at h
      · exact⟨_,h,rfl⟩
      · exact h.elim
    · exact h.elim
  case h_18=>exact h.elim
theorem Xi {o:Oper}{K:AV->Prop}(h:My P o s K):∃v,K v/\My P o s (·=v):=by
  unfold My at h⊢;split at h
  · rename_i hc;simp only[hc,qe];obtain⟨v,h1,h2⟩:=h;exact⟨v,h2,v,h1,rfl⟩
  · rename_i hc;simp only[hc,py,qR];exact bq h
theorem Wv {s:St}{d:Option Tmp}{v:AV}{x:Operand}(h :∀t,d=some t->x≠.tmp t):(s.put d v).ev x=s.ev x:=by
  cases d with
  | none=>rfl
  | some d=>
    cases x with
    | tmp t=>
      have vZ:t≠d:=λe=>h d rfl (e▸rfl);simp[St.ev,St.put,Dr,vZ]
    | _=>rfl
theorem put_comm (s:St){x y:Option Tmp}(v u:AV)(h :∀d,x=some d->y≠some d):(s.put x v).put y u=(s.put y u).put x v:=by
  cases x with
  | none=>rfl
  | some d=>
    cases y with
    | none=>rfl
    | some e=>
      have vZ:d≠e:=λhe=>h d rfl (he▸rfl);simp only[St.put,St.mk.injEq,true_and,and_true];funext t;simp only[Dr];by_cases h1:t=d
      · subst h1;simp[vZ]
      · by_cases h2:t=e
        · subst h2;simp[h1]
        · simp[h1,h2]
theorem gG (s:St)(d:Option Tmp)(v:AV):(s.put d v).st=s.st:=by cases d<;>rfl
theorem Qu {s s':St}{o:Oper}{K:AV->Prop}(vX:s'.st=s.st)(h :∀x∈o.op.operands,s'.ev x=s.ev x)(hd:My P o s K):My P o s' K:=by
  unfold My at hd⊢;split at hd
  · rename_i hc;simp only[hc,qe];obtain⟨v,h1,h2⟩:=hd;exact⟨v,λs0 e1 e2 e3=>h1 s0 (e1.trans vX) (λx hx=>(e2 x hx).trans (h x hx)) e3,h2⟩
  rename_i hc;simp only[hc,py,qR];obtain⟨dst,op,ty,pos,after,guard⟩:=o;simp only at h hd hc⊢;have hlist:∀args:Array Operand,(∀x∈args,s'.ev x=s.ev x)->args.toList.map s'.ev=args.toList.map s.ev:=λargs ha=>qk λx hx=>ha x (by simpa using hx);have hparts:∀parts:Array (Nat×Operand),(∀p∈parts,s'.ev p.2=s.ev p.2)->(parts.toList.map λp=>(p.1,s'.ev p.2))=parts.toList.map λp=>(p.1,s.ev p.2):=λparts hp=>qk λp hx=>by rw[hp p (by simpa using hx)]
  cases op
  case call c=>
    obtain⟨callee,args,types⟩:=c;cases callee with
    | value f=>exact absurd rfl hc
    | invoke r m=>exact hd
    | builtin b=>
      have ha:∀x∈args,s'.ev x=s.ev x:=λx hx=>h x (by simp[Op.operands,Call.operands,hx]);cases b<;>simp only[Kw]at hd⊢<;>first
        | exact hd
        | (split at hd
           · rename_i h1 h2;have hx:=ha _ (by rw[<- tH,h1];exact rp);rw[hx,vX];exact hd
           · exact hd.elim)
        | (split at hd
           · rename_i x y h1;have hx:=ha x (by rw[<- tH,h1];simp);have hy:=ha y (by rw[<- tH,h1];simp);rw[hx,hy];exact hd
           · exact hd.elim)
  case build t parts=>
    simp only[Kw]at hd⊢;rw[hparts parts (λp hp=>h p.2 (by simp only[Op.operands,tG,qT];exact⟨p,by simpa using hp,rfl⟩))];exact hd
  case makeFunc fn first vp=>
    cases fn<;>simp only[Kw]at hd⊢<;>try exact hd
    rw[hlist vp (λx hx=>h x (by simp[Op.operands,hx])),hlist first (λx hx=>h x (by simp[Op.operands,hx]))];exact hd
  all_goals simp only[Kw,Op.operands,tG,qH,qi,rI,forall_eq_or_imp,forall_eq]at hd h⊢
  all_goals first
    | exact hd
    | (rw[h,vX];exact hd)
    | (rw[h];exact hd)
    | (rw[h.1,h.2,vX];exact hd)
    | (rw[h.1,h.2];exact hd)
    | (rw[h.1,h.2.1,h.2.2];exact hd)
end Go.Abs
