import Derived.Test.YtihdgoiebmfapaaGreatAbsH
set_option linter.all false
namespace Go.Abs
open Go
variable {P : Program} {F : Nat -> Prop} {os : List Own} {s : St} {a : Act} {w : World} {k : Nat}
def two (X:AV->AV):AV->AV
  | .fn f cs=>.fn f (cs.map X)
  | .agg cs=>.agg (cs.map X)
  | .Dm _=>.E2
  | v=>X v
theorem Kq {F F':Nat->Prop}{w w':World}{os os':List Own}{X:AV->AV}(h0 :∀x v,Ae F w os x v->Ae F' w' os' (X x) v):∀x v,Ae F w os x v->Ae F' w' os' (two X x) v:=by
  have hL:∀cs us,Br F w os cs us->Br F' w' os' (cs.map X) us:=λcs us h=>
    DV (by simp[BW h]) λi x u hx hu=>by
      simp only[fg,fp]at hx;obtain⟨y,hy,rfl⟩:=hx;obtain⟨u',nC,mc⟩:=CJ h i y hy;rw[nC]at hu;cases hu;exact h0 _ _ mc
  intro x v h;cases x with
  | fn f cs=>simp only[two,Ae]at h⊢;obtain⟨us,e,hl⟩:=h;exact⟨us,e,hL _ _ hl⟩
  | agg cs=>simp only[two,Ae]at h⊢;obtain⟨us,e,hl⟩:=h;exact⟨us,e,hL _ _ hl⟩
  | Dm cs=>simp[two,Ae]
  | _=>exact h0 _ _ h
theorem Q8 {X:AV->AV}{c:AV}{el s:Nat}{ys:List (List AV)}(h0 :∀c,X c=.dv el s ys->c=.dv el s ys)(h:two X c=.dv el s ys):c=.dv el s ys:=by
  cases c<;>simp only[two]at h<;>first|exact h0 _ h|cases h
def simple:AV->Bool
  | .own ..|.ptr ..|.fn ..|.agg _|.Dm _|.dv ..=>false
  | _=>true
def EY:AV->Bool
  | .dv ..=>true
  | c=>simple c
def WQ:AV->Bool
  | .fn _ cs|.agg cs=>cs.all simple
  | c=>simple c
def flat:AV->Bool
  | .own ..|.ptr ..|.dv ..=>false
  | .fn _ cs|.agg cs=>cs.all simple
  | .Dm cs=>cs.all WQ
  | _=>true
theorem FW {x:AV}{v:Value}(h:simple x=true)(os':List Own)(hr:Ae F w os x v):Ae F w os' x v:=by
  cases x<;>simp only[simple,fh]at h<;>simp only[Ae]at hr⊢<;>exact hr
theorem WT {x:AV}{v:Value}(h:EY x=true)(os':List Own)(hr:Ae F w os x v):Ae F w os' x v:=by
  cases x with
  | dv=>simpa [Ae] using hr
  | _=>exact FW (by simpa [EY] using h) os' hr
theorem OB {c:AV}(h:simple c=true):EY c=true:=by cases c<;>simp_all [simple,EY]
theorem LQ {xs:List AV}{us:List Value}(h:xs.all simple=true)(os':List Own)(hr:Br F w os xs us):Br F w os' xs us:=
  DV (BW hr) λi x u hx hu=>by
    obtain⟨u',e1,e2⟩:=CJ hr i x hx;rw[hu]at e1;cases e1;exact FW (fk.1 h x (fc hx)) os' e2
theorem YX {x:AV}{v:Value}(h:WQ x=true)(os':List Own)(hr:Ae F w os x v):Ae F w os' x v:=by
  cases x with
  | fn f cs=>simp only[Ae]at hr⊢;obtain⟨us,e,hl⟩:=hr;exact⟨us,e,LQ h os' hl⟩
  | agg cs=>simp only[Ae]at hr⊢;obtain⟨us,e,hl⟩:=hr;exact⟨us,e,LQ h os' hl⟩
  | _=>exact FW (by simpa [WQ] using h) os' hr
theorem XC {xs:List AV}{us:List Value}(h:xs.all WQ=true)(os':List Own)(hr:Br F w os xs us):Br F w os' xs us:=
  DV (BW hr) λi x u hx hu=>by
    obtain⟨u',e1,e2⟩:=CJ hr i x hx;rw[hu]at e1;cases e1;exact YX (fk.1 h x (fc hx)) os' e2
theorem I1 {x:AV}{v:Value}(h:flat x=true)(os':List Own)(hr:Ae F w os x v):Ae F w os' x v:=by
  cases x with
  | own=>simp[flat]at h
  | ptr=>simp[flat]at h
  | dv=>simp[flat]at h
  | fn f cs=>simp only[Ae]at hr⊢;obtain⟨us,e,hl⟩:=hr;exact⟨us,e,LQ h os' hl⟩
  | agg cs=>simp only[Ae]at hr⊢;obtain⟨us,e,hl⟩:=hr;exact⟨us,e,LQ h os' hl⟩
  | Dm cs=>simp only[Ae]at hr⊢;obtain⟨us,e,hl⟩:=hr;exact⟨us,e,XC h os' hl⟩
  | _=>exact FW rfl os' hr
theorem QU {xs:List AV}{us:List Value}(h:xs.all flat=true)(os':List Own)(hr:Br F w os xs us):Br F w os' xs us:=
  DV (BW hr) λi x u hx hu=>by
    obtain⟨u',e1,e2⟩:=CJ hr i x hx;rw[hu]at e1;cases e1;exact I1 (fk.1 h x (fc hx)) os' e2
theorem G9.nil (hold :∀b,F b->b<w.heap.size):G9 F [] [] w:=⟨rfl,by simp,by simp,hold⟩
theorem Rel.after (hr:Rel F os s a w){F':Nat->Prop}{w':World}{mF:List Own}(he:Ext F [] w F' mF w' 0)(hold :∀b,F' b->b<w'.heap.size):
    Rel F' os s a w'/\Ext F os w F' os w' k/\(∀x v,Ae F w os x v->Ae F' w' os x v)/\∀(i:Nat) (o:Own),os[i]?=some o->∀b,o.owns b->∀o1:Own,o1∈mF->¬ o1.owns b:=by
  have lY:∀x v,Ae F w os x v->Ae F' w' os x v:=λx v h=>Dc he.OF he.Ir os os (FF.refl os) x v h;have ov:∀(i:Nat) (o:Own),os[i]?=some o->∀b,o.owns b->w'.heap[b]?=w.heap[b]?/\¬ F' b/\∀o1:Own,o1∈mF->¬ o1.owns b:=λi o ho b hb=>
    he.other b ((hr.rows i o ho).lt hb) ((hr.rows i o ho).nF hb) (by simp)
  refine⟨⟨hr.st,λi=>lY _ _ (hr.env i),hr.size,λi o ho=>?_,hr.inj,hold,hr.defers⟩,⟨he.sys,he.tape,he.output,he.size,he.OF,he.Ir,λb hb h1 h2=>?_,λi o _ ho=>⟨o,ho,gA _,rfl,λ_=>⟨rfl,rfl,rfl⟩⟩⟩,lY,λi o ho b hb=>(ov i o ho b hb).2.2⟩
  · have lU:=hr.rows i o ho;refine⟨lU.pos,lU.lens,lU.none,λb hb=>?_,λb hb=>⟨(ov i o ho b (.inr hb)).2.1,iG (lU.mo b hb).2.1 he.size,(lU.mo b hb).2.2⟩,
      lU.deep.keep rfl (λ_ h=>h) rfl (λb hb=>(ov i o ho b hb).1) (λi x j e s ys hx hc=>⟨x,hx,hc⟩)⟩
    obtain⟨h1,cur,h2,h3,h4,h5,h6⟩:=lU.some b hb;obtain⟨e1,e2,_⟩:=ov i o ho b (.inl hb);exact⟨e2,cur,by rw[e1];exact h2,h3,h4,h5,λi' x hx j c hc=>by
      obtain⟨u,f1,f2⟩:=h6 i' x hx j c hc;exact⟨u,f1,lY _ _ f2⟩⟩
  · obtain⟨e1,e2,_⟩:=he.other b hb h1 (by simp);exact⟨e1,e2,h2⟩
theorem Sz {f:FuncId}{args:List AV}{d:Option Tmp}{K:St->Prop}{v:AV}(h:Ac P f args [] λr st'=>r=v/\st'=[])(hf:args.all flat=true)(hv:flat v=true)(hK:K (s.put d v)):callThen P k s f args d K:=by
  intro F os a w vs hr hl;refine (h F [] w vs (G9.nil hr.GG) (QU hf [] hl)).mono ?_;rintro e w' ⟨u,r,st',F',os',rfl,⟨rfl,rfl⟩,hs,hru,he⟩;have mK:os'=[]:=by have:=hs.st;simpa using this
  subst mK;obtain⟨h1,h2,_⟩:=hr.after (k:=k) he hs.GG;exact⟨u,r,s.st,F',os,rfl,hK,h1,I1 hv os hru,h2⟩
def Yl (P:Program)(o:Oper)(s:St)(v:AV):Prop:=
  ∀(k:Nat) (F:Nat->Prop) (os:List Own) (a:Act) (w:World),Rel F os s a w->∀(next:Act->World->Prop) (Q:Exit->Act->World->Prop),
    (∀a' w',Step k s.n F os w (·=s.put o.dst v) a' w'->next a' w')->o.wp P a w next Q
def dW (P:Program)(o:Oper)(s:St)(K:AV->Prop):Prop:=
  ∃v,(∀s0:St,s0.st=s.st->(∀x∈o.op.operands,s0.ev x=s.ev x)->DM s0.n o.dst=true->Yl P o s0 v)/\K v
def KT (P:Program)(o:Oper)(s:St)(K:AV->Prop):Prop:=
  if JU o.op then dW P o s K else I2 P s o.op K
theorem Wz {op:Op}{K:AV->Prop}(h:I2 P s op K):∃v,K v/\I2 P s op (·=v):=by
  unfold I2 at h⊢;split at h
  case h_1=>exact⟨_,h,rfl⟩
  case h_2=>exact⟨_,h,rfl⟩
  case h_3=>
    unfold OW at h⊢;split at h
    · exact⟨_,h,rfl⟩
    · rename_i t _ _;cases t
      · exact⟨_,h.2 rfl,by simp⟩
      · exact⟨_,h.1 rfl,by simp⟩
    · exact h.elim
  case h_4=>
    unfold Vm at h⊢;split at h
    · obtain⟨row,h1,h2,h3⟩:=BK h;exact⟨_,h3,Am row h1 ⟨h2,rfl⟩⟩
    · exact⟨_,h,rfl⟩
    · exact h.elim
  case h_5 op t x y _=>
    unfold UL at h⊢;split at h
    · obtain⟨h1,h⟩:=h;cases op<;>simp only[XI]at h⊢<;>first|exact h.elim|exact⟨_,h,h1,rfl⟩|exact⟨_,h.2,h1,h.1,rfl⟩
    · obtain⟨h1,h⟩:=h;split at h
      · exact⟨_,h,h1,rfl⟩
      · exact⟨_,h,h1,rfl⟩
      · exact h.elim
    · exact h.elim
  case h_6=>
    unfold Zz at h⊢;split at h
    · exact⟨_,h,rfl⟩
    · exact⟨_,h,rfl⟩
    · exact h.elim
  case h_7=>
    unfold Ti at h⊢;split at h
    · exact⟨_,h,rfl⟩
    · exact h.elim
  case h_8 t p=>
    obtain⟨ti,h1,h⟩:=BK h;have part:∀{x:List AV} {off:Nat},KU ti.1 ti.2 x off K->∃v,K v/\KU ti.1 ti.2 x off (·=v):=λ{x off} h=>by
      unfold KU at h⊢;split at h
      · rename_i hh;exact⟨_,h.2,by rw[fq hh];exact⟨h.1,rfl⟩⟩
      · rename_i hh;obtain⟨c,e1,e2⟩:=BK h;exact⟨c,e2,by rw[fr hh];exact Am c e1 rfl⟩
    unfold Ot;generalize s.ev p=pv at h⊢;cases pv with
    | ptr id g i off=>
      obtain⟨row,e1,e2,h⟩:=BK h;obtain⟨x,e3,h⟩:=BK h;obtain⟨v,hv,h⟩:=part h;exact⟨v,hv,Am ti h1 (Am row e1 ⟨e2,Am x e3 h⟩)⟩
    | Bc x off=>
      obtain⟨v,hv,h⟩:=part h;exact⟨v,hv,Am ti h1 h⟩
    | _=>exact h.elim
  case h_9 t x f=>
    obtain⟨o,h1,h⟩:=BK h;unfold Kr;generalize s.ev x=pv at h⊢;cases pv with
    | ptr id g i off=>
      obtain⟨row,e1,e2,e3,h⟩:=BK h;exact⟨_,h,Am o h1 (Am row e1 ⟨e2,e3,rfl⟩)⟩
    | Bc x off=>exact⟨_,h,Am o h1 rfl⟩
    | _=>exact h.elim
  case h_10=>
    unfold MG at h⊢;split at h
    · obtain⟨g,e1,h⟩:=BK h;obtain⟨ti,e2,h⟩:=BK h;unfold KU at h;split at h
      · rename_i hh;exact⟨_,h.2,Am g e1 (Am ti e2 (by unfold KU;rw[fq hh];exact⟨h.1,rfl⟩))⟩
      · rename_i hh;obtain⟨c,f1,f2⟩:=BK h;exact⟨c,f2,Am g e1 (Am ti e2 (by unfold KU;rw[fr hh];exact Am c f1 rfl))⟩
    · exact h.elim
  case h_11 t x i=>
    obtain⟨ei,e1,h⟩:=BK h;unfold Hr;generalize s.ev x=xv at h⊢;generalize s.ev i=iv at h⊢;cases xv with
    | own id g n=>
      cases iv with
      | int kk j=>
        obtain⟨h1,h2,h⟩:=h;obtain⟨row,e2,e3,e4,h⟩:=BK h;exact⟨_,h,Am ei e1 ⟨h1,h2,Am row e2 ⟨e3,e4,rfl⟩⟩⟩
      | _=>exact h.elim
    | sl xs=>
      cases iv with
      | int kk j=>
        obtain⟨h1,h⟩:=h;obtain⟨y,e2,e3,h⟩:=BK h;exact⟨_,h,Am ei e1 ⟨h1,Am y e2 ⟨e3,rfl⟩⟩⟩
      | _=>exact h.elim
    | _=>exact h.elim
  case h_12=>
    unfold PJ at h⊢;split at h
    · obtain⟨c,f1,f2⟩:=BK h;exact⟨c,f2,Am c f1 rfl⟩
    · exact h.elim
  case h_13=>
    obtain⟨h1,h⟩:=h;obtain⟨fs,e1,h⟩:=BK h;obtain⟨z,e2,h⟩:=BK h;obtain⟨cs,e3,h⟩:=BK h;exact⟨_,h,h1,Am fs e1 (Am z e2 (Am cs e3 rfl))⟩
  case h_14=>exact⟨_,h.2,h.1,rfl⟩
  case h_15=>
    split at h
    · obtain⟨h1,h⟩:=h;unfold ZC at h⊢;split at h
      · obtain⟨row,e1,e2,h⟩:=BK h;exact⟨_,h,h1,Am row e1 ⟨e2,rfl⟩⟩
      · exact⟨_,h,h1,rfl⟩
      · exact⟨_,h,h1,rfl⟩
      · exact h.elim
    · exact h.elim
  case h_16=>
    split at h
    · unfold bS at h⊢;split at h
      · exact⟨_,h,rfl⟩
      · exact h.elim
    · exact h.elim
  case h_17=>
    split at h
    · unfold bB at h⊢;split at h
      · exact⟨_,h,rfl⟩
      · exact h.elim
    · exact h.elim
  case h_18=>exact h.elim
theorem T6 {o:Oper}{K:AV->Prop}(h:KT P o s K):∃v,K v/\KT P o s (·=v):=by
  unfold KT at h⊢;split at h
  · rename_i hc;simp only[hc,gb];obtain⟨v,h1,h2⟩:=h;exact⟨v,h2,v,h1,rfl⟩
  · rename_i hc;simp only[hc,fh,gM];exact Wz h
theorem TK {s:St}{d:Option Tmp}{v:AV}{x:Operand}(h :∀t,d=some t->x≠.tmp t):(s.put d v).ev x=s.ev x:=by
  cases d with
  | none=>rfl
  | some d=>
    cases x with
    | tmp t=>
      have lv:t≠d:=λe=>h d rfl (e▸rfl);simp[St.ev,St.put,Em,lv]
    | _=>rfl
theorem put_comm (s:St){x y:Option Tmp}(v u:AV)(h :∀d,x=some d->y≠some d):(s.put x v).put y u=(s.put y u).put x v:=by
  cases x with
  | none=>rfl
  | some d=>
    cases y with
    | none=>rfl
    | some e=>
      have lv:d≠e:=λhe=>h d rfl (he▸rfl);simp only[St.put,St.mk.injEq,true_and,and_true];funext t;simp only[Em];by_cases h1:t=d
      · subst h1;simp[lv]
      · by_cases h2:t=e
        · subst h2;simp[h1]
        · simp[h1,h2]
theorem ZA (s:St)(d:Option Tmp)(v:AV):(s.put d v).st=s.st:=by cases d<;>rfl
theorem Nk {s s':St}{o:Oper}{K:AV->Prop}(lp:s'.st=s.st)(h :∀x∈o.op.operands,s'.ev x=s.ev x)(hd:KT P o s K):KT P o s' K:=by
  unfold KT at hd⊢;split at hd
  · rename_i hc;simp only[hc,gb];obtain⟨v,h1,h2⟩:=hd;exact⟨v,λs0 e1 e2 e3=>h1 s0 (e1.trans lp) (λx hx=>(e2 x hx).trans (h x hx)) e3,h2⟩
  rename_i hc;simp only[hc,fh,gM];obtain⟨dst,op,ty,pos,after,guard⟩:=o;simp only at h hd hc⊢;have uZ:∀args:Array Operand,(∀x∈args,s'.ev x=s.ev x)->args.toList.map s'.ev=args.toList.map s.ev:=λargs ha=>gO λx hx=>ha x (by simpa using hx);have sm:∀parts:Array (Nat×Operand),(∀p∈parts,s'.ev p.2=s.ev p.2)->(parts.toList.map λp=>(p.1,s'.ev p.2))=parts.toList.map λp=>(p.1,s.ev p.2):=λparts hp=>gO λp hx=>by rw[hp p (by simpa using hx)]
  cases op
  case call c=>
    obtain⟨callee,args,types⟩:=c;cases callee with
    | value f=>exact absurd rfl hc
    | invoke r m=>exact hd
    | builtin b=>
      have ha:∀x∈args,s'.ev x=s.ev x:=λx hx=>h x (by simp[Op.operands,Call.operands,hx]);cases b<;>simp only[I2]at hd⊢<;>first
        | exact hd
        | (split at hd
           · rename_i h1 h2;have hx:=ha _ (by rw[<- jr,h1];exact iI);rw[hx,lp];exact hd
           · exact hd.elim)
        | (split at hd
           · rename_i x y h1;have hx:=ha x (by rw[<- jr,h1];simp);have hy:=ha y (by rw[<- jr,h1];simp);rw[hx,hy];exact hd
           · exact hd.elim)
  case build t parts=>
    simp only[I2]at hd⊢;rw[sm parts (λp hp=>h p.2 (by simp only[Op.operands,kL,gC];exact⟨p,by simpa using hp,rfl⟩))];exact hd
  case makeFunc fn first mP=>
    cases fn<;>simp only[I2]at hd⊢<;>try exact hd
    rw[uZ mP (λx hx=>h x (by simp[Op.operands,hx]))];exact hd
  all_goals simp only[I2,Op.operands,kL,fu,gT,iB,forall_eq_or_imp,forall_eq]at hd h⊢
  all_goals first
    | exact hd
    | (rw[h,lp];exact hd)
    | (rw[h];exact hd)
    | (rw[h.1,h.2,lp];exact hd)
    | (rw[h.1,h.2];exact hd)
    | (rw[h.1,h.2.1,h.2.2];exact hd)
end Go.Abs
