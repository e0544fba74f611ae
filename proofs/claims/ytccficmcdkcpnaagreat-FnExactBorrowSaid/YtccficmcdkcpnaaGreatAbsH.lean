import Derived.Test.YtccficmcdkcpnaaGreatAbsG
set_option linter.all false
namespace Go.Abs
open Go
variable {P : Program} {F : Nat -> Prop} {os : List Own} {s : St} {a : Act} {w : World} {k : Nat}
structure FT (F:Nat->Prop) (os:List Own) (st:List Row) (w:World):Prop where
 st:os.map Own.row=st
 rows :∀(i:Nat) (o:Own),os[i]?=some o->L8 F w os o
 inj :∀(i j:Nat) (oi oj:Own) (b:Nat),os[i]?=some oi->os[j]?=some oj->oi.owns b->oj.owns b->i=j
 FU :∀b,F b->b<w.heap.size
def BJ (P:Program)(f:FuncId)(args:List AV)(st:List Row)(R:AV->List Row->Prop):Prop:=
 ∀F os w vs,FT F os st w->A7 F w os args vs->Calls P f vs.toArray w λe w'=>
  ∃v r st' F' os',e=.returned v/\R r st'/\FT F' os' st' w'/\AU F' w' os' r v/\Ext F os w F' os' w' st.length
def callThen (P:Program)(k:Nat)(s:St)(f:FuncId)(args:List AV)(d:Option Tmp)(K:St->Prop):Prop:=
 ∀F os a w vs,Rel F os s a w->A7 F w os args vs->Calls P f vs.toArray w λe w'=>
  ∃v r st' F' os',e=.returned v/\K ({ s with st:=st' }.put d r)/\Rel F' os' { s with st:=st' } a w'/\AU F' w' os' r v/\Ext F os w F' os' w' k
def Vl (v:AV)(K:FuncId->List AV->List AV->Prop):Prop:=
 match v with
 | .fn f sM=>K f [] sM
 | .bd f first=>K f first []
 | _=>False
def Uj:AV->Bool
 | .int ..|.bool _|.str _|.zc|.O5|.Po|.sl _|.Bz ..=>true
 | _=>false
def loose:AV->Bool
 | .agg cs=>cs.all Uj
 | v=>Uj v
theorem T0 {F:Nat->Prop}{w:World}{os:List Own}{x:AV}{v:Value}(hx:Uj x=true)(h:AU F w os x v):AU F w [] x v:=by
 cases x<;>simp only[Uj,mW]at hx<;>simp only[AU]at h⊢<;>exact h
theorem bA {F:Nat->Prop}{w:World}{os:List Own}{x:AV}{v:Value}(hx:loose x=true)(h:AU F w os x v):AU F w [] x v:=by
 cases x with
 | agg cs=>
  simp only[AU]at h⊢;obtain⟨us,e,hl⟩:=h;refine⟨us,e,Cq (A3 hl) λi x u uG hu=>?_⟩;obtain⟨u',e1,e2⟩:=BQ hl i x uG;rw[hu]at e1;cases e1;exact T0 (ma.1 hx x (mS uG)) e2
 | _=>exact T0 hx h
theorem Yh {F:Nat->Prop}{w:World}{os:List Own}{xs:List AV}{us:List Value}(hx:xs.all loose=true)(hl:A7 F w os xs us):A7 F w [] xs us:=by
 refine Cq (A3 hl) λi x u uG hu=>?_;obtain⟨u',e1,e2⟩:=BQ hl i x uG;rw[hu]at e1;cases e1;exact bA (ma.1 hx x (mS uG)) e2
def Dy (P:Program)(f:FuncId):Bool:=
 match P.funcs[f]? with
 | some fn=>fn.body.isSome&&!(fn.name == "runtime.NumGoroutine")
 | none=>false
def U2 (P:Program)(src dst:TypeId)(x:AV)(K:AV->Prop):Prop:=
 match P.underlying src,P.underlying dst,x with
 | some _,some (.int k),.int _ n=>K (.int k (k.wrap n))
 | _,_,_=>False
def fe (x y:AV)(K:AV->Prop):Prop:=
 match x,y with
 | .int k a,.int _ b=>K (.int k (if b > a then b else a))
 | _,_=>False
def en (x y:AV)(K:AV->Prop):Prop:=
 match x,y with
 | .int k a,.int _ b=>K (.int k (if b<a then b else a))
 | _,_=>False
def Is (P:Program)(s:St)(op:Op)(K:AV->Prop):Prop:=
 match op with
 | .move x|.assign x=>K (s.ev x)
 | .pick c a b=>PZ (s.ev c) (s.ev a) (s.ev b) K
 | .nilCheck x=>Wv s.st (s.ev x) K
 | .binOp op t x y _=>VF P t op (s.ev x) (s.ev y) K
 | .unOp op _ x=>cr op (s.ev x) K
 | .convert src dst x=>U2 P src dst (s.ev x) K
 | .load t p=>PD P s.st t (s.ev p) K
 | .fieldAddr t x f=>LH P t (s.ev x) f s.st K
 | .field t x f=>Mf P t (s.ev x) f K
 | .indexAddr t x i=>IX P s.st t (s.ev x) (s.ev i) K
 | .extract x i=>QI (s.ev x) i K
 | .build t parts=>YD P t (parts.toList.map λp=>(p.1,s.ev p.2)) K
 | .makeFunc (.func f) first sM=>(first=#[]/\K (.fn f (sM.toList.map s.ev)))∨(sM=#[]/\(first.toList.map s.ev).all loose=true/\K (.bd f (first.toList.map s.ev)))
 | .call ⟨.builtin .len,args,types⟩=>match args.toList,types.toList with
  | [x],[t]=>B1 P t=true/\cA s.st (s.ev x) K
  | _,_=>False
 | .call ⟨.builtin .max,args,_⟩=>match args.toList with
  | [x,y]=>fe (s.ev x) (s.ev y) K
  | _=>False
 | .call ⟨.builtin .min,args,_⟩=>match args.toList with
  | [x,y]=>en (s.ev x) (s.ev y) K
  | _=>False
 | _=>False
def Xt (P:Program)(t:TypeId)(st:List Row)(x:AV)(K:AV->Prop):Prop:=
 B1 P t=true/\match x with
 | .sl xs=>(xs=[]->K (.bool true))/\K (.bool false)
 | .zc=>K (.bool true)/\K (.bool false)
 | .own id g _=>FD st[id]? λrow=>row.gen=g/\(row.xs=[]->K (.bool true))/\K (.bool false)
 | _=>False
theorem Vs {t e:TypeId}(hu:P.underlying t=some (.slice e))(a:Option Addr)(l c:Nat):(Op.equal t (.slice a l c) (.slice none 0 0)).run P w=.ok a.isNone w:=by
 have hd:∀d,(Op.equalIn (d+1) t (.slice a l c) (.slice none 0 0)).run P w=.ok a.isNone w:=λd=>by
  cases a<;>simp only[Op.equalIn,nU,ni hu,nR,nq]<;>rfl
 have:Op.maxDepth=9999+1:=rfl;unfold Op.equal;rw[this];exact hd 9999
theorem aj {t:TypeId}{x:AV}{ux:Value}{ox:Operand}{K:AV->Prop}(hr:Rel F os s a w)(h:Xt P t s.st x K)(hx:AU F w os x ux):
  Yields P F w os (do eqGuard .eql t ox (.const (.slice none 0 0)) ux (.slice none 0 0);binOp .eql t ux (.slice none 0 0)) K:=by
 obtain⟨ht,h⟩:=h;unfold B1 at ht;split at ht
 case h_2=>cases ht
 rename_i e hu;have rm:∀ad l c,(do eqGuard .eql t ox (.const (.slice none 0 0)) (.slice ad l c) (.slice none 0 0);binOp .eql t (.slice ad l c) (.slice none 0 0):Sem Value).run P w=.ok (.bool ad.isNone) w:=λad l c=>by
  have hg:(eqGuard .eql t ox (.const (.slice none 0 0)) (.slice ad l c) (.slice none 0 0)).run P w=.ok () w:=by
   unfold eqGuard;simp
  simp only[nU,hg,nR,binOp,Vs hu,nq]
 cases x with
 | sl xs=>
  simp only[AU]at hx;obtain⟨ad,cap,rfl,_,sB⟩:=hx;by_cases he:xs=[]
  ·cases ad with
   | none=>exact .bool (h.1 he) (rm _ _ _)
   | some ad=>exact .bool h.2 (rm _ _ _)
  ·obtain⟨b,o,sz,rfl,_⟩:=sB he;exact .bool h.2 (rm _ _ _)
 | zc=>
  simp only[AU]at hx;obtain⟨ad,rfl⟩:=hx;cases ad with
  | none=>exact .bool h.1 (rm _ _ _)
  | some ad=>exact .bool h.2 (rm _ _ _)
 | own id g n=>
  obtain⟨row,rK,hg,h1,h2⟩:=Aw h;obtain⟨ow,how,rfl⟩:=hr.row rK;simp only[AU]at hx;obtain⟨o',sA,uK,_,hv⟩:=hx;rw[how]at sA;cases sA;obtain⟨hl,hv⟩:=hv hg;rcases hv with ⟨hb,ad,rfl⟩|⟨b,_,rfl⟩
  ·have:=((hr.rows id ow how).none hb).1;cases ad with
   | none=>exact .bool (h1 this) (rm _ _ _)
   | some ad=>exact .bool h2 (rm _ _ _)
  ·exact .bool h2 (rm _ _ _)
 | _=>exact h.elim
def bB (P:Program)(k:Nat)(s:St)(d:Option Tmp)(op:Op)(K:St->Prop):Prop:=
 match op with
 | .binOp .eql t x (.const (.slice none 0 0)) _=>Xt P t s.st (s.ev x) λv=>K (s.put d v)
 | .alloc e=>cD P e s.st λv st=>K ({ s with st:=st }.put d v)
 | .box e x=>jT e s.st (s.ev x) λv st=>K ({ s with st:=st }.put d v)
 | .store t p v=>YC P s.st t (s.ev p) (s.ev v) λst=>K ({ s with st:=st }.put d .FQ)
 | .makeSlice t l c=>bQ P s.st t (s.ev l) (s.ev c) λv st=>K ({ s with st:=st }.put d v)
 | .buildSlice t len parts=>Ny P s.st t len (parts.toList.map λp=>(p.1,s.ev p.2)) λv st=>K ({ s with st:=st }.put d v)
 | .slice t x lo hi mx=>Ug P s.st t (s.ev x) (lo.map s.ev) (hi.map s.ev) (mx.map s.ev) λv st=>K ({ s with st:=st }.put d v)
 | .call ⟨.builtin .append,args,types⟩=>match args.toList,types.toList with
  | [x,y],[t,t']=>t=t'/\Vf P s.st t (s.ev x) (s.ev y) λv st=>K ({ s with st:=st }.put d v)
  | _,_=>False
 | .call ⟨.value f,args,_⟩=>Vl (s.ev f) λf first sM=>Dy P f=true/\callThen P k s f (first++(args.toList.map s.ev++sM)) d K
 | _=>False
def KH:Op->Bool
 | .binOp .eql _ _ (.const (.slice none 0 0)) _=>true
 | .alloc _|.box ..|.store ..|.makeSlice ..|.buildSlice ..|.slice ..=>true
 | .call ⟨.builtin .append,_,_⟩=>true
 | .call ⟨.value _,_,_⟩=>true
 | _=>false
def KR (P:Program)(k:Nat)(o:Oper)(s:St)(K:St->Prop):Prop:=
 if KH o.op then bB P k s o.dst o.op K else Is P s o.op λv=>K (s.put o.dst v)
theorem NK (hr:Rel F os s a w):∀l:List Operand,A7 F w os (l.map s.ev) (l.map a.eval)
 | []=>by simp[A7]
 | x::l=>by simp only[mz,A7];exact⟨_,_,rfl,hr.ev x,NK hr l⟩
theorem RP {o:Oper}{K:AV->Prop}(hr:Rel F os s a w)(h:Is P s o.op K):
  ∃x u,K x/\(execOp a.eval o).run P w=.ok (.value u) w/\AU F w os x u:=by
 have lift:∀{NN:Sem Value},Yields P F w os NN K->∃x u,K x/\(do pure (Next.value (← NN)):Sem Next).run P w=.ok (.value u) w/\AU F w os x u:=λ⟨x,u,h1,h2,h3⟩=>
  ⟨x,u,h1,by simp[h2],h3⟩
 obtain⟨dst,op,ty,pos,after,guard⟩:=o;simp only at h;unfold Is at h;split at h
 case h_1=>exact⟨_,_,h,rfl,hr.ev _⟩
 case h_2=>exact⟨_,_,h,rfl,hr.ev _⟩
 case h_3 c p q=>
  obtain⟨x,u,h1,h2,h3⟩:=dW h (hr.ev _) (hr.ev _) (hr.ev _) (P:=P);refine⟨x,u,h1,?_,h3⟩;cases hb:(asBool (a.eval c)).run P w with
  | ok b w1=>simp[execOp,hb]at h2⊢;exact h2
  | halt e w1=>simp[hb]at h2
 case h_4 x=>
  obtain⟨v,h1,⟨ad,h2⟩,h3⟩:=fc hr h (hr.ev _);exact⟨v,_,h1,by simp only[execOp,h2];rfl,by rw[<- h2];exact h3⟩
 case h_5=>exact lift (fP h (hr.ev _) (hr.ev _))
 case h_6=>exact lift (jA h (hr.ev _))
 case h_7 src dst' x=>
  have hx:=hr.ev x;unfold U2 at h;split at h
  ·rename_i d kk _ n h1 h2 h3;rw[h3]at hx;simp only[AU]at hx;refine lift (.int h ?_);simp[convert,ni h1,ni h2,hx,Conv.intToInt]
  ·exact h.elim
 case h_8=>exact lift (Wp hr h (hr.ev _))
 case h_9=>exact lift (V1 hr h (hr.ev _))
 case h_10=>exact lift (aq h (hr.ev _))
 case h_11=>exact lift (Un hr h (hr.ev _) (hr.ev _))
 case h_12=>exact lift (Xq h (hr.ev _))
 case h_13 t parts=>
  refine lift (ah (uparts:=parts.map λ(i,x)=>(i,a.eval x)) h ?_ ?_)
  ·simp
  ·intro i p up hp wj;simp only[mX,mZ,px]at hp wj;obtain⟨q,hq,rfl⟩:=hp;obtain⟨q',uU,rfl⟩:=wj;rw[hq]at uU;cases uU;exact hr.ev _
 case h_14 f first sM=>
  rcases h with ⟨rfl,hk⟩|⟨rfl,hl,hk⟩
  ·refine⟨_,.func (.func f) #[] (sM.map a.eval),hk,by simp[execOp,Instr.makeFunc],?_⟩;simp only[AU];exact⟨sM.toList.map a.eval,by apply nO;apply pL;simp,NK hr _⟩
  ·refine⟨_,.func (.func f) (first.map a.eval) #[],hk,by simp[execOp,Instr.makeFunc],?_⟩;simp only[AU];exact⟨first.toList.map a.eval,by apply nO (λx=>Value.func (.func f) x #[]);apply pL;simp,Yh hl (NK hr _)⟩
 case h_15 args types=>
  split at h
  ·rename_i x t h1 h2;obtain⟨ht,h⟩:=h;obtain⟨v,u,e1,e2,e3⟩:=gG (ty:=ty) hr ht h (hr.ev x);refine⟨v,u,e1,?_,e3⟩;have ha:args=#[x]:=by apply pL;simpa using h1
   have htt:types=#[t]:=by apply pL;simpa using h2
   subst ha;subst htt;simp[execOp,resolve,invoke,builtin,e2]
  ·exact h.elim
 case h_16 args types=>
  split at h
  ·rename_i x y h1;have ha:args=#[x,y]:=by apply pL;simpa using h1
   subst ha;have hx:=hr.ev x;have hy:=hr.ev y;unfold fe at h;split at h
   ·rename_i e1 e2;rw[e1]at hx;rw[e2]at hy;simp only[AU]at hx hy;exact⟨_,_,h,by simp[execOp,resolve,invoke,builtin,Builtin.max_,Builtin.max2,hx,hy];rfl,by simp[AU]⟩
   ·exact h.elim
  ·exact h.elim
 case h_17 args types=>
  split at h
  ·rename_i x y h1;have ha:args=#[x,y]:=by apply pL;simpa using h1
   subst ha;have hx:=hr.ev x;have hy:=hr.ev y;unfold en at h;split at h
   ·rename_i e1 e2;rw[e1]at hx;rw[e2]at hy;simp only[AU]at hx hy;exact⟨_,_,h,by simp[execOp,resolve,invoke,builtin,Builtin.min_,Builtin.min2,hx,hy];rfl,by simp[AU]⟩
   ·exact h.elim
  ·exact h.elim
 case h_18=>exact h.elim
theorem Rel.store (hr:Rel F os s a w):FT F os s.st w:=⟨hr.st,hr.rows,hr.inj,hr.FU⟩
def Step (k n:Nat)(F:Nat->Prop)(os:List Own)(w:World)(K:St->Prop)(a':Act)(w':World):Prop:=
 ∃s' F' os',s'.n=n/\K s'/\Rel F' os' s' a' w'/\Ext F os w F' os' w' k
theorem LG {K:St->Prop}{d:Option Tmp}{st':List Row}{F':Nat->Prop}{os':List Own}{w':World}{v:AV}{u:Value}(hd:Ce s.n d=true)
  (hk:K ({ s with st:=st' }.put d v)) (hr:Rel F' os' { s with st:=st' } a w') (hv:AU F' w' os' v u) (he:Ext F os w F' os' w' k):Step k s.n F os w K (a.put d u) w':=
 ⟨_,F',os',by cases d<;>rfl,hk,hr.put hd hv,he⟩
theorem P1 {o:Oper}{K:St->Prop}(hr:Rel F os s a w)(hd:Ce s.n o.dst=true)(h:bB P k s o.dst o.op K){next:Act->World->Prop}{Q:Exit->Act->World->Prop}
  (hn :∀a' w',Step k s.n F os w K a' w'->next a' w'):o.wp P a w next Q:=by
 have lift:∀{NN:Sem Value} {K':AV->List Row->Prop},GV P k F os s a w NN K'->(∀v st,K' v st->K ({ s with st:=st }.put o.dst v))->
   o.upon P a next Q ((do pure (Next.value (← NN)):Sem Next).run P w):=λ⟨v,st',u,w',os',h1,h2,h3,h4,h5⟩ hK=>by
  simp only[nU,h2,nR,nq,Oper.upon];exact hn _ _ (LG hd (hK _ _ h1) h3 h4 h5)
 obtain⟨dst,op,ty,pos,after,guard⟩:=o;simp only at h hd lift;unfold bB at h;unfold Oper.wp;split at h
 case h_1 t x yT=>
  obtain⟨v,u,h1,h2,h3⟩:=aj (P:=P) (ox:=x) hr h (hr.ev x);have zA:(execOp a.eval ⟨dst,.binOp .eql t x (.const (.slice none 0 0)) yT,ty,pos,after,guard⟩).run P w=.ok (.value u) w:=by
   simp only[execOp,Act.eval,nU,nq]at h2⊢;rw[h2];rfl
  rw[zA];exact hn _ _ ⟨_,F,os,by cases dst<;>rfl,h1,hr.put hd h3,Ext.refl _ _ _ _⟩
 case h_2 e=>simp only[execOp];exact lift (aX hr h) (λ_ _ h=>h)
 case h_3 e x=>simp only[execOp];exact lift (ea hr h (hr.ev _)) (λ_ _ h=>h)
 case h_4 t p v=>
  obtain⟨st',w',os',h1,h2,h3,h4⟩:=bD (k:=k) hr h (hr.ev _) (hr.ev _);simp only[execOp,nU,h2,nR,nq,Oper.upon];exact hn _ _ (LG hd h1 h3 (by simp[AU]) h4)
 case h_5 t l c=>simp only[execOp];exact lift (Ws hr h (hr.ev _) (hr.ev _)) (λ_ _ h=>h)
 case h_6 t len parts=>
  have h9:GV P k F os s a w (Instr.buildSlice t len (parts.map λ(i,x)=>(i,a.eval x))) _:=La hr h (by simp) (λi p up hp wj=>by
   simp only[mX,mZ,px]at hp wj;obtain⟨q,hq,rfl⟩:=hp;obtain⟨q',uU,rfl⟩:=wj;rw[hq]at uU;cases uU;exact hr.ev _)
  exact lift h9 (λ_ _ h=>h)
 case h_7 t x lo hi mx=>
  have hO:∀o:Option Operand,Sc F w os (o.map s.ev) (o.map a.eval):=λo=>by
   cases o with
   | none=>simp[Sc]
   | some x=>simpa [Sc] using hr.ev x
  simp only[execOp];exact lift (bJ hr h (hr.ev _) (hO _) (hO _) (hO _)) (λ_ _ h=>h)
 case h_8 args types=>
  split at h
  ·rename_i x y t t' h1 h2;obtain⟨rfl,h⟩:=h;have ha:args=#[x,y]:=by apply pL;simpa using h1
   have htt:types=#[t,t]:=by apply pL;simpa using h2
   subst ha;subst htt;have:=lift (ZT (ty:=ty) hr h (hr.ev _) (hr.ev _)) (λ_ _ h=>h);simpa [execOp,resolve,invoke,builtin] using this
  ·exact h.elim
 case h_9 f args types=>
  have hf:=hr.ev f;unfold Vl at h;split at h
  ·rename_i g sM hfe;rw[hfe]at hf;simp only[AU]at hf;obtain⟨us,hfu,hus⟩:=hf;obtain⟨tH,hc⟩:=h;have hl:A7 F w os (args.toList.map s.ev++sM) (args.toList.map a.eval++us):=by
    have h1:=NK hr args.toList;have l1:=A3 h1;have l2:=A3 hus;refine Cq (by simp[l2]) λi x u hx hu=>?_;by_cases hi:i<args.toList.length
    ·rw[mg (by simpa using hi)]at hx hu;obtain⟨u',e1,e2⟩:=BQ h1 i x hx;rw[hu]at e1;cases e1;exact e2
    ·rw[mn (by simpa using hi)]at hx hu;simp only[mf]at hx hu;obtain⟨u',e1,e2⟩:=BQ hus _ x hx;rw[hu]at e1;cases e1;exact e2
   have vV:=hc F os a w _ hr hl;unfold Dy at tH;split at tH
   ·rename_i fn zB;simp only[mh,ob]at tH;have hnb:fn.body.isNone=false:=by cases hb:fn.body<;>simp_all
    have sS:(args.toList.map a.eval++us).toArray=args.map a.eval++us.toArray:=by apply pL;simp
    rw[sS]at vV;simp only[execOp,resolve,hfu,Deferred.ofValue,nU,nq,nR,invoke,callFunc,run_program,zB,tH.2,hnb,Array.empty_append,mW,my,Oper.upon];refine vV.mono ?_;rintro e w' ⟨v,r,st',F',os',rfl,hk,sw,hv,he⟩;exact hn _ _ (LG hd hk sw hv he)
   ·cases tH
  ·rename_i g first hfe
   rw[hfe]at hf;simp only[AU]at hf;obtain⟨us,hfu,hus⟩:=hf;obtain⟨tH,hc⟩:=h;have hl:A7 F w os (first++(args.toList.map s.ev++[])) (us++args.toList.map a.eval):=by
    have h1:=NK hr args.toList;have l2:=A3 hus;rw[oE];refine Cq (by simp[l2]) λi x u hx hu=>?_;by_cases hi:i<first.length
    ·rw[mg hi]at hx;rw[mg (by omega)]at hu;obtain⟨u',e1,e2⟩:=BQ hus i x hx;rw[hu]at e1;cases e1;exact Wj os e2
    ·rw[mn (by omega)]at hx;rw[mn (by omega),l2]at hu;obtain⟨u',e1,e2⟩:=BQ h1 _ x hx;rw[hu]at e1;cases e1;exact e2
   have vV:=hc F os a w _ hr hl;unfold Dy at tH;split at tH
   ·rename_i fn zB;simp only[mh,ob]at tH;have hnb:fn.body.isNone=false:=by cases hb:fn.body<;>simp_all
    have sS:(us++args.toList.map a.eval).toArray=us.toArray++args.map a.eval:=by apply pL;simp
    rw[sS]at vV;simp only[execOp,resolve,hfu,Deferred.ofValue,nU,nq,nR,invoke,callFunc,run_program,zB,tH.2,hnb,Array.append_empty,mW,my,Oper.upon];refine vV.mono ?_;rintro e w' ⟨v,r,st',F',os',rfl,hk,sw,hv,he⟩;exact hn _ _ (LG hd hk sw hv he)
   ·cases tH
  ·exact h.elim
 case h_10=>exact h.elim
theorem dA {o:Oper}{K:St->Prop}(hr:Rel F os s a w)(hd:Ce s.n o.dst=true)(h:KR P k o s K){next:Act->World->Prop}{Q:Exit->Act->World->Prop}
  (hn :∀a' w',Step k s.n F os w K a' w'->next a' w'):o.wp P a w next Q:=by
 unfold KR at h;split at h
 ·exact P1 hr hd h hn
 ·obtain⟨x,u,h1,h2,h3⟩:=RP hr h;unfold Oper.wp;rw[h2];exact hn _ _ ⟨_,F,os,by cases o.dst<;>rfl,h1,hr.put hd h3,Ext.refl _ _ _ _⟩
def aG (b want:Bool)(A B:Prop):Prop:=(b=want->A)/\(b≠want->B)
def Yo (v:AV)(want:Bool)(A B:Prop):Prop:=
 match v with
 | .bool b=>aG b want A B
 | .un=>B
 | _=>False
def JJ (ds:List (Option Tmp))(o:Oper)(s:St)(A B:Prop):Prop:=
 match o.guard with
 | none=>A
 | some (j,want)=>match ds[j]? with
  | some (some t)=>Yo (s.env t) want A B
  | _=>False
theorem Tl (hr:Rel F os s a w){ops:Array Oper}{j t:Nat}{b:Bool}(hj:((ops[j]?).map (·.dst))=some (some t))(ht:t<s.n)(hb:s.env t=.bool b):yielded ops a.tmps j=some b:=by
 have h:=hr.env t;rw[hb]at h;simp only[AU]at h;have rh:t<a.tmps.size:=by rw[hr.size];exact ht
 have h2:a.tmps[t]?=some (.bool b):=by
  rw[na rh];rw[oY,na rh]at h;simpa using h
 unfold yielded;cases ho:ops[j]? with
 | none=>rw[ho]at hj;cases hj
 | some o=>
  rw[ho]at hj;simp only[nS,mU]at hj;simp[hj,h2]
theorem T2 (hr:Rel F os s a w){ops:Array Oper}{j t:Nat}(hj:((ops[j]?).map (·.dst))=some (some t))(ht:t<s.n)(hb:s.env t=.un):yielded ops a.tmps j=none:=by
 have h:=hr.env t;rw[hb]at h;simp only[AU]at h;have rh:t<a.tmps.size:=by rw[hr.size];exact ht
 have h2:a.tmps[t]?=some undef:=by
  rw[na rh];rw[oY,na rh]at h;simpa using h
 unfold yielded;cases ho:ops[j]? with
 | none=>rw[ho]at hj;cases hj
 | some o=>
  rw[ho]at hj;simp only[nS,mU]at hj;simp[hj,h2,undef]
theorem VV (hr:Rel F os s a w){ops:Array Oper}{ds:List (Option Tmp)}{o:Oper}{A B:Prop}(ug :∀(j:Nat) d,ds[j]?=some d->(ops[j]?).map (·.dst)=some d)(hdn :∀d∈ds,Ce s.n d=true)(h:JJ ds o s A B):
  (Region.wanted o (yielded ops a.tmps)=true/\A)∨(Region.wanted o (yielded ops a.tmps)=false/\B):=by
 unfold JJ at h;unfold Region.wanted;split at h
 ·rename_i hg;rw[hg];exact .inl ⟨rfl,h⟩
 ·rename_i j want hg;rw[hg];dsimp only;split at h
  ·rename_i t ht;unfold Yo at h;split at h
   ·rename_i b hb;have rh:t<s.n:=by have:=hdn _ (mS ht);simpa [Ce] using this
    rw[Tl hr (ug j _ ht) rh hb];by_cases vw:b=want
    ·exact .inl ⟨by simp[vw],h.1 vw⟩
    ·exact .inr ⟨by simp[vw],h.2 vw⟩
   ·rename_i hb;have rh:t<s.n:=by have:=hdn _ (mS ht);simpa [Ce] using this
    rw[T2 hr (ug j _ ht) rh hb];exact .inr ⟨rfl,h⟩
   ·exact h.elim
  ·exact h.elim
theorem St.kE (s:St)(d:Option Tmp)(v:AV):(s.put d v).n=s.n:=by cases d<;>rfl
end Go.Abs
