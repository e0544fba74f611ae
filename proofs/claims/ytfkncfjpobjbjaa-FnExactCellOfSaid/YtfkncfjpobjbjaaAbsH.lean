import Derived.Test.YtfkncfjpobjbjaaAbsG
set_option linter.all false
namespace Go.Abs
open Go
variable {P : Program} {F : Nat -> Prop} {os : List Own} {s : St} {a : Act} {w : World} {k : Nat}
structure CA (F:Nat->Prop) (os:List Own) (st:List Row) (w:World):Prop where
 st:os.map Own.row=st
 rows :∀(i:Nat) (o:Own),os[i]?=some o->D2 F w os o
 inj :∀(i j:Nat) (oi oj:Own) (b:Nat),os[i]?=some oi->os[j]?=some oj->oi.owns b->oj.owns b->i=j
 CL :∀b,F b->b<w.heap.size
def AY (P:Program)(f:FuncId)(args:List AV)(st:List Row)(R:AV->List Row->Prop):Prop:=
 ∀F os w vs,CA F os st w->Ad F w os args vs->Calls P f vs.toArray w λe w'=>
  ∃v r st' F' os',e=.returned v/\R r st'/\CA F' os' st' w'/\AF F' w' os' r v/\Ext F os w F' os' w' st.length
def callThen (P:Program)(k:Nat)(s:St)(f:FuncId)(args:List AV)(d:Option Tmp)(K:St->Prop):Prop:=
 ∀F os a w vs,Rel F os s a w->Ad F w os args vs->Calls P f vs.toArray w λe w'=>
  ∃v r st' F' os',e=.returned v/\K ({ s with st:=st' }.put d r)/\Rel F' os' { s with st:=st' } a w'/\AF F' w' os' r v/\Ext F os w F' os' w' k
def JQ (v:AV)(K:FuncId->List AV->Prop):Prop:=
 match v with
 | .fn f Ul=>K f Ul
 | _=>False
def AZ (P:Program)(f:FuncId):Bool:=
 match P.funcs[f]? with
 | some fn=>fn.body.isSome&&!(fn.name == "runtime.NumGoroutine")
 | none=>false
def NK (P:Program)(src dst:TypeId)(x:AV)(K:AV->Prop):Prop:=
 match P.underlying src,P.underlying dst,x with
 | some _,some (.int k),.int _ n=>K (.int k (k.wrap n))
 | _,_,_=>False
def PT (x y:AV)(K:AV->Prop):Prop:=
 match x,y with
 | .int k a,.int _ b=>K (.int k (if b > a then b else a))
 | _,_=>False
def Ot (x y:AV)(K:AV->Prop):Prop:=
 match x,y with
 | .int k a,.int _ b=>K (.int k (if b<a then b else a))
 | _,_=>False
def DN (P:Program)(s:St)(op:Op)(K:AV->Prop):Prop:=
 match op with
 | .move x|.assign x=>K (s.ev x)
 | .pick c a b=>Ga (s.ev c) (s.ev a) (s.ev b) K
 | .nilCheck x=>K6 s.st (s.ev x) K
 | .binOp op t x y _=>JT P t op (s.ev x) (s.ev y) K
 | .unOp op _ x=>OH op (s.ev x) K
 | .convert src dst x=>NK P src dst (s.ev x) K
 | .load t p=>GU P s.st t (s.ev p) K
 | .fieldAddr t x f=>EK P t (s.ev x) f s.st K
 | .field t x f=>E3 P t (s.ev x) f K
 | .indexAddr t x i=>Dp P s.st t (s.ev x) (s.ev i) K
 | .extract x i=>Gv (s.ev x) i K
 | .build t parts=>Ld P t (parts.toList.map λp=>(p.1,s.ev p.2)) K
 | .makeFunc (.func f) first Ul=>first=#[]/\K (.fn f (Ul.toList.map s.ev))
 | .call ⟨.builtin .len,args,types⟩=>match args.toList,types.toList with
  | [x],[t]=>CM P t=true/\Nw s.st (s.ev x) K
  | _,_=>False
 | .call ⟨.builtin .max,args,_⟩=>match args.toList with
  | [x,y]=>PT (s.ev x) (s.ev y) K
  | _=>False
 | .call ⟨.builtin .min,args,_⟩=>match args.toList with
  | [x,y]=>Ot (s.ev x) (s.ev y) K
  | _=>False
 | _=>False
def LL (P:Program)(t:TypeId)(st:List Row)(x:AV)(K:AV->Prop):Prop:=
 CM P t=true/\match x with
 | .sl xs=>(xs=[]->K (.bool true))/\K (.bool false)
 | .zc=>K (.bool true)/\K (.bool false)
 | .own id g _=>Bk st[id]? λrow=>row.gen=g/\(row.xs=[]->K (.bool true))/\K (.bool false)
 | _=>False
theorem Jo {t e:TypeId}(hu:P.underlying t=some (.slice e))(a:Option Addr)(l c:Nat):(Op.equal t (.slice a l c) (.slice none 0 0)).run P w=.ok a.isNone w:=by
 have hd:∀d,(Op.equalIn (d+1) t (.slice a l c) (.slice none 0 0)).run P w=.ok a.isNone w:=λd=>by
  cases a<;>simp only[Op.equalIn,SW,SN hu,SH,SY]<;>rfl
 have:Op.maxDepth=9999+1:=rfl;unfold Op.equal;rw[this];exact hd 9999
theorem NU {t:TypeId}{x:AV}{ux:Value}{ox:Operand}{K:AV->Prop}(hr:Rel F os s a w)(h:LL P t s.st x K)(hx:AF F w os x ux):
  Yields P F w os (do eqGuard .eql t ox (.const (.slice none 0 0)) ux (.slice none 0 0);binOp .eql t ux (.slice none 0 0)) K:=by
 obtain⟨ht,h⟩:=h;unfold CM at ht;split at ht
 case h_2=>cases ht
 rename_i e hu;have UR:∀ad l c,(do eqGuard .eql t ox (.const (.slice none 0 0)) (.slice ad l c) (.slice none 0 0);binOp .eql t (.slice ad l c) (.slice none 0 0):Sem Value).run P w=.ok (.bool ad.isNone) w:=λad l c=>by
  have hg:(eqGuard .eql t ox (.const (.slice none 0 0)) (.slice ad l c) (.slice none 0 0)).run P w=.ok () w:=by
   unfold eqGuard;simp
  simp only[SW,hg,SH,binOp,Jo hu,SY]
 cases x with
 | sl xs=>
  simp only[AF]at hx;obtain⟨ad,cap,rfl,_,Ua⟩:=hx;by_cases he:xs=[]
  ·cases ad with
   | none=>exact .bool (h.1 he) (UR _ _ _)
   | some ad=>exact .bool h.2 (UR _ _ _)
  ·obtain⟨b,o,sz,rfl,_⟩:=Ua he;exact .bool h.2 (UR _ _ _)
 | zc=>
  simp only[AF]at hx;obtain⟨ad,rfl⟩:=hx;cases ad with
  | none=>exact .bool h.1 (UR _ _ _)
  | some ad=>exact .bool h.2 (UR _ _ _)
 | own id g n=>
  obtain⟨row,T4,hg,h1,h2⟩:=AU h;obtain⟨ow,how,rfl⟩:=hr.row T4;simp only[AF]at hx;obtain⟨o',UZ,W4,_,hv⟩:=hx;rw[how]at UZ;cases UZ;obtain⟨hl,hv⟩:=hv hg;rcases hv with ⟨hb,Vf,ad,rfl⟩|⟨b,_,rfl⟩
  ·have:=((hr.rows id ow how).nil hb Vf).1;cases ad with
   | none=>exact .bool (h1 this) (UR _ _ _)
   | some ad=>exact .bool h2 (UR _ _ _)
  ·exact .bool h2 (UR _ _ _)
 | _=>exact h.elim
def Nb (P:Program)(k:Nat)(s:St)(d:Option Tmp)(op:Op)(K:St->Prop):Prop:=
 match op with
 | .binOp .eql t x (.const (.slice none 0 0)) _=>LL P t s.st (s.ev x) λv=>K (s.put d v)
 | .alloc e=>Nt P e s.st λv st=>K ({ s with st:=st }.put d v)
 | .box e x=>QS e s.st (s.ev x) λv st=>K ({ s with st:=st }.put d v)
 | .store t p v=>LI P s.st t (s.ev p) (s.ev v) λst=>K ({ s with st:=st }.put d .Bl)
 | .makeSlice t l c=>NN P s.st t (s.ev l) (s.ev c) λv st=>K ({ s with st:=st }.put d v)
 | .buildSlice t len parts=>Fq P s.st t len (parts.toList.map λp=>(p.1,s.ev p.2)) λv st=>K ({ s with st:=st }.put d v)
 | .slice t x lo hi mx=>LO P s.st t (s.ev x) (lo.map s.ev) (hi.map s.ev) (mx.map s.ev) λv st=>K ({ s with st:=st }.put d v)
 | .call ⟨.builtin .append,args,types⟩=>match args.toList,types.toList with
  | [x,y],[t,t']=>t=t'/\Je P s.st t (s.ev x) (s.ev y) λv st=>K ({ s with st:=st }.put d v)
  | _,_=>False
 | .call ⟨.value f,args,_⟩=>JQ (s.ev f) λf Ul=>AZ P f=true/\callThen P k s f (args.toList.map s.ev++Ul) d K
 | _=>False
def D1:Op->Bool
 | .binOp .eql _ _ (.const (.slice none 0 0)) _=>true
 | .alloc _|.box ..|.store ..|.makeSlice ..|.buildSlice ..|.slice ..=>true
 | .call ⟨.builtin .append,_,_⟩=>true
 | .call ⟨.value _,_,_⟩=>true
 | _=>false
def D8 (P:Program)(k:Nat)(o:Oper)(s:St)(K:St->Prop):Prop:=
 if D1 o.op then Nb P k s o.dst o.op K else DN P s o.op λv=>K (s.put o.dst v)
theorem IP (hr:Rel F os s a w):∀l:List Operand,Ad F w os (l.map s.ev) (l.map a.eval)
 | []=>by simp[Ad]
 | x::l=>by simp only[SD,Ad];exact⟨_,_,rfl,hr.ev x,IP hr l⟩
theorem JK {o:Oper}{K:AV->Prop}(hr:Rel F os s a w)(h:DN P s o.op K):
  ∃x u,K x/\(execOp a.eval o).run P w=.ok (.value u) w/\AF F w os x u:=by
 have lift:∀{Wc:Sem Value},Yields P F w os Wc K->∃x u,K x/\(do pure (Next.value (← Wc)):Sem Next).run P w=.ok (.value u) w/\AF F w os x u:=λ⟨x,u,h1,h2,h3⟩=>
  ⟨x,u,h1,by simp[h2],h3⟩
 obtain⟨dst,op,ty,pos,after,guard⟩:=o;simp only at h;unfold DN at h;split at h
 case h_1=>exact⟨_,_,h,rfl,hr.ev _⟩
 case h_2=>exact⟨_,_,h,rfl,hr.ev _⟩
 case h_3 c p q=>
  obtain⟨x,u,h1,h2,h3⟩:=OL h (hr.ev _) (hr.ev _) (hr.ev _) (P:=P);refine⟨x,u,h1,?_,h3⟩;cases hb:(asBool (a.eval c)).run P w with
  | ok b w1=>simp[execOp,hb]at h2⊢;exact h2
  | halt e w1=>simp[hb]at h2
 case h_4 x=>
  obtain⟨v,h1,⟨ad,h2⟩,h3⟩:=Ow hr h (hr.ev _);exact⟨v,_,h1,by simp only[execOp,h2];rfl,by rw[<- h2];exact h3⟩
 case h_5=>exact lift (PV h (hr.ev _) (hr.ev _))
 case h_6=>exact lift (P7 h (hr.ev _))
 case h_7 src dst' x=>
  have hx:=hr.ev x;unfold NK at h;split at h
  ·rename_i d kk _ n h1 h2 h3;rw[h3]at hx;simp only[AF]at hx;refine lift (.int h ?_);simp[convert,SN h1,SN h2,hx,Conv.intToInt]
  ·exact h.elim
 case h_8=>exact lift (Kx hr h (hr.ev _))
 case h_9=>exact lift (JY hr h (hr.ev _))
 case h_10=>exact lift (Nd h (hr.ev _))
 case h_11=>exact lift (Jz hr h (hr.ev _) (hr.ev _))
 case h_12=>exact lift (LU h (hr.ev _))
 case h_13 t parts=>
  refine lift (Nc (uparts:=parts.map λ(i,x)=>(i,a.eval x)) h ?_ ?_)
  ·simp
  ·intro i p up hp ZE;simp only[Rs,Rv,Tu]at hp ZE;obtain⟨q,hq,rfl⟩:=hp;obtain⟨q',Wh,rfl⟩:=ZE;rw[hq]at Wh;cases Wh;exact hr.ev _
 case h_14 f first Ul=>
  obtain⟨rfl,hk⟩:=h;refine⟨_,.func (.func f) #[] (Ul.map a.eval),hk,by simp[execOp,Instr.makeFunc],?_⟩;simp only[AF];exact⟨Ul.toList.map a.eval,by apply congrArg;apply TK;simp,IP hr _⟩
 case h_15 args types=>
  split at h
  ·rename_i x t h1 h2;obtain⟨ht,h⟩:=h;obtain⟨v,u,e1,e2,e3⟩:=PA (ty:=ty) hr ht h (hr.ev x);refine⟨v,u,e1,?_,e3⟩;have ha:args=#[x]:=by apply TK;simpa using h1
   have cl:types=#[t]:=by apply TK;simpa using h2
   subst ha;subst cl;simp[execOp,resolve,invoke,builtin,e2]
  ·exact h.elim
 case h_16 args types=>
  split at h
  ·rename_i x y h1;have ha:args=#[x,y]:=by apply TK;simpa using h1
   subst ha;have hx:=hr.ev x;have hy:=hr.ev y;unfold PT at h;split at h
   ·rename_i e1 e2;rw[e1]at hx;rw[e2]at hy;simp only[AF]at hx hy;exact⟨_,_,h,by simp[execOp,resolve,invoke,builtin,Builtin.max_,Builtin.max2,hx,hy];rfl,by simp[AF]⟩
   ·exact h.elim
  ·exact h.elim
 case h_17 args types=>
  split at h
  ·rename_i x y h1;have ha:args=#[x,y]:=by apply TK;simpa using h1
   subst ha;have hx:=hr.ev x;have hy:=hr.ev y;unfold Ot at h;split at h
   ·rename_i e1 e2;rw[e1]at hx;rw[e2]at hy;simp only[AF]at hx hy;exact⟨_,_,h,by simp[execOp,resolve,invoke,builtin,Builtin.min_,Builtin.min2,hx,hy];rfl,by simp[AF]⟩
   ·exact h.elim
  ·exact h.elim
 case h_18=>exact h.elim
theorem Rel.store (hr:Rel F os s a w):CA F os s.st w:=⟨hr.st,hr.rows,hr.inj,hr.CL⟩
def Step (k n:Nat)(F:Nat->Prop)(os:List Own)(w:World)(K:St->Prop)(a':Act)(w':World):Prop:=
 ∃s' F' os',s'.n=n/\K s'/\Rel F' os' s' a' w'/\Ext F os w F' os' w' k
theorem H2 {K:St->Prop}{d:Option Tmp}{st':List Row}{F':Nat->Prop}{os':List Own}{w':World}{v:AV}{u:Value}(hd:Bo s.n d=true)
  (hk:K ({ s with st:=st' }.put d v)) (hr:Rel F' os' { s with st:=st' } a w') (hv:AF F' w' os' v u) (he:Ext F os w F' os' w' k):Step k s.n F os w K (a.put d u) w':=
 ⟨_,F',os',by cases d<;>rfl,hk,hr.put hd hv,he⟩
theorem Ks {o:Oper}{K:St->Prop}(hr:Rel F os s a w)(hd:Bo s.n o.dst=true)(h:Nb P k s o.dst o.op K){next:Act->World->Prop}{Q:Exit->Act->World->Prop}
  (hn :∀a' w',Step k s.n F os w K a' w'->next a' w'):o.wp P a w next Q:=by
 have lift:∀{Wc:Sem Value} {K':AV->List Row->Prop},CU P k F os s a w Wc K'->(∀v st,K' v st->K ({ s with st:=st }.put o.dst v))->
   o.upon P a next Q ((do pure (Next.value (← Wc)):Sem Next).run P w):=λ⟨v,st',u,w',os',h1,h2,h3,h4,h5⟩ hK=>by
  simp only[SW,h2,SH,SY,Oper.upon];exact hn _ _ (H2 hd (hK _ _ h1) h3 h4 h5)
 obtain⟨dst,op,ty,pos,after,guard⟩:=o;simp only at h hd lift;unfold Nb at h;unfold Oper.wp;split at h
 case h_1 t x yT=>
  obtain⟨v,u,h1,h2,h3⟩:=NU (P:=P) (ox:=x) hr h (hr.ev x);have gr:(execOp a.eval ⟨dst,.binOp .eql t x (.const (.slice none 0 0)) yT,ty,pos,after,guard⟩).run P w=.ok (.value u) w:=by
   simp only[execOp,Act.eval,SW,SY]at h2⊢;rw[h2];rfl
  rw[gr];exact hn _ _ ⟨_,F,os,by cases dst<;>rfl,h1,hr.put hd h3,BN _ _ _ _⟩
 case h_2 e=>simp only[execOp];exact lift (NA hr h) (λ_ _ h=>h)
 case h_3 e x=>simp only[execOp];exact lift (PQ hr h (hr.ev _)) (λ_ _ h=>h)
 case h_4 t p v=>
  obtain⟨st',w',os',h1,h2,h3,h4⟩:=NL (k:=k) hr h (hr.ev _) (hr.ev _);simp only[execOp,SW,h2,SH,SY,Oper.upon];exact hn _ _ (H2 hd h1 h3 (by simp[AF]) h4)
 case h_5 t l c=>simp only[execOp];exact lift (OT hr h (hr.ev _) (hr.ev _)) (λ_ _ h=>h)
 case h_6 t len parts=>
  have h9:CU P k F os s a w (Instr.buildSlice t len (parts.map λ(i,x)=>(i,a.eval x))) _:=F4 hr h (by simp) (λi p up hp ZE=>by
   simp only[Rs,Rv,Tu]at hp ZE;obtain⟨q,hq,rfl⟩:=hp;obtain⟨q',Wh,rfl⟩:=ZE;rw[hq]at Wh;cases Wh;exact hr.ev _)
  exact lift h9 (λ_ _ h=>h)
 case h_7 t x lo hi mx=>
  have hO:∀o:Option Operand,H0 F w os (o.map s.ev) (o.map a.eval):=λo=>by
   cases o with
   | none=>simp[H0]
   | some x=>simpa [H0] using hr.ev x
  simp only[execOp];exact lift (Ms hr h (hr.ev _) (hO _) (hO _) (hO _)) (λ_ _ h=>h)
 case h_8 args types=>
  split at h
  ·rename_i x y t t' h1 h2;obtain⟨rfl,h⟩:=h;have ha:args=#[x,y]:=by apply TK;simpa using h1
   have cl:types=#[t,t]:=by apply TK;simpa using h2
   subst ha;subst cl;have:=lift (MQ (ty:=ty) hr h (hr.ev _) (hr.ev _)) (λ_ _ h=>h);simpa [execOp,resolve,invoke,builtin] using this
  ·exact h.elim
 case h_9 f args types=>
  have hf:=hr.ev f;unfold JQ at h;split at h
  ·rename_i g Ul gu;rw[gu]at hf;simp only[AF]at hf;obtain⟨us,hfu,hus⟩:=hf;obtain⟨Wi,hc⟩:=h;have hl:Ad F w os (args.toList.map s.ev++Ul) (args.toList.map a.eval++us):=by
    have h1:=IP hr args.toList;have l1:=Ab h1;have l2:=Ab hus;refine BP (by simp[l2]) λi x u hx hu=>?_;by_cases hi:i<args.toList.length
    ·rw[Rx (by simpa using hi)]at hx hu;obtain⟨u',e1,e2⟩:=Al h1 i x hx;rw[hu]at e1;cases e1;exact e2
    ·rw[Rz (by simpa using hi)]at hx hu;simp only[SF]at hx hu;obtain⟨u',e1,e2⟩:=Al hus _ x hx;rw[hu]at e1;cases e1;exact e2
   have ZF:=hc F os a w _ hr hl;unfold AZ at Wi;split at Wi
   ·rename_i fn cm;simp only[SP,TY]at Wi;have cn:fn.body.isNone=false:=by cases hb:fn.body<;>simp_all
    have Vg:(args.toList.map a.eval++us).toArray=args.map a.eval++us.toArray:=by apply TK;simp
    rw[Vg]at ZF;simp only[execOp,resolve,hfu,Deferred.ofValue,SW,SY,SH,invoke,callFunc,run_program,cm,Wi.2,cn,Array.empty_append,R4,Sa,Oper.upon];refine ZF.mono ?_;rintro e w' ⟨v,r,st',F',os',rfl,hk,VS,hv,he⟩;exact hn _ _ (H2 hd hk VS hv he)
   ·cases Wi
  ·exact h.elim
 case h_10=>exact h.elim
theorem OQ {o:Oper}{K:St->Prop}(hr:Rel F os s a w)(hd:Bo s.n o.dst=true)(h:D8 P k o s K){next:Act->World->Prop}{Q:Exit->Act->World->Prop}
  (hn :∀a' w',Step k s.n F os w K a' w'->next a' w'):o.wp P a w next Q:=by
 unfold D8 at h;split at h
 ·exact Ks hr hd h hn
 ·obtain⟨x,u,h1,h2,h3⟩:=JK hr h;unfold Oper.wp;rw[h2];exact hn _ _ ⟨_,F,os,by cases o.dst<;>rfl,h1,hr.put hd h3,BN _ _ _ _⟩
def aG (b want:Bool)(A B:Prop):Prop:=(b=want->A)/\(b≠want->B)
def MZ (v:AV)(want:Bool)(A B:Prop):Prop:=
 match v with
 | .bool b=>aG b want A B
 | .un=>B
 | _=>False
def Dc (ds:List (Option Tmp))(o:Oper)(s:St)(A B:Prop):Prop:=
 match o.guard with
 | none=>A
 | some (j,want)=>match ds[j]? with
  | some (some t)=>MZ (s.env t) want A B
  | _=>False
theorem Im (hr:Rel F os s a w){ops:Array Oper}{j t:Nat}{b:Bool}(hj:((ops[j]?).map (·.dst))=some (some t))(ht:t<s.n)(hb:s.env t=.bool b):yielded ops a.tmps j=some b:=by
 have h:=hr.env t;rw[hb]at h;simp only[AF]at h;have UM:t<a.tmps.size:=by rw[hr.size];exact ht
 have h2:a.tmps[t]?=some (.bool b):=by
  rw[Sl UM];rw[So,Sl UM]at h;simpa using h
 unfold yielded;cases ho:ops[j]? with
 | none=>rw[ho]at hj;cases hj
 | some o=>
  rw[ho]at hj;simp only[SG,Rr]at hj;simp[hj,h2]
theorem Il (hr:Rel F os s a w){ops:Array Oper}{j t:Nat}(hj:((ops[j]?).map (·.dst))=some (some t))(ht:t<s.n)(hb:s.env t=.un):yielded ops a.tmps j=none:=by
 have h:=hr.env t;rw[hb]at h;simp only[AF]at h;have UM:t<a.tmps.size:=by rw[hr.size];exact ht
 have h2:a.tmps[t]?=some undef:=by
  rw[Sl UM];rw[So,Sl UM]at h;simpa using h
 unfold yielded;cases ho:ops[j]? with
 | none=>rw[ho]at hj;cases hj
 | some o=>
  rw[ho]at hj;simp only[SG,Rr]at hj;simp[hj,h2,undef]
theorem HM (hr:Rel F os s a w){ops:Array Oper}{ds:List (Option Tmp)}{o:Oper}{A B:Prop}(Vk :∀(j:Nat) d,ds[j]?=some d->(ops[j]?).map (·.dst)=some d)(ZG :∀d∈ds,Bo s.n d=true)(h:Dc ds o s A B):
  (Region.wanted o (yielded ops a.tmps)=true/\A)∨(Region.wanted o (yielded ops a.tmps)=false/\B):=by
 unfold Dc at h;unfold Region.wanted;split at h
 ·rename_i hg;rw[hg];exact .inl ⟨rfl,h⟩
 ·rename_i j want hg;rw[hg];dsimp only;split at h
  ·rename_i t ht;unfold MZ at h;split at h
   ·rename_i b hb;have UM:t<s.n:=by have:=ZG _ (Ro ht);simpa [Bo] using this
    rw[Im hr (Vk j _ ht) UM hb];by_cases X9:b=want
    ·exact .inl ⟨by simp[X9],h.1 X9⟩
    ·exact .inr ⟨by simp[X9],h.2 X9⟩
   ·rename_i hb;have UM:t<s.n:=by have:=ZG _ (Ro ht);simpa [Bo] using this
    rw[Il hr (Vk j _ ht) UM hb];exact .inr ⟨rfl,h⟩
   ·exact h.elim
  ·exact h.elim
theorem St.QZ (s:St)(d:Option Tmp)(v:AV):(s.put d v).n=s.n:=by cases d<;>rfl
end Go.Abs
