import Derived.Test.YtihdgoiebmfapaaGreatAbsG
set_option linter.all false
namespace Go.Abs
open Go
variable {P : Program} {F : Nat -> Prop} {os : List Own} {s : St} {a : Act} {w : World} {k : Nat}
structure Hc (F:Nat->Prop) (os:List Own) (st:List Row) (w:World):Prop where
 st:os.map Own.row=st
 rows :∀(i:Nat) (o:Own),os[i]?=some o->Ma F w os o
 inj :∀(i j:Nat) (oi oj:Own) (b:Nat),os[i]?=some oi->os[j]?=some oj->oi.owns b->oj.owns b->i=j
 Fu :∀b,F b->b<w.heap.size
def BJ (P:Program)(f:FuncId)(args:List AV)(st:List Row)(R:AV->List Row->Prop):Prop:=
 ∀F os w vs,Hc F os st w->Br F w os args vs->Calls P f vs.toArray w λe w'=>
  ∃v r st' F' os',e=.returned v/\R r st'/\Hc F' os' st' w'/\Ab F' w' os' r v/\Ext F os w F' os' w' st.length
def callThen (P:Program)(k:Nat)(s:St)(f:FuncId)(args:List AV)(d:Option Tmp)(K:St->Prop):Prop:=
 ∀F os a w vs,Rel F os s a w->Br F w os args vs->Calls P f vs.toArray w λe w'=>
  ∃v r st' F' os',e=.returned v/\K ({ s with st:=st' }.put d r)/\Rel F' os' { s with st:=st' } a w'/\Ab F' w' os' r v/\Ext F os w F' os' w' k
def Xo (v:AV)(K:FuncId->List AV->Prop):Prop:=
 match v with
 |.fn f vO=>K f vO
 |_=>False
def Cq (P:Program)(f:FuncId):Bool:=
 match P.funcs[f]? with
 |some fn=>fn.body.isSome&&!(fn.name == "runtime.NumGoroutine")
 |none=>false
def YP (P:Program)(src dst:TypeId)(x:AV)(K:AV->Prop):Prop:=
 match P.underlying src,P.underlying dst,x with
 |some _,some (.int k),.int _ n=>K (.int k (k.wrap n))
 |_,_,_=>False
def kO (x y:AV)(K:AV->Prop):Prop:=
 match x,y with
 |.int k a,.int _ b=>K (.int k (if b > a then b else a))
 |_,_=>False
def iu (x y:AV)(K:AV->Prop):Prop:=
 match x,y with
 |.int k a,.int _ b=>K (.int k (if b<a then b else a))
 |_,_=>False
def KE (P:Program)(s:St)(op:Op)(K:AV->Prop):Prop:=
 match op with
 |.move x|.assign x=>K (s.ev x)
 |.pick c a b=>QI (s.ev c) (s.ev a) (s.ev b) K
 |.nilCheck x=>ZW s.st (s.ev x) K
 |.binOp op t x y _=>XY P t op (s.ev x) (s.ev y) K
 |.unOp op _ x=>gu op (s.ev x) K
 |.convert src dst x=>YP P src dst (s.ev x) K
 |.load t p=>QS P s.st t (s.ev p) K
 |.fieldAddr t x f=>MM P t (s.ev x) f s.st K
 |.field t x f=>N9 P t (s.ev x) f K
 |.indexAddr t x i=>It P s.st t (s.ev x) (s.ev i) K
 |.extract x i=>RH (s.ev x) i K
 |.build t parts=>ay P t (parts.toList.map λp=>(p.1,s.ev p.2)) K
 |.makeFunc (.func f) first vO=>first=#[]/\K (.fn f (vO.toList.map s.ev))
 |.call ⟨.builtin .len,args,types⟩=>match args.toList,types.toList with
  | [x],[t]=>DG P t=true/\fu s.st (s.ev x) K
  |_,_=>False
 |.call ⟨.builtin .max,args,_⟩=>match args.toList with
  | [x,y]=>kO (s.ev x) (s.ev y) K
  |_=>False
 |.call ⟨.builtin .min,args,_⟩=>match args.toList with
  | [x,y]=>iu (s.ev x) (s.ev y) K
  |_=>False
 |_=>False
def aP (P:Program)(t:TypeId)(st:List Row)(x:AV)(K:AV->Prop):Prop:=
 DG P t=true/\match x with
 |.sl xs=>(xs=[]->K (.bool true))/\K (.bool false)
 |.zc=>K (.bool true)/\K (.bool false)
 |.own id g _=>GK st[id]? λrow=>row.gen=g/\(row.xs=[]->K (.bool true))/\K (.bool false)
 |_=>False
theorem XA {t e:TypeId}(hu:P.underlying t=some (.slice e))(a:Option Addr)(l c:Nat):(Op.equal t (.slice a l c) (.slice none 0 0)).run P w=.ok a.isNone w:=by
 have hd:∀d,(Op.equalIn (d+1) t (.slice a l c) (.slice none 0 0)).run P w=.ok a.isNone w:=λd=>by
  cases a<;>simp only[Op.equalIn,qG,qQ hu,qD,qV]<;>rfl
 have:Op.maxDepth=9999+1:=rfl;unfold Op.equal;rw[this];exact hd 9999
theorem fC {t:TypeId}{x:AV}{ux:Value}{ox:Operand}{K:AV->Prop}(hr:Rel F os s a w)(h:aP P t s.st x K)(hx:Ab F w os x ux):
  Yields P F w os (do eqGuard .eql t ox (.const (.slice none 0 0)) ux (.slice none 0 0);binOp .eql t ux (.slice none 0 0)) K:=by
 obtain⟨ht,h⟩:=h;unfold DG at ht;split at ht
 case h_2=>cases ht
 rename_i e hu;have uP:∀ad l c,(do eqGuard .eql t ox (.const (.slice none 0 0)) (.slice ad l c) (.slice none 0 0);binOp .eql t (.slice ad l c) (.slice none 0 0):Sem Value).run P w=.ok (.bool ad.isNone) w:=λad l c=>by
  have hg:(eqGuard .eql t ox (.const (.slice none 0 0)) (.slice ad l c) (.slice none 0 0)).run P w=.ok () w:=by
   unfold eqGuard;simp
  simp only[qG,hg,qD,binOp,XA hu,qV]
 cases x with
 |sl xs=>
  simp only[Ab]at hx;obtain⟨ad,cap,rfl,_,uq⟩:=hx;by_cases he:xs=[]
  .cases ad with
   |none=>exact .bool (h.1 he) (uP _ _ _)
   |some ad=>exact .bool h.2 (uP _ _ _)
  .obtain⟨b,o,sz,rfl,_⟩:=uq he;exact .bool h.2 (uP _ _ _)
 |zc=>
  simp only[Ab]at hx;obtain⟨ad,rfl⟩:=hx;cases ad with
  |none=>exact .bool h.1 (uP _ _ _)
  |some ad=>exact .bool h.2 (uP _ _ _)
 |own id g n=>
  obtain⟨row,tv,hg,h1,h2⟩:=BN h;obtain⟨ow,how,rfl⟩:=hr.row tv;simp only[Ab]at hx;obtain⟨o',uw,xX,_,hv⟩:=hx;rw[how]at uw;cases uw;obtain⟨hl,hv⟩:=hv hg;rcases hv with ⟨hb,ad,rfl⟩|⟨b,_,rfl⟩
  .have:=((hr.rows id ow how).none hb).1;cases ad with
   |none=>exact .bool (h1 this) (uP _ _ _)
   |some ad=>exact .bool h2 (uP _ _ _)
  .exact .bool h2 (uP _ _ _)
 |_=>exact h.elim
def eM (P:Program)(k:Nat)(s:St)(d:Option Tmp)(op:Op)(K:St->Prop):Prop:=
 match op with
 |.binOp .eql t x (.const (.slice none 0 0)) _=>aP P t s.st (s.ev x) λv=>K (s.put d v)
 |.alloc e=>fR P e s.st λv st=>K ({ s with st:=st }.put d v)
 |.box e x=>mC e s.st (s.ev x) λv st=>K ({ s with st:=st }.put d v)
 |.store t p v=>Zy P s.st t (s.ev p) (s.ev v) λst=>K ({ s with st:=st }.put d .FZ)
 |.makeSlice t l c=>eX P s.st t (s.ev l) (s.ev c) λv st=>K ({ s with st:=st }.put d v)
 |.buildSlice t len parts=>Pc P s.st t len (parts.toList.map λp=>(p.1,s.ev p.2)) λv st=>K ({ s with st:=st }.put d v)
 |.slice t x lo hi mx=>Wv P s.st t (s.ev x) (lo.map s.ev) (hi.map s.ev) (mx.map s.ev) λv st=>K ({ s with st:=st }.put d v)
 |.call ⟨.builtin .append,args,types⟩=>match args.toList,types.toList with
  | [x,y],[t,t']=>t=t'/\X8 P s.st t (s.ev x) (s.ev y) λv st=>K ({ s with st:=st }.put d v)
  |_,_=>False
 |.call ⟨.value f,args,_⟩=>Xo (s.ev f) λf vO=>Cq P f=true/\callThen P k s f (args.toList.map s.ev++vO) d K
 |_=>False
def Kk:Op->Bool
 |.binOp .eql _ _ (.const (.slice none 0 0)) _=>true
 |.alloc _|.box ..|.store ..|.makeSlice ..|.buildSlice ..|.slice ..=>true
 |.call ⟨.builtin .append,_,_⟩=>true
 |.call ⟨.value _,_,_⟩=>true
 |_=>false
def Lp (P:Program)(k:Nat)(o:Oper)(s:St)(K:St->Prop):Prop:=
 if Kk o.op then eM P k s o.dst o.op K else KE P s o.op λv=>K (s.put o.dst v)
theorem U5 (hr:Rel F os s a w):∀l:List Operand,Br F w os (l.map s.ev) (l.map a.eval)
 | []=>by simp[Br]
 |x::l=>by simp only[pc,Br];exact⟨_,_,rfl,hr.ev x,U5 hr l⟩
theorem SN {o:Oper}{K:AV->Prop}(hr:Rel F os s a w)(h:KE P s o.op K):
  ∃x u,K x/\(execOp a.eval o).run P w=.ok (.value u) w/\Ab F w os x u:=by
 have lift:∀{yc:Sem Value},Yields P F w os yc K->∃x u,K x/\(do pure (Next.value (← yc)):Sem Next).run P w=.ok (.value u) w/\Ab F w os x u:=λ⟨x,u,h1,h2,h3⟩=>
  ⟨x,u,h1,by simp[h2],h3⟩
 obtain⟨dst,op,ty,pos,after,guard⟩:=o;simp only at h;unfold KE at h;split at h
 case h_1=>exact⟨_,_,h,rfl,hr.ev _⟩
 case h_2=>exact⟨_,_,h,rfl,hr.ev _⟩
 case h_3 c p q=>
  obtain⟨x,u,h1,h2,h3⟩:=gb h (hr.ev _) (hr.ev _) (hr.ev _) (P:=P);refine⟨x,u,h1,?_,h3⟩;cases hb:(asBool (a.eval c)).run P w with
  |ok b w1=>simp[execOp,hb]at h2⊢;exact h2
  |halt e w1=>simp[hb]at h2
 case h_4 x=>
  obtain⟨v,h1,⟨ad,h2⟩,h3⟩:=kR hr h (hr.ev _);exact⟨v,_,h1,by simp only[execOp,h2];rfl,by rw[<- h2];exact h3⟩
 case h_5=>exact lift (jI h (hr.ev _) (hr.ev _))
 case h_6=>exact lift (lK h (hr.ev _))
 case h_7 src dst' x=>
  have hx:=hr.ev x;unfold YP at h;split at h
  .rename_i d kk _ n h1 h2 h3;rw[h3]at hx;simp only[Ab]at hx;refine lift (.int h ?_);simp[convert,qQ h1,qQ h2,hx,Conv.intToInt]
  .exact h.elim
 case h_8=>exact lift (Zo hr h (hr.ev _))
 case h_9=>exact lift (YJ hr h (hr.ev _))
 case h_10=>exact lift (eY h (hr.ev _))
 case h_11=>exact lift (XW hr h (hr.ev _) (hr.ev _))
 case h_12=>exact lift (aw h (hr.ev _))
 case h_13 t parts=>
  refine lift (eb (uparts:=parts.map λ(i,x)=>(i,a.eval x)) h ?_ ?_)
  .simp
  .intro i p up hp hup;simp only[pB,pH,tB]at hp hup;obtain⟨q,hq,rfl⟩:=hp;obtain⟨q',zT,rfl⟩:=hup;rw[hq]at zT;cases zT;exact hr.ev _
 case h_14 f first vO=>
  obtain⟨rfl,hk⟩:=h;refine⟨_,.func (.func f) #[] (vO.map a.eval),hk,by simp[execOp,Instr.makeFunc],?_⟩;simp only[Ab];exact⟨vO.toList.map a.eval,by apply qX;apply rv;simp,U5 hr _⟩
 case h_15 args types=>
  split at h
  .rename_i x t h1 h2;obtain⟨ht,h⟩:=h;obtain⟨v,u,e1,e2,e3⟩:=jf (ty:=ty) hr ht h (hr.ev x);refine⟨v,u,e1,?_,e3⟩;have ha:args=#[x]:=by apply rv;simpa using h1
   have htt:types=#[t]:=by apply rv;simpa using h2
   subst ha;subst htt;simp[execOp,resolve,invoke,builtin,e2]
  .exact h.elim
 case h_16 args types=>
  split at h
  .rename_i x y h1;have ha:args=#[x,y]:=by apply rv;simpa using h1
   subst ha;have hx:=hr.ev x;have hy:=hr.ev y;unfold kO at h;split at h
   .rename_i e1 e2;rw[e1]at hx;rw[e2]at hy;simp only[Ab]at hx hy;exact⟨_,_,h,by simp[execOp,resolve,invoke,builtin,Builtin.max_,Builtin.max2,hx,hy];rfl,by simp[Ab]⟩
   .exact h.elim
  .exact h.elim
 case h_17 args types=>
  split at h
  .rename_i x y h1;have ha:args=#[x,y]:=by apply rv;simpa using h1
   subst ha;have hx:=hr.ev x;have hy:=hr.ev y;unfold iu at h;split at h
   .rename_i e1 e2;rw[e1]at hx;rw[e2]at hy;simp only[Ab]at hx hy;exact⟨_,_,h,by simp[execOp,resolve,invoke,builtin,Builtin.min_,Builtin.min2,hx,hy];rfl,by simp[Ab]⟩
   .exact h.elim
  .exact h.elim
 case h_18=>exact h.elim
theorem Rel.store (hr:Rel F os s a w):Hc F os s.st w:=⟨hr.st,hr.rows,hr.inj,hr.Fu⟩
def Step (k n:Nat)(F:Nat->Prop)(os:List Own)(w:World)(K:St->Prop)(a':Act)(w':World):Prop:=
 ∃s' F' os',s'.n=n/\K s'/\Rel F' os' s' a' w'/\Ext F os w F' os' w' k
theorem QY {K:St->Prop}{d:Option Tmp}{st':List Row}{F':Nat->Prop}{os':List Own}{w':World}{v:AV}{u:Value}(hd:Cy s.n d=true)
  (hk:K ({ s with st:=st' }.put d v)) (hr:Rel F' os' { s with st:=st' } a w') (hv:Ab F' w' os' v u) (he:Ext F os w F' os' w' k):Step k s.n F os w K (a.put d u) w':=
 ⟨_,F',os',by cases d<;>rfl,hk,hr.put hd hv,he⟩
theorem Lx {o:Oper}{K:St->Prop}(hr:Rel F os s a w)(hd:Cy s.n o.dst=true)(h:eM P k s o.dst o.op K){next:Act->World->Prop}{Q:Exit->Act->World->Prop}
  (hn :∀a' w',Step k s.n F os w K a' w'->next a' w'):o.wp P a w next Q:=by
 have lift:∀{yc:Sem Value} {K':AV->List Row->Prop},Ig P k F os s a w yc K'->(∀v st,K' v st->K ({ s with st:=st }.put o.dst v))->
   o.upon P a next Q ((do pure (Next.value (← yc)):Sem Next).run P w):=λ⟨v,st',u,w',os',h1,h2,h3,h4,h5⟩ hK=>by
  simp only[qG,h2,qD,qV,Oper.upon];exact hn _ _ (QY hd (hK _ _ h1) h3 h4 h5)
 obtain⟨dst,op,ty,pos,after,guard⟩:=o;simp only at h hd lift;unfold eM at h;unfold Oper.wp;split at h
 case h_1 t x yT=>
  obtain⟨v,u,h1,h2,h3⟩:=fC (P:=P) (ox:=x) hr h (hr.ev x);have h2':(execOp a.eval ⟨dst,.binOp .eql t x (.const (.slice none 0 0)) yT,ty,pos,after,guard⟩).run P w=.ok (.value u) w:=by
   simp only[execOp,Act.eval,qG,qV]at h2⊢;rw[h2];rfl
  rw[h2'];exact hn _ _ ⟨_,F,os,by cases dst<;>rfl,h1,hr.put hd h3,Ext.refl _ _ _ _⟩
 case h_2 e=>simp only[execOp];exact lift (dq hr h) (λ_ _ h=>h)
 case h_3 e x=>simp only[execOp];exact lift (ir hr h (hr.ev _)) (λ_ _ h=>h)
 case h_4 t p v=>
  obtain⟨st',w',os',h1,h2,h3,h4⟩:=ec (k:=k) hr h (hr.ev _) (hr.ev _);simp only[execOp,qG,h2,qD,qV,Oper.upon];exact hn _ _ (QY hd h1 h3 (by simp[Ab]) h4)
 case h_5 t l c=>simp only[execOp];exact lift (Zp hr h (hr.ev _) (hr.ev _)) (λ_ _ h=>h)
 case h_6 t len parts=>
  have h9:Ig P k F os s a w (Instr.buildSlice t len (parts.map λ(i,x)=>(i,a.eval x))) _:=Px hr h (by simp) (λi p up hp hup=>by
   simp only[pB,pH,tB]at hp hup;obtain⟨q,hq,rfl⟩:=hp;obtain⟨q',zT,rfl⟩:=hup;rw[hq]at zT;cases zT;exact hr.ev _)
  exact lift h9 (λ_ _ h=>h)
 case h_7 t x lo hi mx=>
  have hO:∀o:Option Operand,TR F w os (o.map s.ev) (o.map a.eval):=λo=>by
   cases o with
   |none=>simp[TR]
   |some x=>simpa [TR] using hr.ev x
  simp only[execOp];exact lift (dX hr h (hr.ev _) (hO _) (hO _) (hO _)) (λ_ _ h=>h)
 case h_8 args types=>
  split at h
  .rename_i x y t t' h1 h2;obtain⟨rfl,h⟩:=h;have ha:args=#[x,y]:=by apply rv;simpa using h1
   have htt:types=#[t,t]:=by apply rv;simpa using h2
   subst ha;subst htt;have:=lift (br (ty:=ty) hr h (hr.ev _) (hr.ev _)) (λ_ _ h=>h);simpa [execOp,resolve,invoke,builtin] using this
  .exact h.elim
 case h_9 f args types=>
  have hf:=hr.ev f;unfold Xo at h;split at h
  .rename_i g vO hfe;rw[hfe]at hf;simp only[Ab]at hf;obtain⟨us,hfu,hus⟩:=hf;obtain⟨zB,hc⟩:=h;have hl:Br F w os (args.toList.map s.ev++vO) (args.toList.map a.eval++us):=by
    have h1:=U5 hr args.toList;have l1:=BX h1;have l2:=BX hus;refine Db (by simp[l2]) λi x u hx hu=>?_;by_cases hi:i<args.toList.length
    .rw[pM (by simpa using hi)]at hx hu;obtain⟨u',e1,e2⟩:=CH h1 i x hx;rw[hu]at e1;cases e1;exact e2
    .rw[pN (by simpa using hi)]at hx hu;simp only[pR]at hx hu;obtain⟨u',e1,e2⟩:=CH hus _ x hx;rw[hu]at e1;cases e1;exact e2
   have hcall:=hc F os a w _ hr hl;unfold Cq at zB;split at zB
   .rename_i fn hfn;simp only[pZ,sQ]at zB;have hnb:fn.body.isNone=false:=by cases hb:fn.body<;>simp_all
    have yJ:(args.toList.map a.eval++us).toArray=args.map a.eval++us.toArray:=by apply rv;simp
    rw[yJ]at hcall;simp only[execOp,resolve,hfu,Deferred.ofValue,qG,qV,qD,invoke,callFunc,run_program,hfn,zB.2,hnb,Array.empty_append,pD,pV,Oper.upon];refine hcall.mono ?_;rintro e w' ⟨v,r,st',F',os',rfl,hk,vg,hv,he⟩;exact hn _ _ (QY hd hk vg hv he)
   .cases zB
  .exact h.elim
 case h_10=>exact h.elim
theorem iX {o:Oper}{K:St->Prop}(hr:Rel F os s a w)(hd:Cy s.n o.dst=true)(h:Lp P k o s K){next:Act->World->Prop}{Q:Exit->Act->World->Prop}
  (hn :∀a' w',Step k s.n F os w K a' w'->next a' w'):o.wp P a w next Q:=by
 unfold Lp at h;split at h
 .exact Lx hr hd h hn
 .obtain⟨x,u,h1,h2,h3⟩:=SN hr h;unfold Oper.wp;rw[h2];exact hn _ _ ⟨_,F,os,by cases o.dst<;>rfl,h1,hr.put hd h3,Ext.refl _ _ _ _⟩
def aG (b want:Bool)(A B:Prop):Prop:=(b=want->A)/\(b≠want->B)
def cC (v:AV)(want:Bool)(A B:Prop):Prop:=
 match v with
 |.bool b=>aG b want A B
 |.un=>B
 |_=>False
def Jf (ds:List (Option Tmp))(o:Oper)(s:St)(A B:Prop):Prop:=
 match o.guard with
 |none=>A
 |some (j,want)=>match ds[j]? with
  |some (some t)=>cC (s.env t) want A B
  |_=>False
theorem V8 (hr:Rel F os s a w){ops:Array Oper}{j t:Nat}{b:Bool}(hj:((ops[j]?).map (·.dst))=some (some t))(ht:t<s.n)(hb:s.env t=.bool b):yielded ops a.tmps j=some b:=by
 have h:=hr.env t;rw[hb]at h;simp only[Ab]at h;have uU:t<a.tmps.size:=by rw[hr.size];exact ht
 have h2:a.tmps[t]?=some (.bool b):=by
  rw[qh uU];rw[qm,qh uU]at h;simpa using h
 unfold yielded;cases ho:ops[j]? with
 |none=>rw[ho]at hj;cases hj
 |some o=>
  rw[ho]at hj;simp only[qF,pC]at hj;simp[hj,h2]
theorem Vf (hr:Rel F os s a w){ops:Array Oper}{j t:Nat}(hj:((ops[j]?).map (·.dst))=some (some t))(ht:t<s.n)(hb:s.env t=.un):yielded ops a.tmps j=none:=by
 have h:=hr.env t;rw[hb]at h;simp only[Ab]at h;have uU:t<a.tmps.size:=by rw[hr.size];exact ht
 have h2:a.tmps[t]?=some undef:=by
  rw[qh uU];rw[qm,qh uU]at h;simpa using h
 unfold yielded;cases ho:ops[j]? with
 |none=>rw[ho]at hj;cases hj
 |some o=>
  rw[ho]at hj;simp only[qF,pC]at hj;simp[hj,h2,undef]
theorem eL (hr:Rel F os s a w){ops:Array Oper}{ds:List (Option Tmp)}{o:Oper}{A B:Prop}(yB :∀(j:Nat) d,ds[j]?=some d->(ops[j]?).map (·.dst)=some d)(hdn :∀d∈ds,Cy s.n d=true)(h:Jf ds o s A B):
  (Region.wanted o (yielded ops a.tmps)=true/\A)∨(Region.wanted o (yielded ops a.tmps)=false/\B):=by
 unfold Jf at h;unfold Region.wanted;split at h
 .rename_i hg;rw[hg];exact .inl ⟨rfl,h⟩
 .rename_i j want hg;rw[hg];dsimp only;split at h
  .rename_i t ht;unfold cC at h;split at h
   .rename_i b hb;have uU:t<s.n:=by have:=hdn _ (ov ht);simpa [Cy] using this
    rw[V8 hr (yB j _ ht) uU hb];by_cases hbw:b=want
    .exact .inl ⟨by simp[hbw],h.1 hbw⟩
    .exact .inr ⟨by simp[hbw],h.2 hbw⟩
   .rename_i hb;have uU:t<s.n:=by have:=hdn _ (ov ht);simpa [Cy] using this
    rw[Vf hr (yB j _ ht) uU hb];exact .inr ⟨rfl,h⟩
   .exact h.elim
  .exact h.elim
theorem St.nB (s:St)(d:Option Tmp)(v:AV):(s.put d v).n=s.n:=by cases d<;>rfl
end Go.Abs
