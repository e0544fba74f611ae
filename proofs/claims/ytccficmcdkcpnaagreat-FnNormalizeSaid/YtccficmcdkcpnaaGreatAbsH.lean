import Derived.Test.YtccficmcdkcpnaaGreatAbsG
set_option linter.all false
namespace Go.Abs
open Go
variable {P : Program} {F : Nat -> Prop} {os : List Own} {s : St} {a : Act} {w : World} {k : Nat}
structure IY (F:Nat->Prop) (os:List Own) (st:List Row) (w:World):Prop where
 st:os.map Own.row=st
 rows :∀(i:Nat) (o:Own),os[i]?=some o->Pu F w os o
 inj :∀(i j:Nat) (oi oj:Own) (b:Nat),os[i]?=some oi->os[j]?=some oj->oi.owns b->oj.owns b->i=j
 HO :∀b,F b->b<w.heap.size
def BS (P:Program)(f:FuncId)(args:List AV)(st:List Row)(R:AV->List Row->Prop):Prop:=
 ∀F os w vs,IY F os st w->Bw F w os args vs->Calls P f vs.toArray w λe w'=>
  ∃v r st' F' os',e=.returned v/\R r st'/\IY F' os' st' w'/\Ac F' w' os' r v/\Ext F os w F' os' w' st.length
def callThen (P:Program)(k:Nat)(s:St)(f:FuncId)(args:List AV)(d:Option Tmp)(K:St->Prop):Prop:=
 ∀F os a w vs,Rel F os s a w->Bw F w os args vs->Calls P f vs.toArray w λe w'=>
  ∃v r st' F' os',e=.returned v/\K ({ s with st:=st' }.put d r)/\Rel F' os' { s with st:=st' } a w'/\Ac F' w' os' r v/\Ext F os w F' os' w' k
def XX (v:AV)(K:FuncId->List AV->List AV->Prop):Prop:=
 match v with
 | .fn f vp=>K f [] vp
 | .bd f first=>K f first []
 | _=>False
def W0:AV->Bool
 | .int ..|.bool _|.str _|.zc|.R3|.Rl|.sl _|.CT ..=>true
 | _=>false
def loose:AV->Bool
 | .agg cs=>cs.all W0
 | v=>W0 v
theorem WE {F:Nat->Prop}{w:World}{os:List Own}{x:AV}{v:Value}(hx:W0 x=true)(h:Ac F w os x v):Ac F w [] x v:=by
 cases x<;>simp only[W0,py]at hx<;>simp only[Ac]at h⊢<;>exact h
theorem dh {F:Nat->Prop}{w:World}{os:List Own}{x:AV}{v:Value}(hx:loose x=true)(h:Ac F w os x v):Ac F w [] x v:=by
 cases x with
 | agg cs=>
  simp only[Ac]at h⊢;obtain⟨us,e,hl⟩:=h;refine⟨us,e,Df (BW hl) λi x u ym hu=>?_⟩;obtain⟨u',e1,e2⟩:=CJ hl i x ym;rw[hu]at e1;cases e1;exact WE (qC.1 hx x (pt ym)) e2
 | _=>exact WE hx h
theorem cA {F:Nat->Prop}{w:World}{os:List Own}{xs:List AV}{us:List Value}(hx:xs.all loose=true)(hl:Bw F w os xs us):Bw F w [] xs us:=by
 refine Df (BW hl) λi x u ym hu=>?_;obtain⟨u',e1,e2⟩:=CJ hl i x ym;rw[hu]at e1;cases e1;exact dh (qC.1 hx x (pt ym)) e2
def Cr (P:Program)(f:FuncId):Bool:=
 match P.funcs[f]? with
 | some fn=>fn.body.isSome&&!(fn.name == "runtime.NumGoroutine")
 | none=>false
def Xa (P:Program)(src dst:TypeId)(x:AV)(K:AV->Prop):Prop:=
 match P.underlying src,P.underlying dst,x with
 | some _,some (.int k),.int _ n=>K (.int k (k.wrap n))
 | _,_,_=>False
def kK (x y:AV)(K:AV->Prop):Prop:=
 match x,y with
 | .int k a,.int _ b=>K (.int k (if b > a then b else a))
 | _,_=>False
def jr (x y:AV)(K:AV->Prop):Prop:=
 match x,y with
 | .int k a,.int _ b=>K (.int k (if b<a then b else a))
 | _,_=>False
def Kw (P:Program)(s:St)(op:Op)(K:AV->Prop):Prop:=
 match op with
 | .move x|.assign x=>K (s.ev x)
 | .pick c a b=>Rw (s.ev c) (s.ev a) (s.ev b) K
 | .nilCheck x=>Zs s.st (s.ev x) K
 | .binOp op t x y _=>XC P t op (s.ev x) (s.ev y) K
 | .unOp op _ x=>iE op (s.ev x) K
 | .convert src dst x=>Xa P src dst (s.ev x) K
 | .load t p=>SA P s.st t (s.ev p) K
 | .fieldAddr t x f=>Nh P t (s.ev x) f s.st K
 | .field t x f=>PJ P t (s.ev x) f K
 | .indexAddr t x i=>MD P s.st t (s.ev x) (s.ev i) K
 | .extract x i=>Sm (s.ev x) i K
 | .build t parts=>bH P t (parts.toList.map λp=>(p.1,s.ev p.2)) K
 | .makeFunc (.func f) first vp=>(first=#[]/\K (.fn f (vp.toList.map s.ev)))∨(vp=#[]/\(first.toList.map s.ev).all loose=true/\K (.bd f (first.toList.map s.ev)))
 | .call ⟨.builtin .len,args,types⟩=>match args.toList,types.toList with
  | [x],[t]=>DB P t=true/\fh s.st (s.ev x) K
  | _,_=>False
 | .call ⟨.builtin .max,args,_⟩=>match args.toList with
  | [x,y]=>kK (s.ev x) (s.ev y) K
  | _=>False
 | .call ⟨.builtin .min,args,_⟩=>match args.toList with
  | [x,y]=>jr (s.ev x) (s.ev y) K
  | _=>False
 | _=>False
def bB (P:Program)(t:TypeId)(st:List Row)(x:AV)(K:AV->Prop):Prop:=
 DB P t=true/\match x with
 | .sl xs=>(xs=[]->K (.bool true))/\K (.bool false)
 | .zc=>K (.bool true)/\K (.bool false)
 | .own id g _=>Gb st[id]? λrow=>row.gen=g/\(row.xs=[]->K (.bool true))/\K (.bool false)
 | _=>False
theorem Xy {t e:TypeId}(hu:P.underlying t=some (.slice e))(a:Option Addr)(l c:Nat):(Op.equal t (.slice a l c) (.slice none 0 0)).run P w=.ok a.isNone w:=by
 have hd:∀d,(Op.equalIn (d+1) t (.slice a l c) (.slice none 0 0)).run P w=.ok a.isNone w:=λd=>by
  cases a<;>simp only[Op.equalIn,qs,rD hu,qp,rH]<;>rfl
 have:Op.maxDepth=9999+1:=rfl;unfold Op.equal;rw[this];exact hd 9999
theorem dx {t:TypeId}{x:AV}{ux:Value}{ox:Operand}{K:AV->Prop}(hr:Rel F os s a w)(h:bB P t s.st x K)(hx:Ac F w os x ux):
  Yields P F w os (do eqGuard .eql t ox (.const (.slice none 0 0)) ux (.slice none 0 0);binOp .eql t ux (.slice none 0 0)) K:=by
 obtain⟨ht,h⟩:=h;unfold DB at ht;split at ht
 case h_2=>cases ht
 rename_i e hu;have vT:∀ad l c,(do eqGuard .eql t ox (.const (.slice none 0 0)) (.slice ad l c) (.slice none 0 0);binOp .eql t (.slice ad l c) (.slice none 0 0):Sem Value).run P w=.ok (.bool ad.isNone) w:=λad l c=>by
  have hg:(eqGuard .eql t ox (.const (.slice none 0 0)) (.slice ad l c) (.slice none 0 0)).run P w=.ok () w:=by
   unfold eqGuard;simp
  simp only[qs,hg,qp,binOp,Xy hu,rH]
 cases x with
 | sl xs=>
  simp only[Ac]at hx;obtain⟨ad,cap,rfl,_,vZ⟩:=hx;by_cases he:xs=[]
  ·cases ad with
   | none=>exact .bool (h.1 he) (vT _ _ _)
   | some ad=>exact .bool h.2 (vT _ _ _)
  ·obtain⟨b,o,sz,rfl,_⟩:=vZ he;exact .bool h.2 (vT _ _ _)
 | zc=>
  simp only[Ac]at hx;obtain⟨ad,rfl⟩:=hx;cases ad with
  | none=>exact .bool h.1 (vT _ _ _)
  | some ad=>exact .bool h.2 (vT _ _ _)
 | own id g n=>
  obtain⟨row,uj,hg,h1,h2⟩:=BN h;obtain⟨ow,how,rfl⟩:=hr.row uj;simp only[Ac]at hx;obtain⟨o',vc,yn,_,hv⟩:=hx;rw[how]at vc;cases vc;obtain⟨hl,hv⟩:=hv hg;rcases hv with ⟨hb,ad,rfl⟩|⟨b,_,rfl⟩
  ·have:=((hr.rows id ow how).none hb).1;cases ad with
   | none=>exact .bool (h1 this) (vT _ _ _)
   | some ad=>exact .bool h2 (vT _ _ _)
  ·exact .bool h2 (vT _ _ _)
 | _=>exact h.elim
def dy (P:Program)(k:Nat)(s:St)(d:Option Tmp)(op:Op)(K:St->Prop):Prop:=
 match op with
 | .binOp .eql t x (.const (.slice none 0 0)) _=>bB P t s.st (s.ev x) λv=>K (s.put d v)
 | .alloc e=>fq P e s.st λv st=>K ({ s with st:=st }.put d v)
 | .box e x=>nB e s.st (s.ev x) λv st=>K ({ s with st:=st }.put d v)
 | .store t p v=>Z5 P s.st t (s.ev p) (s.ev v) λst=>K ({ s with st:=st }.put d .FZ)
 | .makeSlice t l c=>eE P s.st t (s.ev l) (s.ev c) λv st=>K ({ s with st:=st }.put d v)
 | .buildSlice t len parts=>Qp P s.st t len (parts.toList.map λp=>(p.1,s.ev p.2)) λv st=>K ({ s with st:=st }.put d v)
 | .slice t x lo hi mx=>W1 P s.st t (s.ev x) (lo.map s.ev) (hi.map s.ev) (mx.map s.ev) λv st=>K ({ s with st:=st }.put d v)
 | .call ⟨.builtin .append,args,types⟩=>match args.toList,types.toList with
  | [x,y],[t,t']=>t=t'/\Yc P s.st t (s.ev x) (s.ev y) λv st=>K ({ s with st:=st }.put d v)
  | _,_=>False
 | .call ⟨.value f,args,_⟩=>XX (s.ev f) λf first vp=>Cr P f=true/\callThen P k s f (first++(args.toList.map s.ev++vp)) d K
 | _=>False
def Kx:Op->Bool
 | .binOp .eql _ _ (.const (.slice none 0 0)) _=>true
 | .alloc _|.box ..|.store ..|.makeSlice ..|.buildSlice ..|.slice ..=>true
 | .call ⟨.builtin .append,_,_⟩=>true
 | .call ⟨.value _,_,_⟩=>true
 | _=>false
def NG (P:Program)(k:Nat)(o:Oper)(s:St)(K:St->Prop):Prop:=
 if Kx o.op then dy P k s o.dst o.op K else Kw P s o.op λv=>K (s.put o.dst v)
theorem Pw (hr:Rel F os s a w):∀l:List Operand,Bw F w os (l.map s.ev) (l.map a.eval)
 | []=>by simp[Bw]
 | x::l=>by simp only[qj,Bw];exact⟨_,_,rfl,hr.ev x,Pw hr l⟩
theorem Ti {o:Oper}{K:AV->Prop}(hr:Rel F os s a w)(h:Kw P s o.op K):
  ∃x u,K x/\(execOp a.eval o).run P w=.ok (.value u) w/\Ac F w os x u:=by
 have lift:∀{zO:Sem Value},Yields P F w os zO K->∃x u,K x/\(do pure (Next.value (← zO)):Sem Next).run P w=.ok (.value u) w/\Ac F w os x u:=λ⟨x,u,h1,h2,h3⟩=>
  ⟨x,u,h1,by simp[h2],h3⟩
 obtain⟨dst,op,ty,pos,after,guard⟩:=o;simp only at h;unfold Kw at h;split at h
 case h_1=>exact⟨_,_,h,rfl,hr.ev _⟩
 case h_2=>exact⟨_,_,h,rfl,hr.ev _⟩
 case h_3 c p q=>
  obtain⟨x,u,h1,h2,h3⟩:=jN h (hr.ev _) (hr.ev _) (hr.ev _) (P:=P);refine⟨x,u,h1,?_,h3⟩;cases hb:(asBool (a.eval c)).run P w with
  | ok b w1=>simp[execOp,hb]at h2⊢;exact h2
  | halt e w1=>simp[hb]at h2
 case h_4 x=>
  obtain⟨v,h1,⟨ad,h2⟩,h3⟩:=kU hr h (hr.ev _);exact⟨v,_,h1,by simp only[execOp,h2];rfl,by rw[<- h2];exact h3⟩
 case h_5=>exact lift (kb h (hr.ev _) (hr.ev _))
 case h_6=>exact lift (mI h (hr.ev _))
 case h_7 src dst' x=>
  have hx:=hr.ev x;unfold Xa at h;split at h
  ·rename_i d kk _ n h1 h2 h3;rw[h3]at hx;simp only[Ac]at hx;refine lift (.int h ?_);simp[convert,rD h1,rD h2,hx,Conv.intToInt]
  ·exact h.elim
 case h_8=>exact lift (ZO hr h (hr.ev _))
 case h_9=>exact lift (XU hr h (hr.ev _))
 case h_10=>exact lift (eQ h (hr.ev _))
 case h_11=>exact lift (XT hr h (hr.ev _) (hr.ev _))
 case h_12=>exact lift (bS h (hr.ev _))
 case h_13 t parts=>
  refine lift (eA (uparts:=parts.map λ(i,x)=>(i,a.eval x)) h ?_ ?_)
  ·simp
  ·intro i p up hp hup;simp only[qA,qB,tF]at hp hup;obtain⟨q,hq,rfl⟩:=hp;obtain⟨q',hq',rfl⟩:=hup;rw[hq]at hq';cases hq';exact hr.ev _
 case h_14 f first vp=>
  rcases h with ⟨rfl,hk⟩|⟨rfl,hl,hk⟩
  ·refine⟨_,.func (.func f) #[] (vp.map a.eval),hk,by simp[execOp,Instr.makeFunc],?_⟩;simp only[Ac];exact⟨vp.toList.map a.eval,by apply rC;apply sQ;simp,Pw hr _⟩
  ·refine⟨_,.func (.func f) (first.map a.eval) #[],hk,by simp[execOp,Instr.makeFunc],?_⟩;simp only[Ac];exact⟨first.toList.map a.eval,by apply rC (λx=>Value.func (.func f) x #[]);apply sQ;simp,cA hl (Pw hr _)⟩
 case h_15 args types=>
  split at h
  ·rename_i x t h1 h2;obtain⟨ht,h⟩:=h;obtain⟨v,u,e1,e2,e3⟩:=kY (ty:=ty) hr ht h (hr.ev x);refine⟨v,u,e1,?_,e3⟩;have ha:args=#[x]:=by apply sQ;simpa using h1
   have htt:types=#[t]:=by apply sQ;simpa using h2
   subst ha;subst htt;simp[execOp,resolve,invoke,builtin,e2]
  ·exact h.elim
 case h_16 args types=>
  split at h
  ·rename_i x y h1;have ha:args=#[x,y]:=by apply sQ;simpa using h1
   subst ha;have hx:=hr.ev x;have hy:=hr.ev y;unfold kK at h;split at h
   ·rename_i e1 e2;rw[e1]at hx;rw[e2]at hy;simp only[Ac]at hx hy;exact⟨_,_,h,by simp[execOp,resolve,invoke,builtin,Builtin.max_,Builtin.max2,hx,hy];rfl,by simp[Ac]⟩
   ·exact h.elim
  ·exact h.elim
 case h_17 args types=>
  split at h
  ·rename_i x y h1;have ha:args=#[x,y]:=by apply sQ;simpa using h1
   subst ha;have hx:=hr.ev x;have hy:=hr.ev y;unfold jr at h;split at h
   ·rename_i e1 e2;rw[e1]at hx;rw[e2]at hy;simp only[Ac]at hx hy;exact⟨_,_,h,by simp[execOp,resolve,invoke,builtin,Builtin.min_,Builtin.min2,hx,hy];rfl,by simp[Ac]⟩
   ·exact h.elim
  ·exact h.elim
 case h_18=>exact h.elim
theorem Rel.store (hr:Rel F os s a w):IY F os s.st w:=⟨hr.st,hr.rows,hr.inj,hr.HO⟩
def Step (k n:Nat)(F:Nat->Prop)(os:List Own)(w:World)(K:St->Prop)(a':Act)(w':World):Prop:=
 ∃s' F' os',s'.n=n/\K s'/\Rel F' os' s' a' w'/\Ext F os w F' os' w' k
theorem Od {K:St->Prop}{d:Option Tmp}{st':List Row}{F':Nat->Prop}{os':List Own}{w':World}{v:AV}{u:Value}(hd:DG s.n d=true)
  (hk:K ({ s with st:=st' }.put d v)) (hr:Rel F' os' { s with st:=st' } a w') (hv:Ac F' w' os' v u) (he:Ext F os w F' os' w' k):Step k s.n F os w K (a.put d u) w':=
 ⟨_,F',os',by cases d<;>rfl,hk,hr.put hd hv,he⟩
theorem Mo {o:Oper}{K:St->Prop}(hr:Rel F os s a w)(hd:DG s.n o.dst=true)(h:dy P k s o.dst o.op K){next:Act->World->Prop}{Q:Exit->Act->World->Prop}
  (hn :∀a' w',Step k s.n F os w K a' w'->next a' w'):o.wp P a w next Q:=by
 have lift:∀{zO:Sem Value} {K':AV->List Row->Prop},Iu P k F os s a w zO K'->(∀v st,K' v st->K ({ s with st:=st }.put o.dst v))->
   o.upon P a next Q ((do pure (Next.value (← zO)):Sem Next).run P w):=λ⟨v,st',u,w',os',h1,h2,h3,h4,h5⟩ hK=>by
  simp only[qs,h2,qp,rH,Oper.upon];exact hn _ _ (Od hd (hK _ _ h1) h3 h4 h5)
 obtain⟨dst,op,ty,pos,after,guard⟩:=o;simp only at h hd lift;unfold dy at h;unfold Oper.wp;split at h
 case h_1 t x yT=>
  obtain⟨v,u,h1,h2,h3⟩:=dx (P:=P) (ox:=x) hr h (hr.ev x);have h2':(execOp a.eval ⟨dst,.binOp .eql t x (.const (.slice none 0 0)) yT,ty,pos,after,guard⟩).run P w=.ok (.value u) w:=by
   simp only[execOp,Act.eval,qs,rH]at h2⊢;rw[h2];rfl
  rw[h2'];exact hn _ _ ⟨_,F,os,by cases dst<;>rfl,h1,hr.put hd h3,Ext.refl _ _ _ _⟩
 case h_2 e=>simp only[execOp];exact lift (dp hr h) (λ_ _ h=>h)
 case h_3 e x=>simp only[execOp];exact lift (jw hr h (hr.ev _)) (λ_ _ h=>h)
 case h_4 t p v=>
  obtain⟨st',w',os',h1,h2,h3,h4⟩:=ec (k:=k) hr h (hr.ev _) (hr.ev _);simp only[execOp,qs,h2,qp,rH,Oper.upon];exact hn _ _ (Od hd h1 h3 (by simp[Ac]) h4)
 case h_5 t l c=>simp only[execOp];exact lift (ZN hr h (hr.ev _) (hr.ev _)) (λ_ _ h=>h)
 case h_6 t len parts=>
  have h9:Iu P k F os s a w (Instr.buildSlice t len (parts.map λ(i,x)=>(i,a.eval x))) _:=Np hr h (by simp) (λi p up hp hup=>by
   simp only[qA,qB,tF]at hp hup;obtain⟨q,hq,rfl⟩:=hp;obtain⟨q',hq',rfl⟩:=hup;rw[hq]at hq';cases hq';exact hr.ev _)
  exact lift h9 (λ_ _ h=>h)
 case h_7 t x lo hi mx=>
  have hO:∀o:Option Operand,UW F w os (o.map s.ev) (o.map a.eval):=λo=>by
   cases o with
   | none=>simp[UW]
   | some x=>simpa [UW] using hr.ev x
  simp only[execOp];exact lift (fU hr h (hr.ev _) (hO _) (hO _) (hO _)) (λ_ _ h=>h)
 case h_8 args types=>
  split at h
  ·rename_i x y t t' h1 h2;obtain⟨rfl,h⟩:=h;have ha:args=#[x,y]:=by apply sQ;simpa using h1
   have htt:types=#[t,t]:=by apply sQ;simpa using h2
   subst ha;subst htt;have:=lift (cH (ty:=ty) hr h (hr.ev _) (hr.ev _)) (λ_ _ h=>h);simpa [execOp,resolve,invoke,builtin] using this
  ·exact h.elim
 case h_9 f args types=>
  have hf:=hr.ev f;unfold XX at h;split at h
  ·rename_i g vp hfe;rw[hfe]at hf;simp only[Ac]at hf;obtain⟨us,hfu,hus⟩:=hf;obtain⟨wm,hc⟩:=h;have hl:Bw F w os (args.toList.map s.ev++vp) (args.toList.map a.eval++us):=by
    have h1:=Pw hr args.toList;have l1:=BW h1;have l2:=BW hus;refine Df (by simp[l2]) λi x u hx hu=>?_;by_cases hi:i<args.toList.length
    ·rw[qK (by simpa using hi)]at hx hu;obtain⟨u',e1,e2⟩:=CJ h1 i x hx;rw[hu]at e1;cases e1;exact e2
    ·rw[qS (by simpa using hi)]at hx hu;simp only[qc]at hx hu;obtain⟨u',e1,e2⟩:=CJ hus _ x hx;rw[hu]at e1;cases e1;exact e2
   have zU:=hc F os a w _ hr hl;unfold Cr at wm;split at wm
   ·rename_i fn hfn;simp only[qP,sW]at wm;have hnb:fn.body.isNone=false:=by cases hb:fn.body<;>simp_all
    have wB:(args.toList.map a.eval++us).toArray=args.map a.eval++us.toArray:=by apply sQ;simp
    rw[wB]at zU;simp only[execOp,resolve,hfu,Deferred.ofValue,qs,rH,qp,invoke,callFunc,run_program,hfn,wm.2,hnb,Array.empty_append,py,qR,Oper.upon];refine zU.mono ?_;rintro e w' ⟨v,r,st',F',os',rfl,hk,wS,hv,he⟩;exact hn _ _ (Od hd hk wS hv he)
   ·cases wm
  ·rename_i g first hfe
   rw[hfe]at hf;simp only[Ac]at hf;obtain⟨us,hfu,hus⟩:=hf;obtain⟨wm,hc⟩:=h;have hl:Bw F w os (first++(args.toList.map s.ev++[])) (us++args.toList.map a.eval):=by
    have h1:=Pw hr args.toList;have l2:=BW hus;rw[rY];refine Df (by simp[l2]) λi x u hx hu=>?_;by_cases hi:i<first.length
    ·rw[qK hi]at hx;rw[qK (by omega)]at hu;obtain⟨u',e1,e2⟩:=CJ hus i x hx;rw[hu]at e1;cases e1;exact Zm os e2
    ·rw[qS (by omega)]at hx;rw[qS (by omega),l2]at hu;obtain⟨u',e1,e2⟩:=CJ h1 _ x hx;rw[hu]at e1;cases e1;exact e2
   have zU:=hc F os a w _ hr hl;unfold Cr at wm;split at wm
   ·rename_i fn hfn;simp only[qP,sW]at wm;have hnb:fn.body.isNone=false:=by cases hb:fn.body<;>simp_all
    have wB:(us++args.toList.map a.eval).toArray=us.toArray++args.map a.eval:=by apply sQ;simp
    rw[wB]at zU;simp only[execOp,resolve,hfu,Deferred.ofValue,qs,rH,qp,invoke,callFunc,run_program,hfn,wm.2,hnb,Array.append_empty,py,qR,Oper.upon];refine zU.mono ?_;rintro e w' ⟨v,r,st',F',os',rfl,hk,wS,hv,he⟩;exact hn _ _ (Od hd hk wS hv he)
   ·cases wm
  ·exact h.elim
 case h_10=>exact h.elim
theorem iX {o:Oper}{K:St->Prop}(hr:Rel F os s a w)(hd:DG s.n o.dst=true)(h:NG P k o s K){next:Act->World->Prop}{Q:Exit->Act->World->Prop}
  (hn :∀a' w',Step k s.n F os w K a' w'->next a' w'):o.wp P a w next Q:=by
 unfold NG at h;split at h
 ·exact Mo hr hd h hn
 ·obtain⟨x,u,h1,h2,h3⟩:=Ti hr h;unfold Oper.wp;rw[h2];exact hn _ _ ⟨_,F,os,by cases o.dst<;>rfl,h1,hr.put hd h3,Ext.refl _ _ _ _⟩
def aG (b want:Bool)(A B:Prop):Prop:=(b=want->A)/\(b≠want->B)
def dD (v:AV)(want:Bool)(A B:Prop):Prop:=
 match v with
 | .bool b=>aG b want A B
 | .un=>B
 | _=>False
def KL (ds:List (Option Tmp))(o:Oper)(s:St)(A B:Prop):Prop:=
 match o.guard with
 | none=>A
 | some (j,want)=>match ds[j]? with
  | some (some t)=>dD (s.env t) want A B
  | _=>False
theorem WJ (hr:Rel F os s a w){ops:Array Oper}{j t:Nat}{b:Bool}(hj:((ops[j]?).map (·.dst))=some (some t))(ht:t<s.n)(hb:s.env t=.bool b):yielded ops a.tmps j=some b:=by
 have h:=hr.env t;rw[hb]at h;simp only[Ac]at h;have vS:t<a.tmps.size:=by rw[hr.size];exact ht
 have h2:a.tmps[t]?=some (.bool b):=by
  rw[rU vS];rw[rq,rU vS]at h;simpa using h
 unfold yielded;cases ho:ops[j]? with
 | none=>rw[ho]at hj;cases hj
 | some o=>
  rw[ho]at hj;simp only[qx,pz]at hj;simp[hj,h2]
theorem V8 (hr:Rel F os s a w){ops:Array Oper}{j t:Nat}(hj:((ops[j]?).map (·.dst))=some (some t))(ht:t<s.n)(hb:s.env t=.un):yielded ops a.tmps j=none:=by
 have h:=hr.env t;rw[hb]at h;simp only[Ac]at h;have vS:t<a.tmps.size:=by rw[hr.size];exact ht
 have h2:a.tmps[t]?=some undef:=by
  rw[rU vS];rw[rq,rU vS]at h;simpa using h
 unfold yielded;cases ho:ops[j]? with
 | none=>rw[ho]at hj;cases hj
 | some o=>
  rw[ho]at hj;simp only[qx,pz]at hj;simp[hj,h2,undef]
theorem eT (hr:Rel F os s a w){ops:Array Oper}{ds:List (Option Tmp)}{o:Oper}{A B:Prop}(zE :∀(j:Nat) d,ds[j]?=some d->(ops[j]?).map (·.dst)=some d)(hdn :∀d∈ds,DG s.n d=true)(h:KL ds o s A B):
  (Region.wanted o (yielded ops a.tmps)=true/\A)∨(Region.wanted o (yielded ops a.tmps)=false/\B):=by
 unfold KL at h;unfold Region.wanted;split at h
 ·rename_i hg;rw[hg];exact .inl ⟨rfl,h⟩
 ·rename_i j want hg;rw[hg];dsimp only;split at h
  ·rename_i t ht;unfold dD at h;split at h
   ·rename_i b hb;have vS:t<s.n:=by have:=hdn _ (pt ht);simpa [DG] using this
    rw[WJ hr (zE j _ ht) vS hb];by_cases hbw:b=want
    ·exact .inl ⟨by simp[hbw],h.1 hbw⟩
    ·exact .inr ⟨by simp[hbw],h.2 hbw⟩
   ·rename_i hb;have vS:t<s.n:=by have:=hdn _ (pt ht);simpa [DG] using this
    rw[V8 hr (zE j _ ht) vS hb];exact .inr ⟨rfl,h⟩
   ·exact h.elim
  ·exact h.elim
theorem St.nK (s:St)(d:Option Tmp)(v:AV):(s.put d v).n=s.n:=by cases d<;>rfl
end Go.Abs
