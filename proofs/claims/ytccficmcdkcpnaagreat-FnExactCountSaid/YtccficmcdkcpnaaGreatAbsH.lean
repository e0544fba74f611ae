import Derived.Test.YtccficmcdkcpnaaGreatAbsG
set_option linter.all false
namespace Go.Abs
open Go
variable {P : Program} {F : Nat -> Prop} {os : List Own} {s : St} {a : Act} {w : World} {k : Nat}
structure FN (F:Nat->Prop) (os:List Own) (st:List Row) (w:World):Prop where
 st:os.map Own.row=st
 rows :∀(i:Nat) (o:Own),os[i]?=some o->MZ F w os o
 inj :∀(i j:Nat) (oi oj:Own) (b:Nat),os[i]?=some oi->os[j]?=some oj->oi.owns b->oj.owns b->i=j
 GK :∀b,F b->b<w.heap.size
def BW (P:Program)(f:FuncId)(args:List AV)(st:List Row)(R:AV->List Row->Prop):Prop:=
 ∀F os w vs,FN F os st w->Bc F w os args vs->Calls P f vs.toArray w λe w'=>
  ∃v r st' F' os',e=.returned v/\R r st'/\FN F' os' st' w'/\Ae F' w' os' r v/\Ext F os w F' os' w' st.length
def callThen (P:Program)(k:Nat)(s:St)(f:FuncId)(args:List AV)(d:Option Tmp)(K:St->Prop):Prop:=
 ∀F os a w vs,Rel F os s a w->Bc F w os args vs->Calls P f vs.toArray w λe w'=>
  ∃v r st' F' os',e=.returned v/\K ({ s with st:=st' }.put d r)/\Rel F' os' { s with st:=st' } a w'/\Ae F' w' os' r v/\Ext F os w F' os' w' k
def ZG (v:AV)(K:FuncId->List AV->List AV->Prop):Prop:=
 match v with
 | .fn f caps=>K f [] caps
 | .bd f first=>K f first []
 | _=>False
def Yi:AV->Bool
 | .int ..|.bool _|.str _|.zc|.Tm|.TU|.sl _|.Bj ..=>true
 | _=>false
def loose:AV->Bool
 | .agg cs=>cs.all Yi
 | v=>Yi v
theorem QD {F:Nat->Prop}{w:World}{os:List Own}{x:AV}{v:Value}(hx:Yi x=true)(h:Ae F w os x v):Ae F w [] x v:=by
 cases x<;>simp only[Yi,uN]at hx<;>simp only[Ae]at h⊢<;>exact h
theorem iM {F:Nat->Prop}{w:World}{os:List Own}{x:AV}{v:Value}(hx:loose x=true)(h:Ae F w os x v):Ae F w [] x v:=by
 cases x with
 | agg cs=>
  simp only[Ae]at h⊢;obtain⟨us,e,hl⟩:=h;refine⟨us,e,DZ (BR hl) λi x u hx' hu=>?_⟩;obtain⟨u',e1,e2⟩:=Bo hl i x hx';rw[hu]at e1;cases e1;exact QD (uS.1 hx x (uL hx')) e2
 | _=>exact QD hx h
theorem fK {F:Nat->Prop}{w:World}{os:List Own}{xs:List AV}{us:List Value}(hx:xs.all loose=true)(hl:Bc F w os xs us):Bc F w [] xs us:=by
 refine DZ (BR hl) λi x u hx' hu=>?_;obtain⟨u',e1,e2⟩:=Bo hl i x hx';rw[hu]at e1;cases e1;exact iM (uS.1 hx x (uL hx')) e2
def DP (P:Program)(f:FuncId):Bool:=
 match P.funcs[f]? with
 | some fn=>fn.body.isSome&&!(fn.name == "runtime.NumGoroutine")
 | none=>false
def ZL (P:Program)(src dst:TypeId)(x:AV)(K:AV->Prop):Prop:=
 match P.underlying src,P.underlying dst,x with
 | some _,some (.int k),.int _ n=>K (.int k (k.wrap n))
 | _,_,_=>False
def nD (x y:AV)(K:AV->Prop):Prop:=
 match x,y with
 | .int k a,.int _ b=>K (.int k (if b > a then b else a))
 | _,_=>False
def nT (x y:AV)(K:AV->Prop):Prop:=
 match x,y with
 | .int k a,.int _ b=>K (.int k (if b<a then b else a))
 | _,_=>False
def La (P:Program)(s:St)(op:Op)(K:AV->Prop):Prop:=
 match op with
 | .move x|.assign x=>K (s.ev x)
 | .pick c a b=>Ta (s.ev c) (s.ev a) (s.ev b) K
 | .nilCheck x=>cY s.st (s.ev x) K
 | .binOp op t x y _=>Yy P t op (s.ev x) (s.ev y) K
 | .unOp op _ x=>mH op (s.ev x) K
 | .convert src dst x=>ZL P src dst (s.ev x) K
 | .load t p=>TA P s.st t (s.ev p) K
 | .fieldAddr t x f=>OY P t (s.ev x) f s.st K
 | .field t x f=>QA P t (s.ev x) f K
 | .indexAddr t x i=>Mi P s.st t (s.ev x) (s.ev i) K
 | .extract x i=>Tr (s.ev x) i K
 | .build t parts=>eV P t (parts.toList.map λp=>(p.1,s.ev p.2)) K
 | .makeFunc (.func f) first caps=>(first=#[]/\K (.fn f (caps.toList.map s.ev)))∨(caps=#[]/\(first.toList.map s.ev).all loose=true/\K (.bd f (first.toList.map s.ev)))
 | .call ⟨.builtin .len,args,types⟩=>match args.toList,types.toList with
  | [x],[t]=>Cn P t=true/\kW s.st (s.ev x) K
  | _,_=>False
 | .call ⟨.builtin .max,args,_⟩=>match args.toList with
  | [x,y]=>nD (s.ev x) (s.ev y) K
  | _=>False
 | .call ⟨.builtin .min,args,_⟩=>match args.toList with
  | [x,y]=>nT (s.ev x) (s.ev y) K
  | _=>False
 | _=>False
def dK (P:Program)(t:TypeId)(st:List Row)(x:AV)(K:AV->Prop):Prop:=
 Cn P t=true/\match x with
 | .sl xs=>(xs=[]->K (.bool true))/\K (.bool false)
 | .zc=>K (.bool true)/\K (.bool false)
 | .own id g _=>Gc st[id]? λrow=>row.gen=g/\(row.xs=[]->K (.bool true))/\K (.bool false)
 | _=>False
theorem Yr {t e:TypeId}(hu:P.underlying t=some (.slice e))(a:Option Addr)(l c:Nat):(Op.equal t (.slice a l c) (.slice none 0 0)).run P w=.ok a.isNone w:=by
 have hd:∀d,(Op.equalIn (d+1) t (.slice a l c) (.slice none 0 0)).run P w=.ok a.isNone w:=λd=>by
  cases a<;>simp only[Op.equalIn,vU,vn hu,vS,vv]<;>rfl
 have:Op.maxDepth=9999+1:=rfl;unfold Op.equal;rw[this];exact hd 9999
theorem je {t:TypeId}{x:AV}{ux:Value}{ox:Operand}{K:AV->Prop}(hr:Rel F os s a w)(h:dK P t s.st x K)(hx:Ae F w os x ux):
  Yields P F w os (do eqGuard .eql t ox (.const (.slice none 0 0)) ux (.slice none 0 0);binOp .eql t ux (.slice none 0 0)) K:=by
 obtain⟨ht,h⟩:=h;unfold Cn at ht;split at ht
 case h_2=>cases ht
 rename_i e hu;have hrun:∀ad l c,(do eqGuard .eql t ox (.const (.slice none 0 0)) (.slice ad l c) (.slice none 0 0);binOp .eql t (.slice ad l c) (.slice none 0 0):Sem Value).run P w=.ok (.bool ad.isNone) w:=λad l c=>by
  have hg:(eqGuard .eql t ox (.const (.slice none 0 0)) (.slice ad l c) (.slice none 0 0)).run P w=.ok () w:=by
   unfold eqGuard;simp
  simp only[vU,hg,vS,binOp,Yr hu,vv]
 cases x with
 | sl xs=>
  simp only[Ae]at hx;obtain⟨ad,cap,rfl,_,hne⟩:=hx;by_cases he:xs=[]
  ·cases ad with
   | none=>exact .bool (h.1 he) (hrun _ _ _)
   | some ad=>exact .bool h.2 (hrun _ _ _)
  ·obtain⟨b,o,sz,rfl,_⟩:=hne he;exact .bool h.2 (hrun _ _ _)
 | zc=>
  simp only[Ae]at hx;obtain⟨ad,rfl⟩:=hx;cases ad with
  | none=>exact .bool h.1 (hrun _ _ _)
  | some ad=>exact .bool h.2 (hrun _ _ _)
 | own id g n=>
  obtain⟨row,zh,hg,h1,h2⟩:=BL h;obtain⟨ow,how,rfl⟩:=hr.row zh;simp only[Ae]at hx;obtain⟨o',ho',hge,_,hv⟩:=hx;rw[how]at ho';cases ho';obtain⟨hl,hv⟩:=hv hg;rcases hv with ⟨hb,ad,rfl⟩|⟨b,_,rfl⟩
  ·have:=((hr.rows id ow how).none hb).1;cases ad with
   | none=>exact .bool (h1 this) (hrun _ _ _)
   | some ad=>exact .bool h2 (hrun _ _ _)
  ·exact .bool h2 (hrun _ _ _)
 | _=>exact h.elim
def jH (P:Program)(k:Nat)(s:St)(d:Option Tmp)(op:Op)(K:St->Prop):Prop:=
 match op with
 | .binOp .eql t x (.const (.slice none 0 0)) _=>dK P t s.st (s.ev x) λv=>K (s.put d v)
 | .alloc e=>kE P e s.st λv st=>K ({ s with st:=st }.put d v)
 | .box e x=>rL e s.st (s.ev x) λv st=>K ({ s with st:=st }.put d v)
 | .store t p v=>eX P s.st t (s.ev p) (s.ev v) λst=>K ({ s with st:=st }.put d .F6)
 | .makeSlice t l c=>iO P s.st t (s.ev l) (s.ev c) λv st=>K ({ s with st:=st }.put d v)
 | .buildSlice t len parts=>R3 P s.st t len (parts.toList.map λp=>(p.1,s.ev p.2)) λv st=>K ({ s with st:=st }.put d v)
 | .slice t x lo hi mx=>Yk P s.st t (s.ev x) (lo.map s.ev) (hi.map s.ev) (mx.map s.ev) λv st=>K ({ s with st:=st }.put d v)
 | .call ⟨.builtin .append,args,types⟩=>match args.toList,types.toList with
  | [x,y],[t,t']=>t=t'/\Y1 P s.st t (s.ev x) (s.ev y) λv st=>K ({ s with st:=st }.put d v)
  | _,_=>False
 | .call ⟨.value f,args,_⟩=>ZG (s.ev f) λf first caps=>DP P f=true/\callThen P k s f (first++(args.toList.map s.ev++caps)) d K
 | _=>False
def MA:Op->Bool
 | .binOp .eql _ _ (.const (.slice none 0 0)) _=>true
 | .alloc _|.box ..|.store ..|.makeSlice ..|.buildSlice ..|.slice ..=>true
 | .call ⟨.builtin .append,_,_⟩=>true
 | .call ⟨.value _,_,_⟩=>true
 | _=>false
def Nt (P:Program)(k:Nat)(o:Oper)(s:St)(K:St->Prop):Prop:=
 if MA o.op then jH P k s o.dst o.op K else La P s o.op λv=>K (s.put o.dst v)
theorem RT (hr:Rel F os s a w):∀l:List Operand,Bc F w os (l.map s.ev) (l.map a.eval)
 | []=>by simp[Bc]
 | x::l=>by simp only[vK,Bc];exact⟨_,_,rfl,hr.ev x,RT hr l⟩
theorem U5 {o:Oper}{K:AV->Prop}(hr:Rel F os s a w)(h:La P s o.op K):
  ∃x u,K x/\(execOp a.eval o).run P w=.ok (.value u) w/\Ae F w os x u:=by
 have lift:∀{RR:Sem Value},Yields P F w os RR K->∃x u,K x/\(do pure (Next.value (← RR)):Sem Next).run P w=.ok (.value u) w/\Ae F w os x u:=λ⟨x,u,h1,h2,h3⟩=>
  ⟨x,u,h1,by simp[h2],h3⟩
 obtain⟨dst,op,ty,pos,after,guard⟩:=o;simp only at h;unfold La at h;split at h
 case h_1=>exact⟨_,_,h,rfl,hr.ev _⟩
 case h_2=>exact⟨_,_,h,rfl,hr.ev _⟩
 case h_3 c p q=>
  obtain⟨x,u,h1,h2,h3⟩:=lz h (hr.ev _) (hr.ev _) (hr.ev _) (P:=P);refine⟨x,u,h1,?_,h3⟩;cases hb:(asBool (a.eval c)).run P w with
  | ok b w1=>simp[execOp,hb]at h2⊢;exact h2
  | halt e w1=>simp[hb]at h2
 case h_4 x=>
  obtain⟨v,h1,⟨ad,h2⟩,h3⟩:=oC hr h (hr.ev _);exact⟨v,_,h1,by simp only[execOp,h2];rfl,by rw[<- h2];exact h3⟩
 case h_5=>exact lift (nB h (hr.ev _) (hr.ev _))
 case h_6=>exact lift (qq h (hr.ev _))
 case h_7 src dst' x=>
  have hx:=hr.ev x;unfold ZL at h;split at h
  ·rename_i d kk _ n h1 h2 h3;rw[h3]at hx;simp only[Ae]at hx;refine lift (.int h ?_);simp[convert,vn h1,vn h2,hx,Conv.intToInt]
  ·exact h.elim
 case h_8=>exact lift (cy hr h (hr.ev _))
 case h_9=>exact lift (aZ hr h (hr.ev _))
 case h_10=>exact lift (iX h (hr.ev _))
 case h_11=>exact lift (aD hr h (hr.ev _) (hr.ev _))
 case h_12=>exact lift (eO h (hr.ev _))
 case h_13 t parts=>
  refine lift (iT (uparts:=parts.map λ(i,x)=>(i,a.eval x)) h ?_ ?_)
  ·simp
  ·intro i p up hp hup;simp only[uP,uR,xy]at hp hup;obtain⟨q,hq,rfl⟩:=hp;obtain⟨q',hq',rfl⟩:=hup;rw[hq]at hq';cases hq';exact hr.ev _
 case h_14 f first caps=>
  rcases h with ⟨rfl,hk⟩|⟨rfl,hl,hk⟩
  ·refine⟨_,.func (.func f) #[] (caps.map a.eval),hk,by simp[execOp,Instr.makeFunc],?_⟩;simp only[Ae];exact⟨caps.toList.map a.eval,by apply vI;apply xK;simp,RT hr _⟩
  ·refine⟨_,.func (.func f) (first.map a.eval) #[],hk,by simp[execOp,Instr.makeFunc],?_⟩;simp only[Ae];exact⟨first.toList.map a.eval,by apply vI (λx=>Value.func (.func f) x #[]);apply xK;simp,fK hl (RT hr _)⟩
 case h_15 args types=>
  split at h
  ·rename_i x t h1 h2;obtain⟨ht,h⟩:=h;obtain⟨v,u,e1,e2,e3⟩:=nP (ty:=ty) hr ht h (hr.ev x);refine⟨v,u,e1,?_,e3⟩;have ha:args=#[x]:=by apply xK;simpa using h1
   have htt:types=#[t]:=by apply xK;simpa using h2
   subst ha;subst htt;simp[execOp,resolve,invoke,builtin,e2]
  ·exact h.elim
 case h_16 args types=>
  split at h
  ·rename_i x y h1;have ha:args=#[x,y]:=by apply xK;simpa using h1
   subst ha;have hx:=hr.ev x;have hy:=hr.ev y;unfold nD at h;split at h
   ·rename_i e1 e2;rw[e1]at hx;rw[e2]at hy;simp only[Ae]at hx hy;exact⟨_,_,h,by simp[execOp,resolve,invoke,builtin,Builtin.max_,Builtin.max2,hx,hy];rfl,by simp[Ae]⟩
   ·exact h.elim
  ·exact h.elim
 case h_17 args types=>
  split at h
  ·rename_i x y h1;have ha:args=#[x,y]:=by apply xK;simpa using h1
   subst ha;have hx:=hr.ev x;have hy:=hr.ev y;unfold nT at h;split at h
   ·rename_i e1 e2;rw[e1]at hx;rw[e2]at hy;simp only[Ae]at hx hy;exact⟨_,_,h,by simp[execOp,resolve,invoke,builtin,Builtin.min_,Builtin.min2,hx,hy];rfl,by simp[Ae]⟩
   ·exact h.elim
  ·exact h.elim
 case h_18=>exact h.elim
theorem Rel.store (hr:Rel F os s a w):FN F os s.st w:=⟨hr.st,hr.rows,hr.inj,hr.GK⟩
def Step (k n:Nat)(F:Nat->Prop)(os:List Own)(w:World)(K:St->Prop)(a':Act)(w':World):Prop:=
 ∃s' F' os',s'.n=n/\K s'/\Rel F' os' s' a' w'/\Ext F os w F' os' w' k
theorem OO {K:St->Prop}{d:Option Tmp}{st':List Row}{F':Nat->Prop}{os':List Own}{w':World}{v:AV}{u:Value}(hd:DK s.n d=true)
  (hk:K ({ s with st:=st' }.put d v)) (hr:Rel F' os' { s with st:=st' } a w') (hv:Ae F' w' os' v u) (he:Ext F os w F' os' w' k):Step k s.n F os w K (a.put d u) w':=
 ⟨_,F',os',by cases d<;>rfl,hk,hr.put hd hv,he⟩
theorem Ty {o:Oper}{K:St->Prop}(hr:Rel F os s a w)(hd:DK s.n o.dst=true)(h:jH P k s o.dst o.op K){next:Act->World->Prop}{Q:Exit->Act->World->Prop}
  (hn :∀a' w',Step k s.n F os w K a' w'->next a' w'):o.wp P a w next Q:=by
 have lift:∀{RR:Sem Value} {K':AV->List Row->Prop},IV P k F os s a w RR K'->(∀v st,K' v st->K ({ s with st:=st }.put o.dst v))->
   o.upon P a next Q ((do pure (Next.value (← RR)):Sem Next).run P w):=λ⟨v,st',u,w',os',h1,h2,h3,h4,h5⟩ hK=>by
  simp only[vU,h2,vS,vv,Oper.upon];exact hn _ _ (OO hd (hK _ _ h1) h3 h4 h5)
 obtain⟨dst,op,ty,pos,after,guard⟩:=o;simp only at h hd lift;unfold jH at h;unfold Oper.wp;split at h
 case h_1 t x yT=>
  obtain⟨v,u,h1,h2,h3⟩:=je (P:=P) (ox:=x) hr h (hr.ev x);have h2':(execOp a.eval ⟨dst,.binOp .eql t x (.const (.slice none 0 0)) yT,ty,pos,after,guard⟩).run P w=.ok (.value u) w:=by
   simp only[execOp,Act.eval,vU,vv]at h2⊢;rw[h2];rfl
  rw[h2'];exact hn _ _ ⟨_,F,os,by cases dst<;>rfl,h1,hr.put hd h3,Ext.refl _ _ _ _⟩
 case h_2 e=>simp only[execOp];exact lift (ic hr h) (λ_ _ h=>h)
 case h_3 e x=>simp only[execOp];exact lift (nr hr h (hr.ev _)) (λ_ _ h=>h)
 case h_4 t p v=>
  obtain⟨st',w',os',h1,h2,h3,h4⟩:=jb (k:=k) hr h (hr.ev _) (hr.ev _);simp only[execOp,vU,h2,vS,vv,Oper.upon];exact hn _ _ (OO hd h1 h3 (by simp[Ae]) h4)
 case h_5 t l c=>simp only[execOp];exact lift (cO hr h (hr.ev _) (hr.ev _)) (λ_ _ h=>h)
 case h_6 t len parts=>
  have h9:IV P k F os s a w (Instr.buildSlice t len (parts.map λ(i,x)=>(i,a.eval x))) _:=Oh hr h (by simp) (λi p up hp hup=>by
   simp only[uP,uR,xy]at hp hup;obtain⟨q,hq,rfl⟩:=hp;obtain⟨q',hq',rfl⟩:=hup;rw[hq]at hq';cases hq';exact hr.ev _)
  exact lift h9 (λ_ _ h=>h)
 case h_7 t x lo hi mx=>
  have hO:∀o:Option Operand,VY F w os (o.map s.ev) (o.map a.eval):=λo=>by
   cases o with
   | none=>simp[VY]
   | some x=>simpa [VY] using hr.ev x
  simp only[execOp];exact lift (jR hr h (hr.ev _) (hO _) (hO _) (hO _)) (λ_ _ h=>h)
 case h_8 args types=>
  split at h
  ·rename_i x y t t' h1 h2;obtain⟨rfl,h⟩:=h;have ha:args=#[x,y]:=by apply xK;simpa using h1
   have htt:types=#[t,t]:=by apply xK;simpa using h2
   subst ha;subst htt;have:=lift (ef (ty:=ty) hr h (hr.ev _) (hr.ev _)) (λ_ _ h=>h);simpa [execOp,resolve,invoke,builtin] using this
  ·exact h.elim
 case h_9 f args types=>
  have hf:=hr.ev f;unfold ZG at h;split at h
  ·rename_i g caps hfe;rw[hfe]at hf;simp only[Ae]at hf;obtain⟨us,hfu,hus⟩:=hf;obtain⟨hbody,hc⟩:=h;have hl:Bc F w os (args.toList.map s.ev++caps) (args.toList.map a.eval++us):=by
    have h1:=RT hr args.toList;have l1:=BR h1;have l2:=BR hus;refine DZ (by simp[l2]) λi x u hx hu=>?_;by_cases hi:i<args.toList.length
    ·rw[uU (by simpa using hi)]at hx hu;obtain⟨u',e1,e2⟩:=Bo h1 i x hx;rw[hu]at e1;cases e1;exact e2
    ·rw[ug (by simpa using hi)]at hx hu;simp only[uZ]at hx hu;obtain⟨u',e1,e2⟩:=Bo hus _ x hx;rw[hu]at e1;cases e1;exact e2
   have hcall:=hc F os a w _ hr hl;unfold DP at hbody;split at hbody
   ·rename_i fn hfn;simp only[uT,vj]at hbody;have hnb:fn.body.isNone=false:=by cases hb:fn.body<;>simp_all
    have hargs:(args.toList.map a.eval++us).toArray=args.map a.eval++us.toArray:=by apply xK;simp
    rw[hargs]at hcall;simp only[execOp,resolve,hfu,Deferred.ofValue,vU,vv,vS,invoke,callFunc,run_program,hfn,hbody.2,hnb,Array.empty_append,uN,uf,Oper.upon];refine hcall.mono ?_;rintro e w' ⟨v,r,st',F',os',rfl,hk,hr',hv,he⟩;exact hn _ _ (OO hd hk hr' hv he)
   ·cases hbody
  ·rename_i g first hfe
   rw[hfe]at hf;simp only[Ae]at hf;obtain⟨us,hfu,hus⟩:=hf;obtain⟨hbody,hc⟩:=h;have hl:Bc F w os (first++(args.toList.map s.ev++[])) (us++args.toList.map a.eval):=by
    have h1:=RT hr args.toList;have l2:=BR hus;rw[vV];refine DZ (by simp[l2]) λi x u hx hu=>?_;by_cases hi:i<first.length
    ·rw[uU hi]at hx;rw[uU (by omega)]at hu;obtain⟨u',e1,e2⟩:=Bo hus i x hx;rw[hu]at e1;cases e1;exact XD os e2
    ·rw[ug (by omega)]at hx;rw[ug (by omega),l2]at hu;obtain⟨u',e1,e2⟩:=Bo h1 _ x hx;rw[hu]at e1;cases e1;exact e2
   have hcall:=hc F os a w _ hr hl;unfold DP at hbody;split at hbody
   ·rename_i fn hfn;simp only[uT,vj]at hbody;have hnb:fn.body.isNone=false:=by cases hb:fn.body<;>simp_all
    have hargs:(us++args.toList.map a.eval).toArray=us.toArray++args.map a.eval:=by apply xK;simp
    rw[hargs]at hcall;simp only[execOp,resolve,hfu,Deferred.ofValue,vU,vv,vS,invoke,callFunc,run_program,hfn,hbody.2,hnb,Array.append_empty,uN,uf,Oper.upon];refine hcall.mono ?_;rintro e w' ⟨v,r,st',F',os',rfl,hk,hr',hv,he⟩;exact hn _ _ (OO hd hk hr' hv he)
   ·cases hbody
  ·exact h.elim
 case h_10=>exact h.elim
theorem lU {o:Oper}{K:St->Prop}(hr:Rel F os s a w)(hd:DK s.n o.dst=true)(h:Nt P k o s K){next:Act->World->Prop}{Q:Exit->Act->World->Prop}
  (hn :∀a' w',Step k s.n F os w K a' w'->next a' w'):o.wp P a w next Q:=by
 unfold Nt at h;split at h
 ·exact Ty hr hd h hn
 ·obtain⟨x,u,h1,h2,h3⟩:=U5 hr h;unfold Oper.wp;rw[h2];exact hn _ _ ⟨_,F,os,by cases o.dst<;>rfl,h1,hr.put hd h3,Ext.refl _ _ _ _⟩
def aG (b want:Bool)(A B:Prop):Prop:=(b=want->A)/\(b≠want->B)
def fq (v:AV)(want:Bool)(A B:Prop):Prop:=
 match v with
 | .bool b=>aG b want A B
 | .un=>B
 | _=>False
def MC (ds:List (Option Tmp))(o:Oper)(s:St)(A B:Prop):Prop:=
 match o.guard with
 | none=>A
 | some (j,want)=>match ds[j]? with
  | some (some t)=>fq (s.env t) want A B
  | _=>False
theorem Xq (hr:Rel F os s a w){ops:Array Oper}{j t:Nat}{b:Bool}(hj:((ops[j]?).map (·.dst))=some (some t))(ht:t<s.n)(hb:s.env t=.bool b):yielded ops a.tmps j=some b:=by
 have h:=hr.env t;rw[hb]at h;simp only[Ae]at h;have hlt:t<a.tmps.size:=by rw[hr.size];exact ht
 have h2:a.tmps[t]?=some (.bool b):=by
  rw[vk hlt];rw[wc,vk hlt]at h;simpa using h
 unfold yielded;cases ho:ops[j]? with
 | none=>rw[ho]at hj;cases hj
 | some o=>
  rw[ho]at hj;simp only[vY,uO]at hj;simp[hj,h2]
theorem Xs (hr:Rel F os s a w){ops:Array Oper}{j t:Nat}(hj:((ops[j]?).map (·.dst))=some (some t))(ht:t<s.n)(hb:s.env t=.un):yielded ops a.tmps j=none:=by
 have h:=hr.env t;rw[hb]at h;simp only[Ae]at h;have hlt:t<a.tmps.size:=by rw[hr.size];exact ht
 have h2:a.tmps[t]?=some undef:=by
  rw[vk hlt];rw[wc,vk hlt]at h;simpa using h
 unfold yielded;cases ho:ops[j]? with
 | none=>rw[ho]at hj;cases hj
 | some o=>
  rw[ho]at hj;simp only[vY,uO]at hj;simp[hj,h2,undef]
theorem aw (hr:Rel F os s a w){ops:Array Oper}{ds:List (Option Tmp)}{o:Oper}{A B:Prop}(hds :∀(j:Nat) d,ds[j]?=some d->(ops[j]?).map (·.dst)=some d)(hdn :∀d∈ds,DK s.n d=true)(h:MC ds o s A B):
  (Region.wanted o (yielded ops a.tmps)=true/\A)∨(Region.wanted o (yielded ops a.tmps)=false/\B):=by
 unfold MC at h;unfold Region.wanted;split at h
 ·rename_i hg;rw[hg];exact .inl ⟨rfl,h⟩
 ·rename_i j want hg;rw[hg];dsimp only;split at h
  ·rename_i t ht;unfold fq at h;split at h
   ·rename_i b hb;have hlt:t<s.n:=by have:=hdn _ (uL ht);simpa [DK] using this
    rw[Xq hr (hds j _ ht) hlt hb];by_cases hbw:b=want
    ·exact .inl ⟨by simp[hbw],h.1 hbw⟩
    ·exact .inr ⟨by simp[hbw],h.2 hbw⟩
   ·rename_i hb;have hlt:t<s.n:=by have:=hdn _ (uL ht);simpa [DK] using this
    rw[Xs hr (hds j _ ht) hlt hb];exact .inr ⟨rfl,h⟩
   ·exact h.elim
  ·exact h.elim
theorem St.sL (s:St)(d:Option Tmp)(v:AV):(s.put d v).n=s.n:=by cases d<;>rfl
end Go.Abs
