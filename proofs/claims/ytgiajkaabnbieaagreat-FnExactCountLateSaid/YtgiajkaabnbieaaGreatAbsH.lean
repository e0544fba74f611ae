import Derived.Test.YtgiajkaabnbieaaGreatAbsG
set_option linter.all false
namespace Go.Abs
open Go
variable {P : Program} {F : Nat -> Prop} {os : List Own} {s : St} {a : Act} {w : World} {k : Nat}
structure GU (F:Nat->Prop) (os:List Own) (st:List Row) (w:World):Prop where
 st:os.map Own.row=st
 rows :∀(i:Nat) (o:Own),os[i]?=some o->Kf F w os o
 inj :∀(i j:Nat) (oi oj:Own) (b:Nat),os[i]?=some oi->os[j]?=some oj->oi.owns b->oj.owns b->i=j
 F6 :∀b,F b->b<w.heap.size
def AS (P:Program)(f:FuncId)(args:List AV)(st:List Row)(R:AV->List Row->Prop):Prop:=
 ∀F os w vs,GU F os st w->Ba F w os args vs->Calls P f vs.toArray w λe w'=>
  ∃v r st' F' os',e=.returned v/\R r st'/\GU F' os' st' w'/\Ae F' w' os' r v/\Ext F os w F' os' w' st.length
theorem AS.mono {f:FuncId}{args:List AV}{st:List Row}{R R':AV->List Row->Prop}(h:AS P f args st R)(hR :∀r st',R r st'->R' r st'):AS P f args st R':=
 λF os w vs h1 h2=>(h F os w vs h1 h2).mono λ_ _ ⟨v,r,st',F',os',he,hr,h3⟩=>⟨v,r,st',F',os',he,hR r st' hr,h3⟩
def callThen (P:Program)(k:Nat)(s:St)(f:FuncId)(args:List AV)(d:Option Tmp)(K:St->Prop):Prop:=
 ∀F os a w vs,Rel F os s a w->Ba F w os args vs->Calls P f vs.toArray w λe w'=>
  ∃v r st' F' os',e=.returned v/\K ({ s with st:=st' }.put d r)/\Rel F' os' { s with st:=st' } a w'/\Ae F' w' os' r v/\Ext F os w F' os' w' k
def Vt (v:AV)(K:FuncId->List AV->Prop):Prop:=
 match v with
 | .fn f rp=>K f rp
 | _=>False
def Er (P:Program)(f:FuncId):Bool:=
 match P.funcs[f]? with
 | some fn=>fn.body.isSome&&!(fn.name == "runtime.NumGoroutine")
 | none=>false
def Wo (P:Program)(src dst:TypeId)(x:AV)(K:AV->Prop):Prop:=
 match P.underlying src,P.underlying dst,x with
 | some _,some (.int k),.int _ n=>K (.int k (k.wrap n))
 | _,_,_=>False
def et (x y:AV)(K:AV->Prop):Prop:=
 match x,y with
 | .int k a,.int _ b=>K (.int k (if b > a then b else a))
 | _,_=>False
def eu (x y:AV)(K:AV->Prop):Prop:=
 match x,y with
 | .int k a,.int _ b=>K (.int k (if b<a then b else a))
 | _,_=>False
def Jt (P:Program)(s:St)(op:Op)(K:AV->Prop):Prop:=
 match op with
 | .move x|.assign x=>K (s.ev x)
 | .pick c a b=>QA (s.ev c) (s.ev a) (s.ev b) K
 | .nilCheck x=>Xt s.st (s.ev x) K
 | .binOp op t x y _=>WV P t op (s.ev x) (s.ev y) K
 | .unOp op _ x=>ee op (s.ev x) K
 | .convert src dst x=>Wo P src dst (s.ev x) K
 | .load t p=>P4 P s.st t (s.ev p) K
 | .fieldAddr t x f=>L5 P t (s.ev x) f s.st K
 | .field t x f=>Nj P t (s.ev x) f K
 | .indexAddr t x i=>KP P s.st t (s.ev x) (s.ev i) K
 | .extract x i=>Qd (s.ev x) i K
 | .build t parts=>Yt P t (parts.toList.map λp=>(p.1,s.ev p.2)) K
 | .makeFunc (.func f) first rp=>first=#[]/\K (.fn f (rp.toList.map s.ev))
 | .call ⟨.builtin .len,args,types⟩=>match args.toList,types.toList with
  | [x],[t]=>CY P t=true/\cR s.st (s.ev x) K
  | _,_=>False
 | .call ⟨.builtin .max,args,_⟩=>match args.toList with
  | [x,y]=>et (s.ev x) (s.ev y) K
  | _=>False
 | .call ⟨.builtin .min,args,_⟩=>match args.toList with
  | [x,y]=>eu (s.ev x) (s.ev y) K
  | _=>False
 | _=>False
def YX (P:Program)(t:TypeId)(st:List Row)(x:AV)(K:AV->Prop):Prop:=
 CY P t=true/\match x with
 | .sl xs=>(xs=[]->K (.bool true))/\K (.bool false)
 | .zc=>K (.bool true)/\K (.bool false)
 | .own id g _=>Fk st[id]? λrow=>row.gen=g/\(row.xs=[]->K (.bool true))/\K (.bool false)
 | _=>False
theorem VN {t e:TypeId}(hu:P.underlying t=some (.slice e))(a:Option Addr)(l c:Nat):(Op.equal t (.slice a l c) (.slice none 0 0)).run P w=.ok a.isNone w:=by
 have hd:∀d,(Op.equalIn (d+1) t (.slice a l c) (.slice none 0 0)).run P w=.ok a.isNone w:=λd=>by
  cases a<;>simp only[Op.equalIn,nA,nR hu,mw,nY]<;>rfl
 have:Op.maxDepth=9999+1:=rfl;unfold Op.equal;rw[this];exact hd 9999
theorem bb {t:TypeId}{x:AV}{ux:Value}{ox:Operand}{K:AV->Prop}(hr:Rel F os s a w)(h:YX P t s.st x K)(hx:Ae F w os x ux):
  Yields P F w os (do eqGuard .eql t ox (.const (.slice none 0 0)) ux (.slice none 0 0);binOp .eql t ux (.slice none 0 0)) K:=by
 obtain⟨ht,h⟩:=h;unfold CY at ht;split at ht
 case h_2=>cases ht
 rename_i e hu;have rO:∀ad l c,(do eqGuard .eql t ox (.const (.slice none 0 0)) (.slice ad l c) (.slice none 0 0);binOp .eql t (.slice ad l c) (.slice none 0 0):Sem Value).run P w=.ok (.bool ad.isNone) w:=λad l c=>by
  have hg:(eqGuard .eql t ox (.const (.slice none 0 0)) (.slice ad l c) (.slice none 0 0)).run P w=.ok () w:=by
   unfold eqGuard;simp
  simp only[nA,hg,mw,binOp,VN hu,nY]
 cases x with
 | sl xs=>
  simp only[Ae]at hx;obtain⟨ad,cap,rfl,_,rV⟩:=hx;by_cases he:xs=[]
  ·cases ad with
   | none=>exact .bool (h.1 he) (rO _ _ _)
   | some ad=>exact .bool h.2 (rO _ _ _)
  ·obtain⟨b,o,sz,rfl,_⟩:=rV he;exact .bool h.2 (rO _ _ _)
 | zc=>
  simp only[Ae]at hx;obtain⟨ad,rfl⟩:=hx;cases ad with
  | none=>exact .bool h.1 (rO _ _ _)
  | some ad=>exact .bool h.2 (rO _ _ _)
 | own id g n=>
  obtain⟨row,qo,hg,h1,h2⟩:=Ax h;obtain⟨ow,how,rfl⟩:=hr.row qo;simp only[Ae]at hx;obtain⟨o',rW,tV,_,hv⟩:=hx;rw[how]at rW;cases rW;obtain⟨hl,hv⟩:=hv hg;rcases hv with ⟨hb,ad,rfl⟩|⟨b,_,rfl⟩
  ·have:=((hr.rows id ow how).none hb).1;cases ad with
   | none=>exact .bool (h1 this) (rO _ _ _)
   | some ad=>exact .bool h2 (rO _ _ _)
  ·exact .bool h2 (rO _ _ _)
 | _=>exact h.elim
def bN (P:Program)(k:Nat)(s:St)(d:Option Tmp)(op:Op)(K:St->Prop):Prop:=
 match op with
 | .binOp .eql t x (.const (.slice none 0 0)) _=>YX P t s.st (s.ev x) λv=>K (s.put d v)
 | .alloc e=>cJ P e s.st λv st=>K ({ s with st:=st }.put d v)
 | .box e x=>ja e s.st (s.ev x) λv st=>K ({ s with st:=st }.put d v)
 | .store t p v=>YG P s.st t (s.ev p) (s.ev v) λst=>K ({ s with st:=st }.put d .FN)
 | .makeSlice t l c=>bY P s.st t (s.ev l) (s.ev c) λv st=>K ({ s with st:=st }.put d v)
 | .buildSlice t len parts=>O1 P s.st t len (parts.toList.map λp=>(p.1,s.ev p.2)) λv st=>K ({ s with st:=st }.put d v)
 | .slice t x lo hi mx=>VF P s.st t (s.ev x) (lo.map s.ev) (hi.map s.ev) (mx.map s.ev) λv st=>K ({ s with st:=st }.put d v)
 | .call ⟨.builtin .append,args,types⟩=>match args.toList,types.toList with
  | [x,y],[t,t']=>t=t'/\Vu P s.st t (s.ev x) (s.ev y) λv st=>K ({ s with st:=st }.put d v)
  | _,_=>False
 | .call ⟨.value f,args,_⟩=>Vt (s.ev f) λf rp=>Er P f=true/\callThen P k s f (args.toList.map s.ev++rp) d K
 | _=>False
def Ks:Op->Bool
 | .binOp .eql _ _ (.const (.slice none 0 0)) _=>true
 | .alloc _|.box ..|.store ..|.makeSlice ..|.buildSlice ..|.slice ..=>true
 | .call ⟨.builtin .append,_,_⟩=>true
 | .call ⟨.value _,_,_⟩=>true
 | _=>false
def LU (P:Program)(k:Nat)(o:Oper)(s:St)(K:St->Prop):Prop:=
 if Ks o.op then bN P k s o.dst o.op K else Jt P s o.op λv=>K (s.put o.dst v)
theorem Tk (hr:Rel F os s a w):∀l:List Operand,Ba F w os (l.map s.ev) (l.map a.eval)
 | []=>by simp[Ba]
 | x::l=>by simp only[mg,Ba];exact⟨_,_,rfl,hr.ev x,Tk hr l⟩
theorem SG {o:Oper}{K:AV->Prop}(hr:Rel F os s a w)(h:Jt P s o.op K):
  ∃x u,K x/\(execOp a.eval o).run P w=.ok (.value u) w/\Ae F w os x u:=by
 have lift:∀{OZ:Sem Value},Yields P F w os OZ K->∃x u,K x/\(do pure (Next.value (← OZ)):Sem Next).run P w=.ok (.value u) w/\Ae F w os x u:=λ⟨x,u,h1,h2,h3⟩=>
  ⟨x,u,h1,by simp[h2],h3⟩
 obtain⟨dst,op,ty,pos,after,guard⟩:=o;simp only at h;unfold Jt at h;split at h
 case h_1=>exact⟨_,_,h,rfl,hr.ev _⟩
 case h_2=>exact⟨_,_,h,rfl,hr.ev _⟩
 case h_3 c p q=>
  obtain⟨x,u,h1,h2,h3⟩:=dg h (hr.ev _) (hr.ev _) (hr.ev _) (P:=P);refine⟨x,u,h1,?_,h3⟩;cases hb:(asBool (a.eval c)).run P w with
  | ok b w1=>simp[execOp,hb]at h2⊢;exact h2
  | halt e w1=>simp[hb]at h2
 case h_4 x=>
  obtain⟨v,h1,⟨ad,h2⟩,h3⟩:=fx hr h (hr.ev _);exact⟨v,_,h1,by simp only[execOp,h2];rfl,by rw[<- h2];exact h3⟩
 case h_5=>exact lift (gT h (hr.ev _) (hr.ev _))
 case h_6=>exact lift (il h (hr.ev _))
 case h_7 src dst' x=>
  have hx:=hr.ev x;unfold Wo at h;split at h
  ·rename_i d kk _ n h1 h2 h3;rw[h3]at hx;simp only[Ae]at hx;refine lift (.int h ?_);simp[convert,nR h1,nR h2,hx,Conv.intToInt]
  ·exact h.elim
 case h_8=>exact lift (XX hr h (hr.ev _))
 case h_9=>exact lift (VY hr h (hr.ev _))
 case h_10=>exact lift (cE h (hr.ev _))
 case h_11=>exact lift (WT hr h (hr.ev _) (hr.ev _))
 case h_12=>exact lift (YS h (hr.ev _))
 case h_13 t parts=>
  refine lift (az (uparts:=parts.map λ(i,x)=>(i,a.eval x)) h ?_ ?_)
  ·simp
  ·intro i p up hp wV;simp only[mG,mK,pP]at hp wV;obtain⟨q,hq,rfl⟩:=hp;obtain⟨q',uu,rfl⟩:=wV;rw[hq]at uu;cases uu;exact hr.ev _
 case h_14 f first rp=>
  obtain⟨rfl,hk⟩:=h;refine⟨_,.func (.func f) #[] (rp.map a.eval),hk,by simp[execOp,Instr.makeFunc],?_⟩;simp only[Ae];exact⟨rp.toList.map a.eval,by apply mr;apply ot;simp,Tk hr _⟩
 case h_15 args types=>
  split at h
  ·rename_i x t h1 h2;obtain⟨ht,h⟩:=h;obtain⟨v,u,e1,e2,e3⟩:=fU (ty:=ty) hr ht h (hr.ev x);refine⟨v,u,e1,?_,e3⟩;have ha:args=#[x]:=by apply ot;simpa using h1
   have htt:types=#[t]:=by apply ot;simpa using h2
   subst ha;subst htt;simp[execOp,resolve,invoke,builtin,e2]
  ·exact h.elim
 case h_16 args types=>
  split at h
  ·rename_i x y h1;have ha:args=#[x,y]:=by apply ot;simpa using h1
   subst ha;have hx:=hr.ev x;have hy:=hr.ev y;unfold et at h;split at h
   ·rename_i e1 e2;rw[e1]at hx;rw[e2]at hy;simp only[Ae]at hx hy;exact⟨_,_,h,by simp[execOp,resolve,invoke,builtin,Builtin.max_,Builtin.max2,hx,hy];rfl,by simp[Ae]⟩
   ·exact h.elim
  ·exact h.elim
 case h_17 args types=>
  split at h
  ·rename_i x y h1;have ha:args=#[x,y]:=by apply ot;simpa using h1
   subst ha;have hx:=hr.ev x;have hy:=hr.ev y;unfold eu at h;split at h
   ·rename_i e1 e2;rw[e1]at hx;rw[e2]at hy;simp only[Ae]at hx hy;exact⟨_,_,h,by simp[execOp,resolve,invoke,builtin,Builtin.min_,Builtin.min2,hx,hy];rfl,by simp[Ae]⟩
   ·exact h.elim
  ·exact h.elim
 case h_18=>exact h.elim
theorem Rel.store (hr:Rel F os s a w):GU F os s.st w:=⟨hr.st,hr.rows,hr.inj,hr.F6⟩
def Step (k n:Nat)(F:Nat->Prop)(os:List Own)(w:World)(K:St->Prop)(a':Act)(w':World):Prop:=
 ∃s' F' os',s'.n=n/\K s'/\Rel F' os' s' a' w'/\Ext F os w F' os' w' k
theorem ND {K:St->Prop}{d:Option Tmp}{st':List Row}{F':Nat->Prop}{os':List Own}{w':World}{v:AV}{u:Value}(hd:DY s.n d=true)
  (hk:K ({ s with st:=st' }.put d v)) (hr:Rel F' os' { s with st:=st' } a w') (hv:Ae F' w' os' v u) (he:Ext F os w F' os' w' k):Step k s.n F os w K (a.put d u) w':=
 ⟨_,F',os',by cases d<;>rfl,hk,hr.put hd hv,he⟩
theorem Qi {o:Oper}{K:St->Prop}(hr:Rel F os s a w)(hd:DY s.n o.dst=true)(h:bN P k s o.dst o.op K){next:Act->World->Prop}{Q:Exit->Act->World->Prop}
  (hn :∀a' w',Step k s.n F os w K a' w'->next a' w'):o.wp P a w next Q:=by
 have lift:∀{OZ:Sem Value} {K':AV->List Row->Prop},HG P k F os s a w OZ K'->(∀v st,K' v st->K ({ s with st:=st }.put o.dst v))->
   o.upon P a next Q ((do pure (Next.value (← OZ)):Sem Next).run P w):=λ⟨v,st',u,w',os',h1,h2,h3,h4,h5⟩ hK=>by
  simp only[nA,h2,mw,nY,Oper.upon];exact hn _ _ (ND hd (hK _ _ h1) h3 h4 h5)
 obtain⟨dst,op,ty,pos,after,guard⟩:=o;simp only at h hd lift;unfold bN at h;unfold Oper.wp;split at h
 case h_1 t x yT=>
  obtain⟨v,u,h1,h2,h3⟩:=bb (P:=P) (ox:=x) hr h (hr.ev x);have zO:(execOp a.eval ⟨dst,.binOp .eql t x (.const (.slice none 0 0)) yT,ty,pos,after,guard⟩).run P w=.ok (.value u) w:=by
   simp only[execOp,Act.eval,nA,nY]at h2⊢;rw[h2];rfl
  rw[zO];exact hn _ _ ⟨_,F,os,by cases dst<;>rfl,h1,hr.put hd h3,Ext.refl _ _ _ _⟩
 case h_2 e=>simp only[execOp];exact lift (bn hr h) (λ_ _ h=>h)
 case h_3 e x=>simp only[execOp];exact lift (gj hr h (hr.ev _)) (λ_ _ h=>h)
 case h_4 t p v=>
  obtain⟨st',w',os',h1,h2,h3,h4⟩:=bL (k:=k) hr h (hr.ev _) (hr.ev _);simp only[execOp,nA,h2,mw,nY,Oper.upon];exact hn _ _ (ND hd h1 h3 (by simp[Ae]) h4)
 case h_5 t l c=>simp only[execOp];exact lift (XY hr h (hr.ev _) (hr.ev _)) (λ_ _ h=>h)
 case h_6 t len parts=>
  have h9:HG P k F os s a w (Instr.buildSlice t len (parts.map λ(i,x)=>(i,a.eval x))) _:=MZ hr h (by simp) (λi p up hp wV=>by
   simp only[mG,mK,pP]at hp wV;obtain⟨q,hq,rfl⟩:=hp;obtain⟨q',uu,rfl⟩:=wV;rw[hq]at uu;cases uu;exact hr.ev _)
  exact lift h9 (λ_ _ h=>h)
 case h_7 t x lo hi mx=>
  have hO:∀o:Option Operand,Sf F w os (o.map s.ev) (o.map a.eval):=λo=>by
   cases o with
   | none=>simp[Sf]
   | some x=>simpa [Sf] using hr.ev x
  simp only[execOp];exact lift (aw hr h (hr.ev _) (hO _) (hO _) (hO _)) (λ_ _ h=>h)
 case h_8 args types=>
  split at h
  ·rename_i x y t t' h1 h2;obtain⟨rfl,h⟩:=h;have ha:args=#[x,y]:=by apply ot;simpa using h1
   have htt:types=#[t,t]:=by apply ot;simpa using h2
   subst ha;subst htt;have:=lift (Zy (ty:=ty) hr h (hr.ev _) (hr.ev _)) (λ_ _ h=>h);simpa [execOp,resolve,invoke,builtin] using this
  ·exact h.elim
 case h_9 f args types=>
  have hf:=hr.ev f;unfold Vt at h;split at h
  ·rename_i g rp hfe;rw[hfe]at hf;simp only[Ae]at hf;obtain⟨us,hfu,hus⟩:=hf;obtain⟨vC,hc⟩:=h;have hl:Ba F w os (args.toList.map s.ev++rp) (args.toList.map a.eval++us):=by
    have h1:=Tk hr args.toList;have l1:=BJ h1;have l2:=BJ hus;refine Ds (by simp[l2]) λi x u hx hu=>?_;by_cases hi:i<args.toList.length
    ·rw[mM (by simpa using hi)]at hx hu;obtain⟨u',e1,e2⟩:=CD h1 i x hx;rw[hu]at e1;cases e1;exact e2
    ·rw[mP (by simpa using hi)]at hx hu;simp only[mO]at hx hu;obtain⟨u',e1,e2⟩:=CD hus _ x hx;rw[hu]at e1;cases e1;exact e2
   have yX:=hc F os a w _ hr hl;unfold Er at vC;split at vC
   ·rename_i fn hfn;simp only[mQ,oo]at vC;have hnb:fn.body.isNone=false:=by cases hb:fn.body<;>simp_all
    have sI:(args.toList.map a.eval++us).toArray=args.map a.eval++us.toArray:=by apply ot;simp
    rw[sI]at yX;simp only[execOp,resolve,hfu,Deferred.ofValue,nA,nY,mw,invoke,callFunc,run_program,hfn,vC.2,hnb,Array.empty_append,mF,mW,Oper.upon];refine yX.mono ?_;rintro e w' ⟨v,r,st',F',os',rfl,hk,sx,hv,he⟩;exact hn _ _ (ND hd hk sx hv he)
   ·cases vC
  ·exact h.elim
 case h_10=>exact h.elim
theorem de {o:Oper}{K:St->Prop}(hr:Rel F os s a w)(hd:DY s.n o.dst=true)(h:LU P k o s K){next:Act->World->Prop}{Q:Exit->Act->World->Prop}
  (hn :∀a' w',Step k s.n F os w K a' w'->next a' w'):o.wp P a w next Q:=by
 unfold LU at h;split at h
 ·exact Qi hr hd h hn
 ·obtain⟨x,u,h1,h2,h3⟩:=SG hr h;unfold Oper.wp;rw[h2];exact hn _ _ ⟨_,F,os,by cases o.dst<;>rfl,h1,hr.put hd h3,Ext.refl _ _ _ _⟩
def aG (b want:Bool)(A B:Prop):Prop:=(b=want->A)/\(b≠want->B)
def Zq (v:AV)(want:Bool)(A B:Prop):Prop:=
 match v with
 | .bool b=>aG b want A B
 | .un=>B
 | _=>False
def J9 (ds:List (Option Tmp))(o:Oper)(s:St)(A B:Prop):Prop:=
 match o.guard with
 | none=>A
 | some (j,want)=>match ds[j]? with
  | some (some t)=>Zq (s.env t) want A B
  | _=>False
theorem UW (hr:Rel F os s a w){ops:Array Oper}{j t:Nat}{b:Bool}(hj:((ops[j]?).map (·.dst))=some (some t))(ht:t<s.n)(hb:s.env t=.bool b):yielded ops a.tmps j=some b:=by
 have h:=hr.env t;rw[hb]at h;simp only[Ae]at h;have rJ:t<a.tmps.size:=by rw[hr.size];exact ht
 have h2:a.tmps[t]?=some (.bool b):=by
  rw[nM rJ];rw[nh,nM rJ]at h;simpa using h
 unfold yielded;cases ho:ops[j]? with
 | none=>rw[ho]at hj;cases hj
 | some o=>
  rw[ho]at hj;simp only[nC,mE]at hj;simp[hj,h2]
theorem UI (hr:Rel F os s a w){ops:Array Oper}{j t:Nat}(hj:((ops[j]?).map (·.dst))=some (some t))(ht:t<s.n)(hb:s.env t=.un):yielded ops a.tmps j=none:=by
 have h:=hr.env t;rw[hb]at h;simp only[Ae]at h;have rJ:t<a.tmps.size:=by rw[hr.size];exact ht
 have h2:a.tmps[t]?=some undef:=by
  rw[nM rJ];rw[nh,nM rJ]at h;simpa using h
 unfold yielded;cases ho:ops[j]? with
 | none=>rw[ho]at hj;cases hj
 | some o=>
  rw[ho]at hj;simp only[nC,mE]at hj;simp[hj,h2,undef]
theorem WL (hr:Rel F os s a w){ops:Array Oper}{ds:List (Option Tmp)}{o:Oper}{A B:Prop}(tr :∀(j:Nat) d,ds[j]?=some d->(ops[j]?).map (·.dst)=some d)(hdn :∀d∈ds,DY s.n d=true)(h:J9 ds o s A B):
  (Region.wanted o (yielded ops a.tmps)=true/\A)∨(Region.wanted o (yielded ops a.tmps)=false/\B):=by
 unfold J9 at h;unfold Region.wanted;split at h
 ·rename_i hg;rw[hg];exact .inl ⟨rfl,h⟩
 ·rename_i j want hg;rw[hg];dsimp only;split at h
  ·rename_i t ht;unfold Zq at h;split at h
   ·rename_i b hb;have rJ:t<s.n:=by have:=hdn _ (mB ht);simpa [DY] using this
    rw[UW hr (tr j _ ht) rJ hb];by_cases vj:b=want
    ·exact .inl ⟨by simp[vj],h.1 vj⟩
    ·exact .inr ⟨by simp[vj],h.2 vj⟩
   ·rename_i hb;have rJ:t<s.n:=by have:=hdn _ (mB ht);simpa [DY] using this
    rw[UI hr (tr j _ ht) rJ hb];exact .inr ⟨rfl,h⟩
   ·exact h.elim
  ·exact h.elim
theorem St.kD (s:St)(d:Option Tmp)(v:AV):(s.put d v).n=s.n:=by cases d<;>rfl
end Go.Abs
