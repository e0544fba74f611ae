import Derived.Test.YtpahalfiiahddaaGreatAbsG
namespace Go.Abs
open Go
variable {P : Program} {F : Nat → Prop} {os : List Own} {s : St} {a : Act} {w : World} {k : Nat}
structure Fh (F:Nat→Prop) (os:List Own) (st:List Row) (w:World):Prop where
 st:os.map Own.row=st
 rows :∀(i:Nat) (o:Own),os[i]?=some o→KC F w os o
 inj :∀(i j:Nat) (oi oj:Own) (b:Nat),os[i]?=some oi→os[j]?=some oj→oi.owns b→oj.owns b→i=j
 En :∀b,F b→b < w.heap.size
def Ak (P:Program) (f:FuncId) (args:List AV) (st:List Row) (R:AV→List Row→Prop):Prop:=
 ∀F os w vs,Fh F os st w→BX F w os args vs→Calls P f vs.toArray w fun e w'=>
  ∃v r st' F' os',e=.returned v∧R r st'∧Fh F' os' st' w'∧Am F' w' os' r v∧Ext F os w F' os' w' st.length
def callThen (P:Program) (k:Nat) (s:St) (f:FuncId) (args:List AV) (d:Option Tmp) (K:St→Prop):Prop:=
 ∀F os a w vs,Rel F os s a w→BX F w os args vs→Calls P f vs.toArray w fun e w'=>
  ∃v r st' F' os',e=.returned v∧K ({ s with st:=st' }.put d r)∧Rel F' os' { s with st:=st' } a w'∧Am F' w' os' r v∧Ext F os w F' os' w' k
def Qp (v:AV) (K:FuncId→List AV→Prop):Prop:=
 match v with
 | .fn f caps=>K f caps
 | _=>False
def As (P:Program) (f:FuncId):Bool:=
 match P.funcs[f]? with
 | some fn=>fn.body.isSome && !(fn.name == "runtime.NumGoroutine")
 | none=>false
def Uz (P:Program) (src dst:TypeId) (x:AV) (K:AV→Prop):Prop:=
 match P.underlying src,P.underlying dst,x with
 | some _,some (.int k),.int _ n=>K (.int k (k.wrap n))
 | _,_,_=>False
def Xf (x y:AV) (K:AV→Prop):Prop:=
 match x,y with
 | .int k a,.int _ b=>K (.int k (if b > a then b else a))
 | _,_=>False
def W3 (x y:AV) (K:AV→Prop):Prop:=
 match x,y with
 | .int k a,.int _ b=>K (.int k (if b < a then b else a))
 | _,_=>False
def HI (P:Program) (s:St) (op:Op) (K:AV→Prop):Prop:=
 match op with
 | .move x | .assign x=>K (s.ev x)
 | .pick c a b=>Mw (s.ev c) (s.ev a) (s.ev b) K
 | .nilCheck x=>Sn s.st (s.ev x) K
 | .binOp op t x y _=>RE P t op (s.ev x) (s.ev y) K
 | .unOp op _ x=>Wo op (s.ev x) K
 | .convert src dst x=>Uz P src dst (s.ev x) K
 | .load t p=>Mc P s.st t (s.ev p) K
 | .fieldAddr t x f=>JE P t (s.ev x) f s.st K
 | .field t x f=>KY P t (s.ev x) f K
 | .indexAddr t x i=>GK P s.st t (s.ev x) (s.ev i) K
 | .extract x i=>NJ (s.ev x) i K
 | .build t parts=>TJ P t (parts.toList.map fun p=>(p.1,s.ev p.2)) K
 | .makeFunc (.func f) first caps=>first=#[]∧K (.fn f (caps.toList.map s.ev))
 | .call ⟨.builtin .len,args,types⟩=>match args.toList,types.toList with
  | [x],[t]=>Cu P t=true∧Vs s.st (s.ev x) K
  | _,_=>False
 | .call ⟨.builtin .max,args,_⟩=>match args.toList with
  | [x,y]=>Xf (s.ev x) (s.ev y) K
  | _=>False
 | .call ⟨.builtin .min,args,_⟩=>match args.toList with
  | [x,y]=>W3 (s.ev x) (s.ev y) K
  | _=>False
 | _=>False
def TY (P:Program) (t:TypeId) (st:List Row) (x:AV) (K:AV→Prop):Prop:=
 Cu P t=true∧match x with
 | .sl xs=>(xs=[]→K (.bool true))∧K (.bool false)
 | .zc=>K (.bool true)∧K (.bool false)
 | .own id g _=>EN st[id]? fun row=>row.gen=g∧(row.xs=[]→K (.bool true))∧K (.bool false)
 | _=>False
theorem Rb {t e:TypeId} (hu:P.underlying t=some (.slice e)) (a:Option Addr) (l c:Nat):(Op.equal t (.slice a l c) (.slice none 0 0)).run P w=.ok a.isNone w:=by
 have hd :∀d,(Op.equalIn (d+1) t (.slice a l c) (.slice none 0 0)).run P w=.ok a.isNone w:=fun d=>by
  cases a <;> simp only[Op.equalIn,Sem.run_bind,run_underlying hu,Result.andThen_ok,Sem.run_pure] <;> rfl
 have:Op.maxDepth=9999+1:=rfl
 unfold Op.equal
 rw[this]
 exact hd 9999
theorem U6 {t:TypeId} {x:AV} {ux:Value} {ox:Operand} {K:AV→Prop} (hr:Rel F os s a w) (h:TY P t s.st x K) (hx:Am F w os x ux) :
  Yields P F w os (do eqGuard .eql t ox (.const (.slice none 0 0)) ux (.slice none 0 0);binOp .eql t ux (.slice none 0 0)) K:=by
 obtain⟨ht,h⟩:=h
 unfold Cu at ht
 split at ht
 case h_2=>cases ht
 rename_i e hu
 have hrun :∀ad l c,(do eqGuard .eql t ox (.const (.slice none 0 0)) (.slice ad l c) (.slice none 0 0);binOp .eql t (.slice ad l c) (.slice none 0 0):Sem Value).run P w=.ok (.bool ad.isNone) w:=fun ad l c=>by
  have hg:(eqGuard .eql t ox (.const (.slice none 0 0)) (.slice ad l c) (.slice none 0 0)).run P w=.ok () w:=by
   unfold eqGuard;simp
  simp only[Sem.run_bind,hg,Result.andThen_ok,binOp,Rb hu,Sem.run_pure]
 cases x with
 | sl xs=>
  simp only[Am] at hx
  obtain⟨ad,cap,rfl,_,hne⟩:=hx
  by_cases he:xs=[]
  ·cases ad with
   | none=>exact .bool (h.1 he) (hrun _ _ _)
   | some ad=>exact .bool h.2 (hrun _ _ _)
  ·obtain⟨b,o,sz,rfl,_⟩:=hne he
   exact .bool h.2 (hrun _ _ _)
 | zc=>
  simp only[Am] at hx
  obtain⟨ad,rfl⟩:=hx
  cases ad with
  | none=>exact .bool h.1 (hrun _ _ _)
  | some ad=>exact .bool h.2 (hrun _ _ _)
 | own id g n=>
  obtain⟨row,hrow,hg,h1,h2⟩:=BB h
  obtain⟨ow,how,rfl⟩:=hr.row hrow
  simp only[Am] at hx
  obtain⟨o',ho',hge,_,hv⟩:=hx
  rw[how] at ho';cases ho'
  obtain⟨hl,hv⟩:=hv hg
  rcases hv with ⟨hb,ad,rfl⟩ | ⟨b,_,rfl⟩
  ·have:=((hr.rows id ow how).none hb).1
   cases ad with
   | none=>exact .bool (h1 this) (hrun _ _ _)
   | some ad=>exact .bool h2 (hrun _ _ _)
  ·exact .bool h2 (hrun _ _ _)
 | _=>exact h.elim
def Vb (P:Program) (k:Nat) (s:St) (d:Option Tmp) (op:Op) (K:St→Prop):Prop:=
 match op with
 | .binOp .eql t x (.const (.slice none 0 0)) _=>TY P t s.st (s.ev x) fun v=>K (s.put d v)
 | .alloc e=>V4 P e s.st fun v st=>K ({ s with st:=st }.put d v)
 | .box e x=>ZC e s.st (s.ev x) fun v st=>K ({ s with st:=st }.put d v)
 | .store t p v=>TF P s.st t (s.ev p) (s.ev v) fun st=>K ({ s with st:=st }.put d .Dt)
 | .makeSlice t l c=>U0 P s.st t (s.ev l) (s.ev c) fun v st=>K ({ s with st:=st }.put d v)
 | .buildSlice t len parts=>LR P s.st t len (parts.toList.map fun p=>(p.1,s.ev p.2)) fun v st=>K ({ s with st:=st }.put d v)
 | .slice t x lo hi mx=>Qi P s.st t (s.ev x) (lo.map s.ev) (hi.map s.ev) (mx.map s.ev) fun v st=>K ({ s with st:=st }.put d v)
 | .call ⟨.builtin .append,args,types⟩=>match args.toList,types.toList with
  | [x,y],[t,t']=>t=t'∧Qq P s.st t (s.ev x) (s.ev y) fun v st=>K ({ s with st:=st }.put d v)
  | _,_=>False
 | .call ⟨.value f,args,_⟩=>Qp (s.ev f) fun f caps=>As P f=true∧callThen P k s f (args.toList.map s.ev ++ caps) d K
 | _=>False
def IB:Op→Bool
 | .binOp .eql _ _ (.const (.slice none 0 0)) _=>true
 | .alloc _ | .box .. | .store .. | .makeSlice .. | .buildSlice .. | .slice ..=>true
 | .call ⟨.builtin .append,_,_⟩=>true
 | .call ⟨.value _,_,_⟩=>true
 | _=>false
def I5 (P:Program) (k:Nat) (o:Oper) (s:St) (K:St→Prop):Prop:=
 if IB o.op then Vb P k s o.dst o.op K else HI P s o.op fun v=>K (s.put o.dst v)
theorem Po (hr:Rel F os s a w) :∀l:List Operand,BX F w os (l.map s.ev) (l.map a.eval)
 | []=>by simp[BX]
 | x :: l=>by simp only[List.map_cons,BX];exact⟨_,_,rfl,hr.ev x,Po hr l⟩
theorem Qx {o:Oper} {K:AV→Prop} (hr:Rel F os s a w) (h:HI P s o.op K) :
  ∃x u,K x∧(execOp a.eval o).run P w=.ok (.value u) w∧Am F w os x u:=by
 have lift :∀{LF:Sem Value},Yields P F w os LF K→∃x u,K x∧(do pure (Next.value (← LF)):Sem Next).run P w=.ok (.value u) w∧Am F w os x u:=fun⟨x,u,h1,h2,h3⟩=>
  ⟨x,u,h1,by simp[h2],h3⟩
 obtain⟨dst,op,ty,pos,after,guard⟩:=o
 simp only at h
 unfold HI at h
 split at h
 case h_1=>exact⟨_,_,h,rfl,hr.ev _⟩
 case h_2=>exact⟨_,_,h,rfl,hr.ev _⟩
 case h_3 c p q=>
  obtain⟨x,u,h1,h2,h3⟩:=WG h (hr.ev _) (hr.ev _) (hr.ev _) (P:=P)
  refine⟨x,u,h1,?_,h3⟩
  cases hb:(asBool (a.eval c)).run P w with
  | ok b w1=>simp[execOp,hb] at h2 ⊢;exact h2
  | halt e w1=>simp[hb] at h2
 case h_4 x=>
  obtain⟨v,h1,⟨ad,h2⟩,h3⟩:=W6 hr h (hr.ev _)
  exact⟨v,_,h1,by simp only[execOp,h2];rfl,by rw[← h2];exact h3⟩
 case h_5=>exact lift (X9 h (hr.ev _) (hr.ev _))
 case h_6=>exact lift (Yd h (hr.ev _))
 case h_7 src dst' x=>
  have hx:=hr.ev x
  unfold Uz at h
  split at h
  ·rename_i d kk _ n h1 h2 h3
   rw[h3] at hx
   simp only[Am] at hx
   refine lift (.int h ?_)
   simp[convert,run_underlying h1,run_underlying h2,hx,Conv.intToInt]
  ·exact h.elim
 case h_8=>exact lift (Sg hr h (hr.ev _))
 case h_9=>exact lift (Rl hr h (hr.ev _))
 case h_10=>exact lift (Uw h (hr.ev _))
 case h_11=>exact lift (Qy hr h (hr.ev _) (hr.ev _))
 case h_12=>exact lift (TR h (hr.ev _))
 case h_13 t parts=>
  refine lift (VK (uparts:=parts.map fun (i,x)=>(i,a.eval x)) h ?_ ?_)
  ·simp
  ·intro i p up hp hup
   simp only[List.getElem?_map,Option.map_eq_some_iff,Array.toList_map] at hp hup
   obtain⟨q,hq,rfl⟩:=hp
   obtain⟨q',hq',rfl⟩:=hup
   rw[hq] at hq';cases hq'
   exact hr.ev _
 case h_14 f first caps=>
  obtain⟨rfl,hk⟩:=h
  refine⟨_,.func (.func f) #[] (caps.map a.eval),hk,by simp[execOp,Instr.makeFunc],?_⟩
  simp only[Am]
  exact⟨caps.toList.map a.eval,by apply congrArg;apply Array.ext';simp,Po hr _⟩
 case h_15 args types=>
  split at h
  ·rename_i x t h1 h2
   obtain⟨ht,h⟩:=h
   obtain⟨v,u,e1,e2,e3⟩:=XQ (ty:=ty) hr ht h (hr.ev x)
   refine⟨v,u,e1,?_,e3⟩
   have ha:args=#[x]:=by apply Array.ext';simpa using h1
   have htt:types=#[t]:=by apply Array.ext';simpa using h2
   subst ha;subst htt
   simp[execOp,resolve,invoke,builtin,e2]
  ·exact h.elim
 case h_16 args types=>
  split at h
  ·rename_i x y h1
   have ha:args=#[x,y]:=by apply Array.ext';simpa using h1
   subst ha
   have hx:=hr.ev x
   have hy:=hr.ev y
   unfold Xf at h
   split at h
   ·rename_i e1 e2
    rw[e1] at hx;rw[e2] at hy
    simp only[Am] at hx hy
    exact⟨_,_,h,by simp[execOp,resolve,invoke,builtin,Builtin.max_,Builtin.max2,hx,hy];rfl,by simp[Am]⟩
   ·exact h.elim
  ·exact h.elim
 case h_17 args types=>
  split at h
  ·rename_i x y h1
   have ha:args=#[x,y]:=by apply Array.ext';simpa using h1
   subst ha
   have hx:=hr.ev x
   have hy:=hr.ev y
   unfold W3 at h
   split at h
   ·rename_i e1 e2
    rw[e1] at hx;rw[e2] at hy
    simp only[Am] at hx hy
    exact⟨_,_,h,by simp[execOp,resolve,invoke,builtin,Builtin.min_,Builtin.min2,hx,hy];rfl,by simp[Am]⟩
   ·exact h.elim
  ·exact h.elim
 case h_18=>exact h.elim
theorem Rel.store (hr:Rel F os s a w):Fh F os s.st w:=⟨hr.st,hr.rows,hr.inj,hr.En⟩
def Step (k n:Nat) (F:Nat→Prop) (os:List Own) (w:World) (K:St→Prop) (a':Act) (w':World):Prop:=
 ∃s' F' os',s'.n=n∧K s'∧Rel F' os' s' a' w'∧Ext F os w F' os' w' k
theorem LG {K:St→Prop} {d:Option Tmp} {st':List Row} {F':Nat→Prop} {os':List Own} {w':World} {v:AV} {u:Value} (hd:Da s.n d=true)
  (hk:K ({ s with st:=st' }.put d v)) (hr:Rel F' os' { s with st:=st' } a w') (hv:Am F' w' os' v u) (he:Ext F os w F' os' w' k):Step k s.n F os w K (a.put d u) w':=
 ⟨_,F',os',by cases d <;> rfl,hk,hr.put hd hv,he⟩
theorem LB {o:Oper} {K:St→Prop} (hr:Rel F os s a w) (hd:Da s.n o.dst=true) (h:Vb P k s o.dst o.op K) {next:Act→World→Prop} {Q:Exit→Act→World→Prop}
  (hn :∀a' w',Step k s.n F os w K a' w'→next a' w'):o.wp P a w next Q:=by
 have lift :∀{LF:Sem Value} {K':AV→List Row→Prop},Fl P k F os s a w LF K'→(∀v st,K' v st→K ({ s with st:=st }.put o.dst v))→
   o.upon P a next Q ((do pure (Next.value (← LF)):Sem Next).run P w):=fun⟨v,st',u,w',os',h1,h2,h3,h4,h5⟩ hK=>by
  simp only[Sem.run_bind,h2,Result.andThen_ok,Sem.run_pure,Oper.upon]
  exact hn _ _ (LG hd (hK _ _ h1) h3 h4 h5)
 obtain⟨dst,op,ty,pos,after,guard⟩:=o
 simp only at h hd lift
 unfold Vb at h
 unfold Oper.wp
 split at h
 case h_1 t x yT=>
  obtain⟨v,u,h1,h2,h3⟩:=U6 (P:=P) (ox:=x) hr h (hr.ev x)
  have h2':(execOp a.eval ⟨dst,.binOp .eql t x (.const (.slice none 0 0)) yT,ty,pos,after,guard⟩).run P w=.ok (.value u) w:=by
   simp only[execOp,Act.eval,Sem.run_bind,Sem.run_pure] at h2 ⊢
   rw[h2];rfl
  rw[h2']
  exact hn _ _ ⟨_,F,os,by cases dst <;> rfl,h1,hr.put hd h3,Cq _ _ _ _⟩
 case h_2 e=>simp only[execOp];exact lift (VR hr h) (fun _ _ h=>h)
 case h_3 e x=>simp only[execOp];exact lift (Wz hr h (hr.ev _)) (fun _ _ h=>h)
 case h_4 t p v=>
  obtain⟨st',w',os',h1,h2,h3,h4⟩:=U2 (k:=k) hr h (hr.ev _) (hr.ev _)
  simp only[execOp,Sem.run_bind,h2,Result.andThen_ok,Sem.run_pure,Oper.upon]
  exact hn _ _ (LG hd h1 h3 (by simp[Am]) h4)
 case h_5 t l c=>simp only[execOp];exact lift (Sd hr h (hr.ev _) (hr.ev _)) (fun _ _ h=>h)
 case h_6 t len parts=>
  have h9:Fl P k F os s a w (Instr.buildSlice t len (parts.map fun (i,x)=>(i,a.eval x))) _:=Ly hr h (by simp) (fun i p up hp hup=>by
   simp only[List.getElem?_map,Option.map_eq_some_iff,Array.toList_map] at hp hup
   obtain⟨q,hq,rfl⟩:=hp
   obtain⟨q',hq',rfl⟩:=hup
   rw[hq] at hq';cases hq'
   exact hr.ev _)
  exact lift h9 (fun _ _ h=>h)
 case h_7 t x lo hi mx=>
  have hO :∀o:Option Operand,Ot F w os (o.map s.ev) (o.map a.eval):=fun o=>by
   cases o with
   | none=>simp[Ot]
   | some x=>simpa [Ot] using hr.ev x
  simp only[execOp]
  exact lift (Vg hr h (hr.ev _) (hO _) (hO _) (hO _)) (fun _ _ h=>h)
 case h_8 args types=>
  split at h
  ·rename_i x y t t' h1 h2
   obtain⟨rfl,h⟩:=h
   have ha:args=#[x,y]:=by apply Array.ext';simpa using h1
   have htt:types=#[t,t]:=by apply Array.ext';simpa using h2
   subst ha;subst htt
   have:=lift (T5 (ty:=ty) hr h (hr.ev _) (hr.ev _)) (fun _ _ h=>h)
   simpa [execOp,resolve,invoke,builtin] using this
  ·exact h.elim
 case h_9 f args types=>
  have hf:=hr.ev f
  unfold Qp at h
  split at h
  ·rename_i g caps hfe
   rw[hfe] at hf
   simp only[Am] at hf
   obtain⟨us,hfu,hus⟩:=hf
   obtain⟨hbody,hc⟩:=h
   have hl:BX F w os (args.toList.map s.ev ++ caps) (args.toList.map a.eval ++ us):=by
    have h1:=Po hr args.toList
    have l1:=BL h1
    have l2:=BL hus
    refine Ck (by simp[l2]) fun i x u hx hu=>?_
    by_cases hi:i < args.toList.length
    ·rw[List.getElem?_append_left (by simpa using hi)] at hx hu
     obtain⟨u',e1,e2⟩:=Bj h1 i x hx
     rw[hu] at e1;cases e1;exact e2
    ·rw[List.getElem?_append_right (by simpa using hi)] at hx hu
     simp only[List.length_map] at hx hu
     obtain⟨u',e1,e2⟩:=Bj hus _ x hx
     rw[hu] at e1;cases e1;exact e2
   have hcall:=hc F os a w _ hr hl
   unfold As at hbody
   split at hbody
   ·rename_i fn hfn
    simp only[Bool.and_eq_true,Bool.not_eq_true'] at hbody
    have hnb:fn.body.isNone=false:=by cases hb:fn.body <;> simp_all
    have hargs:(args.toList.map a.eval ++ us).toArray=args.map a.eval ++ us.toArray:=by apply Array.ext';simp
    rw[hargs] at hcall
    simp only[execOp,resolve,hfu,Deferred.ofValue,Sem.run_bind,Sem.run_pure,Result.andThen_ok,invoke,callFunc,run_program,hfn,hbody.2,hnb,Array.empty_append,Bool.false_eq_true,if_false,Oper.upon]
    refine hcall.mono ?_
    rintro e w' ⟨v,r,st',F',os',rfl,hk,hr',hv,he⟩
    exact hn _ _ (LG hd hk hr' hv he)
   ·cases hbody
  ·exact h.elim
 case h_10=>exact h.elim
theorem WJ {o:Oper} {K:St→Prop} (hr:Rel F os s a w) (hd:Da s.n o.dst=true) (h:I5 P k o s K) {next:Act→World→Prop} {Q:Exit→Act→World→Prop}
  (hn :∀a' w',Step k s.n F os w K a' w'→next a' w'):o.wp P a w next Q:=by
 unfold I5 at h
 split at h
 ·exact LB hr hd h hn
 ·obtain⟨x,u,h1,h2,h3⟩:=Qx hr h
  unfold Oper.wp
  rw[h2]
  exact hn _ _ ⟨_,F,os,by cases o.dst <;> rfl,h1,hr.put hd h3,Cq _ _ _ _⟩
def aG (b want:Bool) (A B:Prop):Prop:=(b=want→A)∧(b≠want→B)
def Vc (v:AV) (want:Bool) (A B:Prop):Prop:=
 match v with
 | .bool b=>aG b want A B
 | .un=>B
 | _=>False
def ID (ds:List (Option Tmp)) (o:Oper) (s:St) (A B:Prop):Prop:=
 match o.guard with
 | none=>A
 | some (j,want)=>match ds[j]? with
  | some (some t)=>Vc (s.env t) want A B
  | _=>False
theorem P9 (hr:Rel F os s a w) {ops:Array Oper} {j t:Nat} {b:Bool} (hj:((ops[j]?).map (·.dst))=some (some t)) (ht:t < s.n) (hb:s.env t=.bool b):yielded ops a.tmps j=some b:=by
 have h:=hr.env t
 rw[hb] at h
 simp only[Am] at h
 have hlt:t < a.tmps.size:=by rw[hr.size];exact ht
 have h2:a.tmps[t]?=some (.bool b):=by
  rw[Array.getElem?_eq_getElem hlt]
  rw[Array.getD_eq_getD_getElem?,Array.getElem?_eq_getElem hlt] at h
  simpa using h
 unfold yielded
 cases ho:ops[j]? with
 | none=>rw[ho] at hj;cases hj
 | some o=>
  rw[ho] at hj
  simp only[Option.map_some,Option.some.injEq] at hj
  simp[hj,h2]
theorem QD (hr:Rel F os s a w) {ops:Array Oper} {j t:Nat} (hj:((ops[j]?).map (·.dst))=some (some t)) (ht:t < s.n) (hb:s.env t=.un):yielded ops a.tmps j=none:=by
 have h:=hr.env t
 rw[hb] at h
 simp only[Am] at h
 have hlt:t < a.tmps.size:=by rw[hr.size];exact ht
 have h2:a.tmps[t]?=some undef:=by
  rw[Array.getElem?_eq_getElem hlt]
  rw[Array.getD_eq_getD_getElem?,Array.getElem?_eq_getElem hlt] at h
  simpa using h
 unfold yielded
 cases ho:ops[j]? with
 | none=>rw[ho] at hj;cases hj
 | some o=>
  rw[ho] at hj
  simp only[Option.map_some,Option.some.injEq] at hj
  simp[hj,h2,undef]
theorem Up (hr:Rel F os s a w) {ops:Array Oper} {ds:List (Option Tmp)} {o:Oper} {A B:Prop} (hds :∀(j:Nat) d,ds[j]?=some d→(ops[j]?).map (·.dst)=some d) (hdn :∀d∈ds,Da s.n d=true) (h:ID ds o s A B) :
  (Region.wanted o (yielded ops a.tmps)=true∧A)∨(Region.wanted o (yielded ops a.tmps)=false∧B):=by
 unfold ID at h
 unfold Region.wanted
 split at h
 ·rename_i hg;rw[hg];exact .inl ⟨rfl,h⟩
 ·rename_i j want hg
  rw[hg]
  dsimp only
  split at h
  ·rename_i t ht
   unfold Vc at h
   split at h
   ·rename_i b hb
    have hlt:t < s.n:=by have:=hdn _ (List.mem_of_getElem? ht);simpa [Da] using this
    rw[P9 hr (hds j _ ht) hlt hb]
    by_cases hbw:b=want
    ·exact .inl ⟨by simp[hbw],h.1 hbw⟩
    ·exact .inr ⟨by simp[hbw],h.2 hbw⟩
   ·rename_i hb
    have hlt:t < s.n:=by have:=hdn _ (List.mem_of_getElem? ht);simpa [Da] using this
    rw[QD hr (hds j _ ht) hlt hb]
    exact .inr ⟨rfl,h⟩
   ·exact h.elim
  ·exact h.elim
theorem St.aA (s:St) (d:Option Tmp) (v:AV):(s.put d v).n=s.n:=by cases d <;> rfl
end Go.Abs

