import Derived.Test.YtpahalfiiahddaaAbsO

namespace Go.Abs
open Go
def AQ (P:Program) (s:St) (op:Op) (v:AV):Prop:=∀K:AV→Prop,K v→HH P s op K
def EL (st:List Row) (v:AV) (ys:List (List AV)):Prop:=∀K:List (List AV)→Prop,K ys→Si st v K
section
variable {P : Program} {s : St} {x y z c : Operand} {v : AV} {t t' : TypeId} {kk : IntKind} {a b : Int} {p q : Bool}
theorem BL (h:s.ev x=v):AQ P s (.move x) v:=fun K hk=>by show K (s.ev x);rw[h];exact hk
theorem Yo (h:s.ev x=v):AQ P s (.assign x) v:=fun K hk=>by show K (s.ev x);rw[h];exact hk
theorem WE {x y:AV} {K:AV→Prop} (h:K x):Li (.bool true) x y K:=by
 cases x <;> cases y <;> first | exact h | exact⟨fun _=>h,fun h=>by cases h⟩
theorem WR {x y:AV} {K:AV→Prop} (h:K y):Li (.bool false) x y K:=by
 cases x <;> cases y <;> first | exact h | exact⟨fun h=>(by cases h),fun _=>h⟩
theorem Hu (hc:s.ev c=.bool p) (hp:p=true) (hx:s.ev x=v):AQ P s (.pick c x y) v:=fun K hk=>by
 show Li (s.ev c) (s.ev x) (s.ev y) K
 rw[hc,hp,hx];exact WE hk
theorem Ia (hc:s.ev c=.bool p) (hp:p=false) (hy:s.ev y=v):AQ P s (.pick c x y) v:=fun K hk=>by
 show Li (s.ev c) (s.ev x) (s.ev y) K
 rw[hc,hp,hy];exact WR hk
variable (hx : s.ev x = .int kk a) (hy : s.ev y = .int kk b)
include hx hy
theorem Fo {op:BinOp} (h :∀K:AV→Prop,K v→TW op kk a b K):AQ P s (.binOp op t x y t') v:=fun K hk=>by
 show QS P t op (s.ev x) (s.ev y) K
 rw[hx,hy];exact⟨rfl,h K hk⟩
theorem WS:AQ P s (.binOp .add t x y t') (.int kk (Sh.wk kk (a+b))):=Fo hx hy fun _ hk=>hk
theorem V8:AQ P s (.binOp .sub t x y t') (.int kk (Sh.wk kk (a - b))):=Fo hx hy fun _ hk=>hk
theorem Wq:AQ P s (.binOp .mul t x y t') (.int kk (Sh.wk kk (a * b))):=Fo hx hy fun _ hk=>hk
theorem Ni {q:Int} (h:Sh.rem a b=some q):AQ P s (.binOp .rem t x y t') (.int kk q):=Fo hx hy fun _ hk=>by
 obtain⟨h1,rfl⟩:=Sh.VR h
 exact⟨h1,hk⟩
theorem Y1:AQ P s (.binOp .lss t x y t') (.bool (decide (a < b))):=Fo hx hy fun _ hk=>hk
theorem YV:AQ P s (.binOp .leq t x y t') (.bool (decide (a≤b))):=Fo hx hy fun _ hk=>hk
theorem Yy:AQ P s (.binOp .gtr t x y t') (.bool (decide (b < a))):=Fo hx hy fun _ hk=>hk
theorem Yb:AQ P s (.binOp .geq t x y t') (.bool (decide (b≤a))):=Fo hx hy fun _ hk=>hk
theorem YY:AQ P s (.binOp .eql t x y t') (.bool (decide (a=b))):=Fo hx hy fun _ hk=>hk
theorem Ye:AQ P s (.binOp .neq t x y t') (.bool (!decide (a=b))):=Fo hx hy fun _ hk=>hk
end
section
variable {P : Program} {s : St} {x y z c : Operand} {v : AV} {t t' : TypeId} {kk : IntKind} {a b : Int} {p q : Bool}
variable (hx : s.ev x = i64 a) (hy : s.ev y = i64 b)
include hx hy
theorem Sd:AQ P s (.binOp .add t x y t') (i64 (Sh.w (a+b))):=Fo hx hy fun _ hk=>hk
theorem Kl:AQ P s (.binOp .sub t x y t') (i64 (Sh.w (a - b))):=Fo hx hy fun _ hk=>hk
theorem XF:AQ P s (.binOp .mul t x y t') (i64 (Sh.w (a * b))):=Fo hx hy fun _ hk=>hk
theorem XI:AQ P s (.binOp .xor t x y t') (i64 (Sh.xor a b)):=Fo hx hy fun _ hk=>hk
theorem QX {q:Int} (h:Sh.quo a b=some q):AQ P s (.binOp .quo t x y t') (i64 q):=Fo hx hy fun _ hk=>by
 obtain⟨h1,rfl⟩:=Sh.VL h
 exact⟨h1,hk⟩
theorem Pw (h:b≠0):AQ P s (.binOp .quo t x y t') (i64 (Sh.w (a.tdiv b))):=Fo hx hy fun _ hk=>⟨h,hk⟩
end
section
variable {P : Program} {s : St} {x y z c : Operand} {v : AV} {t t' : TypeId} {kk kk' : IntKind} {a b : Int} {p q ag : Bool} {id g i off off' f size sz bytes m j : Nat} {cs vs : List AV} {xs : List (List AV)} {el : TypeId}
theorem Xe (ht:KC P t=true) (hx:s.ev x=.bool p) (hy:s.ev y=.bool q):AQ P s (.binOp .eql t x y t') (.bool (p == q)):=fun K hk=>by
 show QS P t .eql (s.ev x) (s.ev y) K
 rw[hx,hy];exact⟨ht,hk⟩
theorem XE (ht:KC P t=true) (hx:s.ev x=.bool p) (hy:s.ev y=.bool q):AQ P s (.binOp .neq t x y t') (.bool (p != q)):=fun K hk=>by
 show QS P t .neq (s.ev x) (s.ev y) K
 rw[hx,hy];exact⟨ht,hk⟩
theorem XN (hx:s.ev x=.bool p):AQ P s (.unOp .not t x) (.bool (!p)):=fun K hk=>by
 show VK .not (s.ev x) K
 rw[hx];exact hk
theorem Xf (hx:s.ev x=i64 a):AQ P s (.unOp .neg t x) (i64 (Sh.w (-a))):=fun K hk=>by
 show VK .neg (s.ev x) K
 rw[hx];exact hk
def Ua (P:Program) (src dst:TypeId):Option IntKind:=
 match P.underlying src,P.underlying dst with
 | some _,some (.int k)=>some k
 | _,_=>none
theorem UC (hc:Ua P t t'=some kk') (hx:s.ev x=.int kk a):AQ P s (.convert t t' x) (.int kk' (Sh.wk kk' a)):=fun K hk=>by
 show Qj P t t' (s.ev x) K
 rw[hx]
 unfold Ua at hc
 unfold Qj
 split at hc
 ·rename_i h1 h2
  simp only[Option.some.injEq] at hc
  subst hc
  simp only[h1,h2];exact hk
 ·cases hc
theorem Ys (hx:s.ev x=.CO vs) (hv:vs[i]?=some v):AQ P s (.extract x i) v:=fun K hk=>by
 show MN (s.ev x) i K
 rw[hx];exact Ao v hv hk
theorem YM {fn:FuncId} {caps:Array Operand} (hc:caps.toList.map s.ev=cs):AQ P s (.makeFunc (.func fn) #[] caps) (.fn fn cs):=fun K hk=>by
 subst hc;exact⟨rfl,hk⟩
theorem Fm (ht:EN P t=some (false,sz)) (hx:s.ev x=.Al cs off) (hv:cs[off]?=some v):AQ P s (.load t x) v:=fun K hk=>by
 show Lm P s.st t (s.ev x) K
 rw[hx];exact Ao _ ht (Ao v hv hk)
theorem Fu (ht:EN P t=some (true,sz)) (hx:s.ev x=.Al cs off) (hl:off+sz≤cs.length) (hv:(cs.drop off).take sz=vs):AQ P s (.load t x) (.agg vs):=fun K hk=>by
 show Lm P s.st t (s.ev x) K
 rw[hx];subst hv;exact Ao _ ht ⟨hl,hk⟩
theorem B1 (ht:EN P t=some (false,sz)) (hx:s.ev x=.ptr id g i off) (hr:s.st[id]?=some ⟨g,el,size,xs⟩) (hi:xs[i]?=some cs) (hv:cs[off]?=some v):AQ P s (.load t x) v:=fun K hk=>by
 show Lm P s.st t (s.ev x) K
 rw[hx];exact Ao _ ht (Ao _ hr ⟨rfl,Ao cs hi (Ao v hv hk)⟩)
theorem A9 (ht:EN P t=some (true,sz)) (hx:s.ev x=.ptr id g i off) (hr:s.st[id]?=some ⟨g,el,size,xs⟩) (hi:xs[i]?=some cs) (hl:off+sz≤cs.length) (hv:(cs.drop off).take sz=vs):AQ P s (.load t x) (.agg vs):=fun K hk=>by
 show Lm P s.st t (s.ev x) K
 rw[hx];subst hv;exact Ao _ ht (Ao _ hr ⟨rfl,Ao cs hi ⟨hl,hk⟩⟩)
theorem GB (hf:Hf P t f=some j) (hx:s.ev x=.Al cs off) (ho:off+j=off'):AQ P s (.fieldAddr t x f) (.Al cs off'):=fun K hk=>by
 show Im P t (s.ev x) f s.st K
 rw[hx];subst ho;exact Ao _ hf hk
theorem F8 (hf:Hf P t f=some j) (hx:s.ev x=.ptr id g i off) (hr:s.st[id]?=some ⟨g,el,size,xs⟩) (hl:off+j≤size) (ho:off+j=off'):AQ P s (.fieldAddr t x f) (.ptr id g i off'):=fun K hk=>by
 show Im P t (s.ev x) f s.st K
 rw[hx];subst ho;exact Ao _ hf (Ao _ hr ⟨rfl,hl,hk⟩)
def OW (P:Program) (t:TypeId) (f:Nat):Option (Nat×Bool×Nat):=
 match P.underlying t with
 | some (.struct fs)=>match fs[f]? with
  | some g=>match EN P g.type with
   | some ti=>some (g.offset,ti)
   | none=>none
  | none=>none
 | _=>none
theorem QN {f:Nat} {o:Nat} {ti:Bool×Nat} {K:AV→Prop} (h:OW P t f=some (o,ti)) (hk:IU ti.1 ti.2 cs o K):Jz P t (.agg cs) f K:=by
 unfold OW at h
 unfold Jz
 split at h
 ·rename_i fs hu
  split at h
  ·rename_i gg hg
   split at h
   ·rename_i ti' ht
    simp only[Option.some.injEq,Prod.mk.injEq] at h
    obtain⟨rfl,rfl⟩:=h
    rw[hu]
    exact Ao _ hg (Ao _ ht hk)
   ·cases h
  ·cases h
 ·cases h
theorem YP (hf:OW P t f=some (off,false,sz)) (hx:s.ev x=.agg cs) (hv:cs[off]?=some v):AQ P s (.field t x f) v:=fun K hk=>by
 show Jz P t (s.ev x) f K
 rw[hx];exact QN hf (Ao v hv hk)
theorem XX (hf:OW P t f=some (off,true,sz)) (hx:s.ev x=.agg cs) (hl:off+sz≤cs.length) (hv:(cs.drop off).take sz=vs):AQ P s (.field t x f) (.agg vs):=fun K hk=>by
 show Jz P t (s.ev x) f K
 rw[hx];subst hv;exact QN hf ⟨hl,hk⟩
variable {α : Type} {l l' : List α} {enc : α → List AV} {n : Int} {zz : List AV} {u : α}
theorem Bs (h:Sh.get l n=some u):(l.map enc)[n.toNat]?=some (enc u):=by
 rw[List.getElem?_map,(Sh.get_some h).2.1];rfl
theorem CZ (he:Ct P t=some ⟨el,size,bytes,zz⟩) (hx:s.ev x=.sl (l.map enc)) (hy:s.ev y=.int kk n) (hg:Sh.get l n=some u) (hs:(enc u).length=size):AQ P s (.indexAddr t x y) (.Al (enc u) 0):=fun K hk=>by
 show Hp P s.st t (s.ev x) (s.ev y) K
 rw[hx,hy];exact Ao _ he ⟨(Sh.get_some hg).1,Ao _ (Bs hg) ⟨hs,hk⟩⟩
theorem Bn (he:Ct P t=some ⟨el,size,bytes,zz⟩) (hx:s.ev x=.own id g m) (hy:s.ev y=.int kk n) (hr:s.st[id]?=some ⟨g,el,size,l.map enc⟩) (hm:m=l.length) (hg:Sh.get l n=some u) :
  AQ P s (.indexAddr t x y) (.ptr id g n.toNat 0):=fun K hk=>by
 show Hp P s.st t (s.ev x) (s.ev y) K
 rw[hx,hy];subst hm;exact Ao _ he ⟨(Sh.get_some hg).1,(Sh.get_some hg).2.2,Ao _ hr ⟨rfl,rfl,by simpa using hk⟩⟩
theorem B6 (hs:DG P t=true) (hx:s.ev x=.sl (l.map enc)):AQ P s (.call ⟨.builtin .len,#[x],#[t]⟩) (i64 (Sh.len l)):=fun K hk=>by
 refine⟨hs,?_⟩
 rw[hx];simp only[U0,List.length_map];exact hk
theorem CW (hs:DG P t=true) (hx:s.ev x=.own id g m) (hr:s.st[id]?=some ⟨g,el,size,l.map enc⟩) (hm:m=l.length):AQ P s (.call ⟨.builtin .len,#[x],#[t]⟩) (i64 (Sh.len l)):=fun K hk=>by
 refine⟨hs,?_⟩
 subst hm
 rw[hx];exact Ao _ hr ⟨rfl,hk⟩
theorem TA (hs:DG P t=true) (hx:s.ev x=.zc):AQ P s (.call ⟨.builtin .len,#[x],#[t]⟩) (i64 0):=fun K hk=>by
 refine⟨hs,?_⟩
 rw[hx];exact hk
theorem XZ (hx:s.ev x=.ptr id g i off) (hr:s.st[id]?=some ⟨g,el,size,xs⟩):AQ P s (.nilCheck x) (.ptr id g i off):=fun K hk=>by
 show R5 s.st (s.ev x) K
 rw[hx];exact Ao _ hr ⟨rfl,hk⟩
theorem W5 (hx:s.ev x=.Al cs off):AQ P s (.nilCheck x) (.Al cs off):=fun K hk=>by
 show R5 s.st (s.ev x) K
 rw[hx];exact hk
theorem EF {parts:Array (Nat×Operand)} {fs:List (Nat×Nat)} {pv:List (Nat×AV)} (ha:Gt P t=true) (hf:Hx P t=some fs) (hz:Gr P t=some zz) (hp:(parts.toList.map fun p=>(p.1,s.ev p.2))=pv) (hc:JJ (fs[·]?) zz pv=some cs) :
  AQ P s (.build t parts) (.agg cs):=fun K hk=>by
 show SQ P t (parts.toList.map fun p=>(p.1,s.ev p.2)) K
 rw[hp];exact⟨ha,Ao _ hf (Ao _ hz (Ao _ hc hk))⟩
variable {st : List Row} {ys : List (List AV)}
theorem OP:EL st (.sl ys) ys:=fun _ hk=>hk
theorem EO (hr:st[id]?=some ⟨g,el,size,l.map enc⟩) (hm:m=l.length) (hlf :∀x,(enc x).all AV.leaf=true:=by exact fun _=>rfl):EL st (.own id g m) (l.map enc):=fun K hk=>by
 subst hm
 refine Ao _ hr ⟨rfl,fun y hy c hc=>?_,?_⟩
 ·obtain⟨x,_,rfl⟩:=List.mem_map.1 hy
  exact List.all_eq_true.1 (hlf x) c hc
 rw[← List.length_map (f:=enc) (as:=l),List.take_length];exact⟨rfl,hk⟩
end
section
variable {P : Program} {k : Nat} {ops : Array Oper} {Q : Exit → St → Prop} {ds : List (Option Tmp)} {r : List Oper} {n : Nat} {e : Nat → AV} {st st' : List Row} {op : Op} {ty : TypeId} {ps : String} {ed : Array Edge} {d : Option Tmp} {t : Tmp} {v v' : AV}
variable {jj : Nat} {want b : Bool} {tg : Tmp} {gd : Option (Nat × Bool)}
def GO (ds:List (Option Tmp)) (gd:Option (Nat×Bool)) (e:Nat→AV):Prop:=
 match gd with
 | none=>True
 | some (jj,want)=>∃tg,ds[jj]?=some (some tg)∧e tg=.bool want
theorem AM:GO ds none e:=trivial
theorem Bw (hj:ds[jj]?=some (some tg)) (ht:e tg=.bool b) (hb:b=want):GO ds (some (jj,want)) e:=⟨tg,hj,by rw[ht,hb]⟩
theorem GO.guard {A B:Prop} (hg:GO ds gd e) (h:A):Gb ds ⟨d,op,ty,ps,ed,gd⟩ ⟨n,e,st⟩ A B:=by
 unfold GO at hg
 unfold Gb
 cases gd with
 | none=>exact h
 | some q=>
  obtain⟨jj,want⟩:=q
  obtain⟨tg,hj,ht⟩:=hg
  simp only[hj,ht,TJ]
  exact⟨fun _=>h,fun hh=>absurd rfl hh⟩
theorem B3 (hg:GO ds gd e) (hl:HZ op=false) (hq:AQ P ⟨n,e,st⟩ op v) (hk:AO P k ops Q (ds ++ [some t]) r ⟨n,Ds e t v,st⟩):AO P k ops Q ds (⟨some t,op,ty,ps,ed,gd⟩ :: r) ⟨n,e,st⟩:=by
 refine AO.step (hg.guard ?_)
 unfold IT
 simp only[hl,Bool.false_eq_true,if_false]
 exact hq _ hk
theorem Jt (hg:GO ds gd e) (h:IT P k ⟨d,op,ty,ps,ed,gd⟩ ⟨n,e,st⟩ (AO P k ops Q (ds ++ [d]) r)):AO P k ops Q ds (⟨d,op,ty,ps,ed,gd⟩ :: r) ⟨n,e,st⟩:=
 AO.step (hg.guard h)
theorem WQ (hj:ds[jj]?=some (some tg)) (ht:e tg=.bool b) (hb:b=!want) (h:AO P k ops Q (ds ++ [some t]) r ⟨n,Ds e t .un,st⟩):AO P k ops Q ds (⟨some t,op,ty,ps,ed,some (jj,want)⟩ :: r) ⟨n,e,st⟩:=by
 refine AO.step ?_
 subst hb
 simp only[Gb,hj,ht,TJ]
 exact⟨fun h=>(by cases want <;> cases h),fun _=>h⟩
theorem WO (hj:ds[jj]?=some (some tg)) (ht:e tg=.un) (h:AO P k ops Q (ds ++ [some t]) r ⟨n,Ds e t .un,st⟩):AO P k ops Q ds (⟨some t,op,ty,ps,ed,some (jj,want)⟩ :: r) ⟨n,e,st⟩:=by
 refine AO.step ?_
 simp only[Gb,hj,ht,TJ]
 exact h
variable {KS : St → Prop}
theorem HN (hg:GO ds gd e) (hl:HZ op=false) (hq:AQ P ⟨n,e,st⟩ op v) (hk:Cw P (ds ++ [some t]) r KS ⟨n,Ds e t v,st⟩):Cw P ds (⟨some t,op,ty,ps,ed,gd⟩ :: r) KS ⟨n,e,st⟩:=by
 refine hg.guard ?_
 unfold IM
 simp only[hl,Bool.false_eq_true,if_false]
 exact hq _ hk
theorem Vh (hg:GO ds gd e) (hl:HZ op=true) (hq :∀s0:St,s0.st=st→(∀x∈op.operands,s0.ev x=St.ev ⟨n,e,st⟩ x)→De s0.n (some t)=true→Yl P ⟨some t,op,ty,ps,ed,gd⟩ s0 v) (hk:Cw P (ds ++ [some t]) r KS ⟨n,Ds e t v,st⟩):Cw P ds (⟨some t,op,ty,ps,ed,gd⟩ :: r) KS ⟨n,e,st⟩:=by
 refine hg.guard ?_
 unfold IM
 simp only[hl,if_true]
 exact⟨v,hq,hk⟩
theorem XY (hj:ds[jj]?=some (some tg)) (ht:e tg=.bool b) (hb:b=!want) (h:Cw P (ds ++ [some t]) r KS ⟨n,Ds e t .un,st⟩):Cw P ds (⟨some t,op,ty,ps,ed,some (jj,want)⟩ :: r) KS ⟨n,e,st⟩:=by
 subst hb
 simp only[Cw,Gb,hj,ht,TJ]
 exact⟨fun h=>(by cases want <;> cases h),fun _=>h⟩
theorem Ax {s:St} (h:KS s):Cw P ds [] KS s:=h
theorem Nc {ars:Array Operand} {f:FuncId} {ts:Array TypeId} {s0 s1:St} (h :∀x∈(Op.call ⟨.value (.func f),ars,ts⟩).operands,s0.ev x=s1.ev x):ars.toList.map s0.ev=ars.toList.map s1.ev:=
 List.map_congr_left fun x hx=>h x (by simp[Op.operands,Call.operands];right;simpa using hx)
theorem BS {f:FuncId} {ars:Array Operand} {ts:Array TypeId} {args:List AV} (hg:GO ds gd e) (hb:Aq P f=true) (hc:Ai P f args [] fun r st=>r=v∧st=[]) (ha:ars.toList.map (St.ev ⟨n,e,st⟩) ++ []=args) (hf:args.all flat=true) (hv:flat v=true)
  (hk:Cw P (ds ++ [some t]) r KS ⟨n,Ds e t v,st⟩):Cw P ds (⟨some t,.call ⟨.value (.func f),ars,ts⟩,ty,ps,ed,gd⟩ :: r) KS ⟨n,e,st⟩:=by
 refine Vh hg rfl (fun s0 e1 e2 hd k F os a w hr next Q hn=>?_) hk
 refine IQ (k:=k) (K:=(·=s0.put (some t) v)) hr hd ?_ hn
 show Aq P f=true∧callThen P k s0 f (ars.toList.map s0.ev ++ []) (some t) _
 rw[Nc e2,ha]
 exact⟨hb,Pj hc hf hv rfl⟩
variable {α : Type} {l l' l2 : List α} {enc : α → List AV} {kk kk' : IntKind} {j : Int} {el T : TypeId} {size bytes sz id g i m off : Nat} {zz cs us : List AV} {x y : Operand} {xs : List (List AV)} {ag : Bool} {u u' : α}
theorem A1 (hg:GO ds gd e) (hz:Gr P T=some zz) (hm:st.length=m) (hst:st ++ [⟨0,T,zz.length,[zz]⟩]=st') (hk:AO P k ops Q (ds ++ [some t]) r ⟨n,Ds e t (.ptr m 0 0 0),st'⟩):AO P k ops Q ds (⟨some t,.alloc T,ty,ps,ed,gd⟩ :: r) ⟨n,e,st⟩:=by
 subst hm;subst hst
 exact Jt hg (Ao _ hz hk)
theorem Bl (hg:GO ds gd e) (hx:St.ev ⟨n,e,st⟩ x=v) (hc:IZ v=some cs) (hne:cs.isEmpty=false) (hm:st.length=m) (hst:st ++ [⟨0,T,cs.length,[cs]⟩]=st') (hk:AO P k ops Q (ds ++ [some t]) r ⟨n,Ds e t (.ptr m 0 0 0),st'⟩):AO P k ops Q ds (⟨some t,.box T x,ty,ps,ed,gd⟩ :: r) ⟨n,e,st⟩:=by
 subst hm;subst hst;subst hx
 exact Jt hg (Ao _ hc ⟨(by intro h;rw[h] at hne;cases hne),hk⟩)
theorem Az (hg:GO ds gd e) (ht:EN P T=some (ag,sz)) (hx:St.ev ⟨n,e,st⟩ x=.ptr id g i off) (hr:st[id]?=some ⟨g,el,size,xs⟩) (hi:xs[i]?=some zz) (hv:St.ev ⟨n,e,st⟩ y=v) (hc:IZ v=some cs) (hn:cs.length=sz) (hle:off+cs.length≤size)
  (hst:st.set id ⟨g,el,size,xs.set i (FW zz off cs)⟩=st') (hk:AO P k ops Q (ds ++ [none]) r ⟨n,e,st'⟩):AO P k ops Q ds (⟨none,.store T x y,ty,ps,ed,gd⟩ :: r) ⟨n,e,st⟩:=by
 subst hst;subst hv
 refine Jt hg ?_
 rw[Vb,hx];exact Ao _ ht (Ao _ hr ⟨rfl,Ao _ hi (Ao _ hc ⟨hn,hle,hk⟩)⟩)
theorem V0 {j:Int}:(l.map enc).set j.toNat (enc u)=(Sh.put l j u).map enc:=by simp[Sh.put,List.map_set]
theorem Gf (hg:GO ds gd e) (ht:EN P T=some (ag,sz)) (hx:St.ev ⟨n,e,st⟩ x=.ptr id g j.toNat off) (hr:st[id]?=some ⟨g,el,size,l.map enc⟩) (hi:Sh.get l j=some u) (hv:St.ev ⟨n,e,st⟩ y=v) (hc:IZ v=some cs) (hn:cs.length=sz) (hle:off+cs.length≤size)
  (hsp:FW (enc u) off cs=enc u') (hst:st.set id ⟨g,el,size,(Sh.put l j u').map enc⟩=st') (hk:AO P k ops Q (ds ++ [none]) r ⟨n,e,st'⟩):AO P k ops Q ds (⟨none,.store T x y,ty,ps,ed,gd⟩ :: r) ⟨n,e,st⟩:=
 Az hg ht hx hr (Bs hi) hv hc hn hle (by rw[hsp,V0];exact hst) hk
theorem OI (hg:GO ds gd e) (he:Ct P T=some ⟨el,size,bytes,zz⟩) (hx:St.ev ⟨n,e,st⟩ x=.int kk j) (hy:St.ev ⟨n,e,st⟩ y=.int kk' j) (hz:enc u=zz) (hl:Sh.mk u j bytes=some l) (hm:st.length=m) (hst:st ++ [⟨0,el,size,l.map enc⟩]=st')
  (hk:AO P k ops Q (ds ++ [some t]) r ⟨n,Ds e t (.own m 0 l.length),st'⟩):AO P k ops Q ds (⟨some t,.makeSlice T x y,ty,ps,ed,gd⟩ :: r) ⟨n,e,st⟩:=by
 subst hm;subst hst;subst hz
 refine Jt hg ?_
 rw[RV]
 unfold Sh.mk at hl
 split at hl
 ·rename_i h
  simp only[Option.some.injEq] at hl
  subst hl
  rw[hx,hy]
  simp only[List.map_replicate,List.length_replicate] at hk
  exact Ao _ he ⟨rfl,h.1,h.2.1,h.2.2,hk⟩
 ·cases hl
theorem A3 {len:Nat} {parts:Array (Nat×Operand)} {pv:List (Nat×AV)} (hg:GO ds gd e) (he:Ct P T=some ⟨el,size,bytes,zz⟩) (hle:len * size≤16777216) (hp:(parts.toList.map fun p=>(p.1,St.ev ⟨n,e,st⟩ p.2))=pv)
  (hc:JJ (fun i=>some (i * size,size)) ((List.replicate len zz).flatten) pv=some cs) (hck:chunk size len cs=l.map enc) (hln:len=l.length) (hm:st.length=m) (hst:st ++ [⟨0,el,size,l.map enc⟩]=st') (hk:AO P k ops Q (ds ++ [some t]) r ⟨n,Ds e t (.own m 0 l.length),st'⟩) :
  AO P k ops Q ds (⟨some t,.buildSlice T len parts,ty,ps,ed,gd⟩ :: r) ⟨n,e,st⟩:=by
 subst hm;subst hst;subst hln
 refine Jt hg ?_
 rw[P6,hp];exact Ao _ he ⟨hle,Ao _ hc (by rw[hck];exact hk)⟩
theorem CB {ys:AV} (hg:GO ds gd e) (he:Ct P T=some ⟨el,size,bytes,zz⟩) (hx:St.ev ⟨n,e,st⟩ x=.own id g m) (hr:st[id]?=some ⟨g,el,size,l.map enc⟩) (hm:m=l.length) (hy:St.ev ⟨n,e,st⟩ y=ys) (hel:EL st ys (l2.map enc)) (hs :∀a,(enc a).length=size) (ha:Sh.app l l2 bytes=some l')
  (hst:st.set id ⟨g+1,el,size,l'.map enc⟩=st') (hk:AO P k ops Q (ds ++ [some t]) r ⟨n,Ds e t (.own id (g+1) l'.length),st'⟩):AO P k ops Q ds (⟨some t,.call ⟨.builtin .append,#[x,y],#[T,T]⟩,ty,ps,ed,gd⟩ :: r) ⟨n,e,st⟩:=by
 subst hst;subst hy;subst hm
 refine Jt hg ?_
 rw[UU]
 refine⟨rfl,?_⟩
 rw[hx]
 unfold Sh.app at ha
 split at ha
 ·rename_i h
  simp only[Option.some.injEq] at ha
  subst ha
  refine Ao _ he (hel _ ⟨fun z hz=>?_,Ao _ hr ⟨rfl,(List.length_map _).symm,rfl,rfl,by simpa using h.1,by simpa using h.2,?_⟩⟩)
  ·obtain⟨q,_,rfl⟩:=List.mem_map.1 hz;exact hs q
  ·have e1:(l.map enc).take l.length=l.map enc:=by rw[← List.length_map (f:=enc) (as:=l),List.take_length]
   have e2:l.length+(l2.map enc).length=(l ++ l2).length:=by simp
   simp only[e1,e2,← List.map_append]
   exact hk
 ·cases ha
theorem Um {hop:Operand} (hg:GO ds gd e) (he:Ct P T=some ⟨el,size,bytes,zz⟩) (hx:St.ev ⟨n,e,st⟩ x=.own id g m) (hr:st[id]?=some ⟨g,el,size,l.map enc⟩) (hm:m=l.length) (hh:St.ev ⟨n,e,st⟩ hop=.int kk j) (hl:Sh.hi l j=some l')
  (hst:st.set id ⟨g+1,el,size,l'.map enc⟩=st') (hk:AO P k ops Q (ds ++ [some t]) r ⟨n,Ds e t (.own id (g+1) l'.length),st'⟩):AO P k ops Q ds (⟨some t,.slice T x none (some hop) none,ty,ps,ed,gd⟩ :: r) ⟨n,e,st⟩:=by
 subst hst;subst hm
 refine Jt hg ?_
 rw[O4]
 simp only[Option.map_some,Option.map_none]
 rw[hx,hh]
 unfold Sh.hi at hl
 split at hl
 ·rename_i h
  simp only[Option.some.injEq] at hl
  subst hl
  refine Ao _ he (Ao _ hr ⟨rfl,(List.length_map _).symm,rfl,Ao _ rfl ⟨h.1,h.2,?_⟩⟩)
  have e1:(l.take j.toNat).length=j.toNat:=by rw[List.length_take];omega
  rw[e1,List.map_take] at hk
  exact hk
 ·cases hl
theorem Nr {lo hi:Option Operand} {i j:Int} (hg:GO ds gd e) (he:Ct P T=some ⟨el,size,bytes,zz⟩) (hx:St.ev ⟨n,e,st⟩ x=.sl (l.map enc)) (h1:Oz (lo.map (St.ev ⟨n,e,st⟩)) 0=some i) (h2:Oz (hi.map (St.ev ⟨n,e,st⟩)) l.length=some j) (hs :∀a,(enc a).length=size) (hl:Sh.sl l i j=some l')
  (hk:AO P k ops Q (ds ++ [some t]) r ⟨n,Ds e t (.sl (l'.map enc)),st⟩):AO P k ops Q ds (⟨some t,.slice T x lo hi none,ty,ps,ed,gd⟩ :: r) ⟨n,e,st⟩:=by
 refine Jt hg ?_
 rw[O4]
 simp only[Option.map_none]
 rw[hx]
 unfold Sh.sl at hl
 split at hl
 ·rename_i h
  simp only[Option.some.injEq] at hl
  subst hl
  refine Ao _ he (Ao _ h1 (Ao _ (by rw[List.length_map];exact h2) ⟨h.1,h.2.1,by simpa using h.2.2,fun z hz=>?_,?_⟩))
  ·obtain⟨q,_,rfl⟩:=List.mem_map.1 hz;exact hs q
  ·rw[List.map_drop,List.map_take] at hk
   exact hk
 ·cases hl
theorem Xc (hg:GO ds gd e) (hs:DG P T=true) (hx:St.ev ⟨n,e,st⟩ x=.sl (l.map enc)) (h1:l=[]→AO P k ops Q (ds ++ [some t]) r ⟨n,Ds e t (.bool true),st⟩) (h2:AO P k ops Q (ds ++ [some t]) r ⟨n,Ds e t (.bool false),st⟩) {yT:TypeId} :
  AO P k ops Q ds (⟨some t,.binOp .eql T x (.const (.slice none 0 0)) yT,ty,ps,ed,gd⟩ :: r) ⟨n,e,st⟩:=by
 refine Jt hg ?_
 rw[S6]
 refine⟨hs,?_⟩
 rw[hx]
 exact⟨fun h=>h1 (List.map_eq_nil_iff.1 h),h2⟩
def RD:List Row→Prop
 | []=>True
 | row :: r=>Cr row.xs∧RD r
theorem RD.get :∀{l:List Row},RD l→∀row∈l,Cr row.xs
 | row :: r,h,row',hm=>by
  rcases List.mem_cons.1 hm with rfl | hm
  ·exact h.1
  ·exact RD.get h.2 row' hm
variable {f : FuncId} {ars : Array Operand} {ts : Array TypeId} {args : List AV} {rows : List Row} {s : St}
theorem Bz (hg:GO ds gd e) (hb:Aq P f=true) (hc:Ai P f args [] fun r st=>r=v∧st=rows) (ha:ars.toList.map (St.ev ⟨n,e,st⟩) ++ []=args) (hf:args.all flat=true) (hp:RD rows) (hv:shift st.length v=v') (hst:st ++ rows=st')
  (hk:AO P k ops Q (ds ++ [d]) r (St.put ⟨n,e,st'⟩ d v')):AO P k ops Q ds (⟨d,.call ⟨.value (.func f),ars,ts⟩,ty,ps,ed,gd⟩ :: r) ⟨n,e,st⟩:=by
 subst hv;subst hst;subst ha
 refine Jt hg ?_
 rw[J6]
 refine⟨hb,Qh hc hf ?_⟩
 rintro r st' ⟨rfl,rfl⟩
 exact⟨hp.get,hk⟩
theorem VC {g:Nat} {enc':α→List AV} (hr:st[id]?=some ⟨g,el,size,l.map enc⟩) (hu :∀x,Jp (enc x)=enc' x):Nn st (.own id g l.length)=.sl (l.map enc'):=by
 simp only[Nn,hr,if_true]
 rw[← List.length_map (f:=enc) (as:=l),Nat.sub_self,List.drop_zero,G4,List.map_map]
 congr 1
 exact List.map_congr_left fun x _=>hu x
theorem Nu {cs:List AV} (h:cs.all simple=true):Jp cs=cs:=by
 rw[KK]
 exact (List.map_congr_left (g:=id) fun c hc=>PQ (List.all_eq_true.1 h c hc)).trans (List.map_id _)
inductive BC (st:List Row):List AV→List AV→Prop
 | nil:BC st [] []
 | own {α:Type} {l:List α} {enc:α→List AV} {id g size m:Nat} {el:TypeId} {as bs:List AV} (hr:st[id]?=some ⟨g,el,size,l.map enc⟩) (hm:m=l.length) (hp :∀x,(enc x).all simple=true) (h:BC st as bs):BC st (.own id g m :: as) (.sl (l.map enc) :: bs)
 | ownD {α:Type} {l:List α} {enc enc':α→List AV} {id g size m:Nat} {el:TypeId} {as bs:List AV} (hr:st[id]?=some ⟨g,el,size,l.map enc⟩) (hm:m=l.length) (hp :∀x,(enc x).all D1=true) (hu :∀x,Jp (enc x)=enc' x) (h:BC st as bs):BC st (.own id g m :: as) (.sl (l.map enc') :: bs)
 | val {v:AV} {as bs:List AV} (hv:simple v=true) (h:BC st as bs):BC st (v :: as) (v :: bs)
inductive BA (st:List Row):List AV→List AV→Prop
 | nil:BA st [] []
 | own {α:Type} {l:List α} {enc:α→List AV} {id g size m:Nat} {el:TypeId} {as bs:List AV} (hr:st[id]?=some ⟨g,el,size,l.map enc⟩) (hm:m=l.length) (hp :∀x,(enc x).all simple=true) (h:BA st as bs):BA st (.own id g m :: as) (.sl (l.map enc) :: bs)
 | ownD {α:Type} {l:List α} {enc enc':α→List AV} {id g size m:Nat} {el:TypeId} {as bs:List AV} (hr:st[id]?=some ⟨g,el,size,l.map enc⟩) (hm:m=l.length) (hp :∀x,(enc x).all D1=true) (hu :∀x,Jp (enc x)=enc' x) (h:BA st as bs):BA st (.own id g m :: as) (.sl (l.map enc') :: bs)
 | agg {cs ds:List AV} {as bs:List AV} (hc:BC st cs ds) (h:BA st as bs):BA st (.agg cs :: as) (.agg ds :: bs)
 | val {v:AV} {as bs:List AV} (hv:flat v=true) (h:BA st as bs):BA st (v :: as) (v :: bs)
theorem Np {v:AV} (h:simple v=true):Nn st v=v:=by cases v <;> simp_all [simple,Nn]
theorem BC.spec {as bs:List AV} (h:BC st as bs):as.map (Nn st)=bs∧bs.all simple=true∧∀id g n,AV.own id g n∈as→∀row,st[id]?=some row→Cr row.xs:=by
 induction h with
 | nil=>exact⟨rfl,rfl,by simp⟩
 | own hr hm hp h ih=>
  obtain⟨h1,h2,h3⟩:=ih
  subst hm
  refine⟨by rw[List.map_cons,VC hr (fun x=>Nu (hp x)),h1],by simp[simple,h2],fun id' g' n' hx row hrow=>?_⟩
  rcases List.mem_cons.1 hx with hx | hx
  ·cases hx;rw[hr] at hrow;cases hrow;exact (AB hp).any
  ·exact h3 id' g' n' hx row hrow
 | ownD hr hm hp hu h ih=>
  obtain⟨h1,h2,h3⟩:=ih
  subst hm
  refine⟨by rw[List.map_cons,VC hr hu,h1],by simp[simple,h2],fun id' g' n' hx row hrow=>?_⟩
  rcases List.mem_cons.1 hx with hx | hx
  ·cases hx;rw[hr] at hrow;cases hrow;exact QK hp
  ·exact h3 id' g' n' hx row hrow
 | @val v as bs hv h ih=>
  obtain⟨h1,h2,h3⟩:=ih
  refine⟨by rw[List.map_cons,Np hv,h1],by simp[hv,h2],fun id' g' n' hx row hrow=>?_⟩
  rcases List.mem_cons.1 hx with hx | hx
  ·subst hx;simp[simple] at hv
  ·exact h3 id' g' n' hx row hrow
theorem BA.spec {as bs:List AV} (h:BA st as bs):as.map (Fc st)=bs∧bs.all flat=true∧∀id g n,MB as id g n→∀row,st[id]?=some row→Cr row.xs:=by
 induction h with
 | nil=>exact⟨rfl,rfl,by rintro id g n (h | ⟨_,h,_⟩) <;> simp at h⟩
 | own hr hm hp h ih=>
  obtain⟨h1,h2,h3⟩:=ih
  subst hm
  refine⟨by rw[List.map_cons,h1];congr 1;exact VC hr (fun x=>Nu (hp x)),by simp[flat,h2],fun id' g' n' hx row hrow=>?_⟩
  rcases hx with hx | ⟨cs,hx,hin⟩
  ·rcases List.mem_cons.1 hx with hx | hx
   ·cases hx;rw[hr] at hrow;cases hrow;exact (AB hp).any
   ·exact h3 id' g' n' (.inl hx) row hrow
  ·rcases List.mem_cons.1 hx with hx | hx
   ·cases hx
   ·exact h3 id' g' n' (.inr ⟨cs,hx,hin⟩) row hrow
 | ownD hr hm hp hu h ih=>
  obtain⟨h1,h2,h3⟩:=ih
  subst hm
  refine⟨by rw[List.map_cons,h1];congr 1;exact VC hr hu,by simp[flat,h2],fun id' g' n' hx row hrow=>?_⟩
  rcases hx with hx | ⟨cs,hx,hin⟩
  ·rcases List.mem_cons.1 hx with hx | hx
   ·cases hx;rw[hr] at hrow;cases hrow;exact QK hp
   ·exact h3 id' g' n' (.inl hx) row hrow
  ·rcases List.mem_cons.1 hx with hx | hx
   ·cases hx
   ·exact h3 id' g' n' (.inr ⟨cs,hx,hin⟩) row hrow
 | agg hc h ih=>
  obtain⟨h1,h2,h3⟩:=ih
  obtain⟨g1,g2,g3⟩:=hc.spec
  refine⟨by rw[List.map_cons,h1];simp only[Fc,g1],by simp only[List.all_cons,h2,Bool.and_true];simpa [flat] using g2,fun id' g' n' hx row hrow=>?_⟩
  rcases hx with hx | ⟨cs,hx,hin⟩
  ·rcases List.mem_cons.1 hx with hx | hx
   ·cases hx
   ·exact h3 id' g' n' (.inl hx) row hrow
  ·rcases List.mem_cons.1 hx with hx | hx
   ·cases hx;exact g3 id' g' n' hin row hrow
   ·exact h3 id' g' n' (.inr ⟨cs,hx,hin⟩) row hrow
 | @val v as bs hv h ih=>
  obtain⟨h1,h2,h3⟩:=ih
  have e1:Fc st v=v:=by
   cases v <;> simp[flat] at hv <;> try rfl
   rename_i cs
   simp only[Fc]
   congr 1
   exact (List.map_congr_left (g:=id) fun c hc=>Np (hv c hc)).trans (List.map_id _)
  refine⟨by rw[List.map_cons,e1,h1],by simp[hv,h2],fun id' g' n' hx row hrow=>?_⟩
  rcases hx with hx | ⟨cs,hx,hin⟩
  ·rcases List.mem_cons.1 hx with hx | hx
   ·subst hx;simp[flat] at hv
   ·exact h3 id' g' n' (.inl hx) row hrow
  ·rcases List.mem_cons.1 hx with hx | hx
   ·subst hx
    have:=List.all_eq_true.1 (show cs.all simple=true from hv) _ hin
    simp[simple] at this
   ·exact h3 id' g' n' (.inr ⟨cs,hx,hin⟩) row hrow
def Kg:List Row→Prop
 | []=>True
 | row :: r=>(Cr row.xs∧∀x∈row.xs,∀c∈x,J4 c=true)∧Kg r
theorem Kg.get :∀{l:List Row},Kg l→∀row∈l,Cr row.xs∧∀x∈row.xs,∀c∈x,J4 c=true
 | row :: r,h,row',hm=>by
  rcases List.mem_cons.1 hm with rfl | hm
  ·exact h.1
  ·exact Kg.get h.2 row' hm
theorem YI {g:Nat} (h :∀x,(enc x).all (fun c=>D1 c && J4 c)=true) (hr:Kg rows):Kg (⟨g,el,size,l.map enc⟩ :: rows):=by
 refine⟨⟨fun x hx c hc=>?_,fun x hx c hc=>?_⟩,hr⟩ <;>
 ·obtain⟨y,_,rfl⟩:=List.mem_map.1 hx
  have:=List.all_eq_true.1 (h y) c hc
  simp only[Bool.and_eq_true] at this
  first | exact this.1 | exact this.2
theorem Xx {g:Nat} (h :∀x,(enc x).all (fun c=>simple c && J4 c)=true) (hr:Kg rows):Kg (⟨g,el,size,l.map enc⟩ :: rows):=
 YI (fun x=>List.all_eq_true.2 fun c hc=>by
  have:=List.all_eq_true.1 (h x) c hc
  simp only[Bool.and_eq_true] at this ⊢
  exact⟨LI this.1,this.2⟩) hr
theorem JC {as:List AV} (hg:GO ds gd e) (hb:Aq P f=true) (hc:Ai P f args [] fun r st=>r=v∧st=rows) (ha:ars.toList.map (St.ev ⟨n,e,st⟩) ++ []=as) (hba:BA st as args) (hsc:U6 v=true) (hp:Kg rows) (hv:shift st.length v=v') (hst:st ++ rows=st')
  (hk:AO P k ops Q (ds ++ [d]) r (St.put ⟨n,e,st'⟩ d v')):AO P k ops Q ds (⟨d,.call ⟨.value (.func f),ars,ts⟩,ty,ps,ed,gd⟩ :: r) ⟨n,e,st⟩:=by
 subst hv;subst hst;subst ha
 obtain⟨h1,h2,h3⟩:=hba.spec
 refine Jt hg ?_
 rw[J6]
 refine⟨hb,KQ (R:=fun r st=>r=v∧st=rows) ?_ ?_ h3 ?_⟩
 ·show Ai P f (List.map (Fc st) _) [] _
  rw[h1];exact hc
 ·show (List.map (Fc st) _).all flat=true
  rw[h1];exact h2
 ·rintro r st' ⟨rfl,rfl⟩
  exact⟨⟨hsc,fun row hrow=>(hp.get row hrow).2⟩,fun row hrow=>(hp.get row hrow).1,hk⟩
theorem S8 {as:List AV} {KS:St→Prop} {t:Tmp} (hg:GO ds gd e) (hb:Aq P f=true) (hc:Ai P f args [] fun r st=>r=v∧st=[]) (ha:ars.toList.map (St.ev ⟨n,e,st⟩) ++ []=as) (hba:BA st as args) (hsc:U6 v=true) (hv:shift st.length v=v')
  (hk:Cw P (ds ++ [some t]) r KS ⟨n,Ds e t v',st⟩):Cw P ds (⟨some t,.call ⟨.value (.func f),ars,ts⟩,ty,ps,ed,gd⟩ :: r) KS ⟨n,e,st⟩:=by
 subst hv;subst ha
 obtain⟨h1,h2,h3⟩:=hba.spec
 refine Vh hg rfl (fun s0 e1 e2 hd k F os a w hr next Q hn=>?_) hk
 refine IQ (k:=k) (K:=(·=s0.put (some t) (shift st.length v))) hr hd ?_ hn
 show Aq P f=true∧callThen P k s0 f (ars.toList.map s0.ev ++ []) (some t) _
 rw[Nc e2]
 refine⟨hb,?_⟩
 subst e1
 refine KQ (R:=fun r st'=>r=v∧st'=[]) ?_ ?_ h3 ?_
 ·show Ai P f (List.map (Fc s0.st) _) [] _
  rw[h1];exact hc
 ·show (List.map (Fc s0.st) _).all flat=true
  rw[h1];exact h2
 ·rintro r st' ⟨rfl,rfl⟩
  refine⟨⟨hsc,by simp⟩,by simp,?_⟩
  rw[List.append_nil]
end
section
variable {P : Program} {k : Nat} {Q : Exit → St → Prop} {s s' : St} {x y c : Code}
theorem Lx {o:Operand} {b:Bool} (ho:s.ev o=.bool b) (h1:b=true→AW P k x Q s) (h2:b=false→AW P k y Q s):AW P k (.cond o x y) Q s:=
 AW.cond fun K1 K2 e1 e2=>by rw[ho];exact⟨fun h=>e1 (h1 h),fun h=>e2 (h2 h)⟩
theorem Ay {σ:Type} (I:Nat→σ→Prop) (canon:σ→St) (n0:Nat) (v0:σ) (h0:I n0 v0) (hw:Wk k s (canon v0)) (hz :∀v,¬ I 0 v)
  (round :∀n v,I (n+1) v→AW P k c (SY (fun s'=>∃v',I n v'∧Wk k s' (canon v')) Q) (canon v)):AW P k (.loop c) Q s:=by
 refine AN hw ?_
 have key :∀n v,I n v→∀F os a w,Rel F os (canon v) a w→∀(b:Frame) (kk:List Item) (cs:List Frame),
   ∃e a' w',IG k Q F os w e a' w'∧Arrives P (lone (b.at a (.code c :: .inLoop c :: kk)) cs w) b kk cs e a' w':=by
  intro n
  induction n with
  | zero=>intro v hI;exact absurd hI (hz v)
  | succ n ih=>
   intro v hI F os a w hr b kk cs
   obtain⟨e,a₁,w₁,⟨s1,F1,os1,hq,hR1,hE1⟩,harr⟩:=round n v hI F os a w hr b (.inLoop c :: kk) cs
   cases e with
   | normal=>
    obtain⟨v2,hI2,hw2⟩:=hq
    obtain⟨F2,os2,hR2,hE2⟩:=hw2 F1 os1 a₁ w₁ hR1
    obtain⟨e₂,a₂,w₂,hq₂,harr₂⟩:=ih v2 hI2 F2 os2 a₁ w₁ hR2 b kk cs
    exact⟨e₂,a₂,w₂,hq₂.trans (hE1.trans hE2),.of_steps (Steps.trans harr (.one step_inLoop)) harr₂⟩
   | exit id=>exact⟨_,a₁,w₁,⟨s1,F1,os1,hq,hR1,hE1⟩,.pass (x:=.inLoop c) rfl (fun _ _=>.inl (by simp)) harr⟩
   | goto l=>exact⟨_,a₁,w₁,⟨s1,F1,os1,hq,hR1,hE1⟩,.pass (x:=.inLoop c) rfl (fun _ _=>.inl (by simp)) harr⟩
   | ret=>exact⟨_,a₁,w₁,⟨s1,F1,os1,hq,hR1,hE1⟩,.pass (x:=.inLoop c) rfl (fun _ _=>.inl (by simp)) harr⟩
   | panic ch=>exact⟨_,a₁,w₁,⟨s1,F1,os1,hq,hR1,hE1⟩,.pass (x:=.inLoop c) rfl (fun _ _=>.inl (by simp)) harr⟩
   | outgrown=>exact⟨_,a₁,w₁,⟨s1,F1,os1,hq,hR1,hE1⟩,.pass (x:=.inLoop c) rfl (fun _ _=>.inl (by simp)) harr⟩
 intro F os a w hr b kk cs
 obtain⟨e,a',w',hq,harr⟩:=key n0 v0 h0 F os a w hr b kk cs
 exact⟨e,a',w',hq,.of_steps (.one step_loop) harr⟩
end
end Go.Abs

