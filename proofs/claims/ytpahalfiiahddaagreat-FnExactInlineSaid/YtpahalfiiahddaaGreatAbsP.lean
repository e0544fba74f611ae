import Derived.Test.YtpahalfiiahddaaGreatAbsO

namespace Go.Abs
open Go
def AQ (P:Program) (s:St) (op:Op) (v:AV):Prop:=∀K:AV→Prop,K v→Hz P s op K
def EL (st:List Row) (v:AV) (ys:List (List AV)):Prop:=∀K:List (List AV)→Prop,K ys→Wa st v K
section
variable {P : Program} {s : St} {x y z c : Operand} {v : AV} {t t' : TypeId} {kk : IntKind} {a b : Int} {p q : Bool}
theorem KJ (h:s.ev x=v):AQ P s (.move x) v:=fun K hk=>by show K (s.ev x);rw[h];exact hk
theorem SH (h:s.ev x=v):AQ P s (.assign x) v:=fun K hk=>by show K (s.ev x);rw[h];exact hk
theorem bl {x y:AV} {K:AV→Prop} (h:K x):Nn (.bool true) x y K:=by
 cases x <;> cases y <;> first | exact h | exact⟨fun _=>h,fun h=>by cases h⟩
theorem bG {x y:AV} {K:AV→Prop} (h:K y):Nn (.bool false) x y K:=by
 cases x <;> cases y <;> first | exact h | exact⟨fun h=>(by cases h),fun _=>h⟩
theorem MY (hc:s.ev c=.bool p) (hp:p=true) (hx:s.ev x=v):AQ P s (.pick c x y) v:=fun K hk=>by
 show Nn (s.ev c) (s.ev x) (s.ev y) K
 rw[hc,hp,hx];exact bl hk
theorem OS (hc:s.ev c=.bool p) (hp:p=false) (hy:s.ev y=v):AQ P s (.pick c x y) v:=fun K hk=>by
 show Nn (s.ev c) (s.ev x) (s.ev y) K
 rw[hc,hp,hy];exact bG hk
variable (hx : s.ev x = .int kk a) (hy : s.ev y = .int kk b)
include hx hy
theorem IT {op:BinOp} (h :∀K:AV→Prop,K v→W7 op kk a b K):AQ P s (.binOp op t x y t') v:=fun K hk=>by
 show UK P t op (s.ev x) (s.ev y) K
 rw[hx,hy];exact⟨rfl,h K hk⟩
theorem bC:AQ P s (.binOp .add t x y t') (.int kk (Sh.wk kk (a+b))):=IT hx hy fun _ hk=>hk
theorem cG:AQ P s (.binOp .sub t x y t') (.int kk (Sh.wk kk (a - b))):=IT hx hy fun _ hk=>hk
theorem bZ:AQ P s (.binOp .mul t x y t') (.int kk (Sh.wk kk (a * b))):=IT hx hy fun _ hk=>hk
theorem Yt:AQ P s (.binOp .lss t x y t') (.bool (decide (a < b))):=IT hx hy fun _ hk=>hk
theorem eC:AQ P s (.binOp .leq t x y t') (.bool (decide (a≤b))):=IT hx hy fun _ hk=>hk
theorem eR:AQ P s (.binOp .gtr t x y t') (.bool (decide (b < a))):=IT hx hy fun _ hk=>hk
theorem eV:AQ P s (.binOp .geq t x y t') (.bool (decide (b≤a))):=IT hx hy fun _ hk=>hk
theorem eH:AQ P s (.binOp .eql t x y t') (.bool (decide (a=b))):=IT hx hy fun _ hk=>hk
theorem eT:AQ P s (.binOp .neq t x y t') (.bool (!decide (a=b))):=IT hx hy fun _ hk=>hk
end
section
variable {P : Program} {s : St} {x y z c : Operand} {v : AV} {t t' : TypeId} {kk : IntKind} {a b : Int} {p q : Bool}
variable (hx : s.ev x = i64 a) (hy : s.ev y = i64 b)
include hx hy
theorem Wm:AQ P s (.binOp .add t x y t') (i64 (Sh.w (a+b))):=IT hx hy fun _ hk=>hk
theorem dL:AQ P s (.binOp .sub t x y t') (i64 (Sh.w (a - b))):=IT hx hy fun _ hk=>hk
theorem cm:AQ P s (.binOp .mul t x y t') (i64 (Sh.w (a * b))):=IT hx hy fun _ hk=>hk
end
section
variable {P : Program} {s : St} {x y z c : Operand} {v : AV} {t t' : TypeId} {kk kk' : IntKind} {a b : Int} {p q ag : Bool} {id g i off off' f size sz bytes m j : Nat} {cs vs : List AV} {xs : List (List AV)} {el : TypeId}
theorem cn (ht:L0 P t=true) (hx:s.ev x=.bool p) (hy:s.ev y=.bool q):AQ P s (.binOp .eql t x y t') (.bool (p == q)):=fun K hk=>by
 show UK P t .eql (s.ev x) (s.ev y) K
 rw[hx,hy];exact⟨ht,hk⟩
theorem dQ (ht:L0 P t=true) (hx:s.ev x=.bool p) (hy:s.ev y=.bool q):AQ P s (.binOp .neq t x y t') (.bool (p != q)):=fun K hk=>by
 show UK P t .neq (s.ev x) (s.ev y) K
 rw[hx,hy];exact⟨ht,hk⟩
theorem cX (hx:s.ev x=.bool p):AQ P s (.unOp .not t x) (.bool (!p)):=fun K hk=>by
 show Z6 .not (s.ev x) K
 rw[hx];exact hk
theorem dY (hx:s.ev x=i64 a):AQ P s (.unOp .neg t x) (i64 (Sh.w (-a))):=fun K hk=>by
 show Z6 .neg (s.ev x) K
 rw[hx];exact hk
def fj (P:Program) (src dst:TypeId):Option IntKind:=
 match P.underlying src,P.underlying dst with
 | some _,some (.int k)=>some k
 | _,_=>none
theorem eY (hx:s.ev x=.DE vs) (hv:vs[i]?=some v):AQ P s (.extract x i) v:=fun K hk=>by
 show OQ (s.ev x) i K
 rw[hx];exact Aj v hv hk
theorem Vz {fn:FuncId} {caps:Array Operand} (hc:caps.toList.map s.ev=cs):AQ P s (.makeFunc (.func fn) #[] caps) (.fn fn cs):=fun K hk=>by
 subst hc;exact⟨rfl,hk⟩
theorem dF (ht:Ch P t=some (false,sz)) (hx:s.ev x=.Bd cs off) (hv:cs[off]?=some v):AQ P s (.load t x) v:=fun K hk=>by
 show N9 P s.st t (s.ev x) K
 rw[hx];exact Aj _ ht (Aj v hv hk)
theorem XH (ht:Ch P t=some (true,sz)) (hx:s.ev x=.Bd cs off) (hl:off+sz≤cs.length) (hv:(cs.drop off).take sz=vs):AQ P s (.load t x) (.agg vs):=fun K hk=>by
 show N9 P s.st t (s.ev x) K
 rw[hx];subst hv;exact Aj _ ht ⟨hl,hk⟩
theorem CZ (ht:Ch P t=some (false,sz)) (hx:s.ev x=.ptr id g i off) (hr:s.st[id]?=some ⟨g,el,size,xs⟩) (hi:xs[i]?=some cs) (hv:cs[off]?=some v):AQ P s (.load t x) v:=fun K hk=>by
 show N9 P s.st t (s.ev x) K
 rw[hx];exact Aj _ ht (Aj _ hr ⟨rfl,Aj cs hi (Aj v hv hk)⟩)
theorem BM (ht:Ch P t=some (true,sz)) (hx:s.ev x=.ptr id g i off) (hr:s.st[id]?=some ⟨g,el,size,xs⟩) (hi:xs[i]?=some cs) (hl:off+sz≤cs.length) (hv:(cs.drop off).take sz=vs):AQ P s (.load t x) (.agg vs):=fun K hk=>by
 show N9 P s.st t (s.ev x) K
 rw[hx];subst hv;exact Aj _ ht (Aj _ hr ⟨rfl,Aj cs hi ⟨hl,hk⟩⟩)
theorem dA (hf:HR P t f=some j) (hx:s.ev x=.Bd cs off) (ho:off+j=off'):AQ P s (.fieldAddr t x f) (.Bd cs off'):=fun K hk=>by
 show J8 P t (s.ev x) f s.st K
 rw[hx];subst ho;exact Aj _ hf hk
theorem Hu (hf:HR P t f=some j) (hx:s.ev x=.ptr id g i off) (hr:s.st[id]?=some ⟨g,el,size,xs⟩) (hl:off+j≤size) (ho:off+j=off'):AQ P s (.fieldAddr t x f) (.ptr id g i off'):=fun K hk=>by
 show J8 P t (s.ev x) f s.st K
 rw[hx];subst ho;exact Aj _ hf (Aj _ hr ⟨rfl,hl,hk⟩)
def Rx (P:Program) (t:TypeId) (f:Nat):Option (Nat×Bool×Nat):=
 match P.underlying t with
 | some (.struct fs)=>match fs[f]? with
  | some g=>match Ch P g.type with
   | some ti=>some (g.offset,ti)
   | none=>none
  | none=>none
 | _=>none
theorem Ug {f:Nat} {o:Nat} {ti:Bool×Nat} {K:AV→Prop} (h:Rx P t f=some (o,ti)) (hk:Ju ti.1 ti.2 cs o K):LW P t (.agg cs) f K:=by
 unfold Rx at h
 unfold LW
 split at h
 ·rename_i fs hu
  split at h
  ·rename_i gg hg
   split at h
   ·rename_i ti' ht
    simp only[Option.some.injEq,Prod.mk.injEq] at h
    obtain⟨rfl,rfl⟩:=h
    rw[hu]
    exact Aj _ hg (Aj _ ht hk)
   ·cases h
  ·cases h
 ·cases h
theorem eE (hf:Rx P t f=some (off,false,sz)) (hx:s.ev x=.agg cs) (hv:cs[off]?=some v):AQ P s (.field t x f) v:=fun K hk=>by
 show LW P t (s.ev x) f K
 rw[hx];exact Ug hf (Aj v hv hk)
theorem dG (hf:Rx P t f=some (off,true,sz)) (hx:s.ev x=.agg cs) (hl:off+sz≤cs.length) (hv:(cs.drop off).take sz=vs):AQ P s (.field t x f) (.agg vs):=fun K hk=>by
 show LW P t (s.ev x) f K
 rw[hx];subst hv;exact Ug hf ⟨hl,hk⟩
variable {α : Type} {l l' : List α} {enc : α → List AV} {n : Int} {zz : List AV} {u : α}
theorem GZ (h:Sh.get l n=some u):(l.map enc)[n.toNat]?=some (enc u):=by
 rw[List.getElem?_map,(Sh.get_some h).2.1];rfl
theorem FC (he:By P t=some ⟨el,size,bytes,zz⟩) (hx:s.ev x=.sl (l.map enc)) (hy:s.ev y=.int kk n) (hg:Sh.get l n=some u) (hs:(enc u).length=size):AQ P s (.indexAddr t x y) (.Bd (enc u) 0):=fun K hk=>by
 show Gl P s.st t (s.ev x) (s.ev y) K
 rw[hx,hy];exact Aj _ he ⟨(Sh.get_some hg).1,Aj _ (GZ hg) ⟨hs,hk⟩⟩
theorem Bb (he:By P t=some ⟨el,size,bytes,zz⟩) (hx:s.ev x=.own id g m) (hy:s.ev y=.int kk n) (hr:s.st[id]?=some ⟨g,el,size,l.map enc⟩) (hm:m=l.length) (hg:Sh.get l n=some u) :
  AQ P s (.indexAddr t x y) (.ptr id g n.toNat 0):=fun K hk=>by
 show Gl P s.st t (s.ev x) (s.ev y) K
 rw[hx,hy];subst hm;exact Aj _ he ⟨(Sh.get_some hg).1,(Sh.get_some hg).2.2,Aj _ hr ⟨rfl,rfl,by simpa using hk⟩⟩
theorem CK (hs:Cx P t=true) (hx:s.ev x=.sl (l.map enc)):AQ P s (.call ⟨.builtin .len,#[x],#[t]⟩) (i64 (Sh.len l)):=fun K hk=>by
 refine⟨hs,?_⟩
 rw[hx];simp only[ZT,List.length_map];exact hk
theorem Cw (hs:Cx P t=true) (hx:s.ev x=.own id g m) (hr:s.st[id]?=some ⟨g,el,size,l.map enc⟩) (hm:m=l.length):AQ P s (.call ⟨.builtin .len,#[x],#[t]⟩) (i64 (Sh.len l)):=fun K hk=>by
 refine⟨hs,?_⟩
 subst hm
 rw[hx];exact Aj _ hr ⟨rfl,hk⟩
theorem Xn (hs:Cx P t=true) (hx:s.ev x=.zc):AQ P s (.call ⟨.builtin .len,#[x],#[t]⟩) (i64 0):=fun K hk=>by
 refine⟨hs,?_⟩
 rw[hx];exact hk
theorem cq (hx:s.ev x=.ptr id g i off) (hr:s.st[id]?=some ⟨g,el,size,xs⟩):AQ P s (.nilCheck x) (.ptr id g i off):=fun K hk=>by
 show VU s.st (s.ev x) K
 rw[hx];exact Aj _ hr ⟨rfl,hk⟩
theorem dX (hx:s.ev x=.Bd cs off):AQ P s (.nilCheck x) (.Bd cs off):=fun K hk=>by
 show VU s.st (s.ev x) K
 rw[hx];exact hk
theorem GA {parts:Array (Nat×Operand)} {fs:List (Nat×Nat)} {pv:List (Nat×AV)} (ha:Hl P t=true) (hf:Ix P t=some fs) (hz:HN P t=some zz) (hp:(parts.toList.map fun p=>(p.1,s.ev p.2))=pv) (hc:Mx (fs[·]?) zz pv=some cs) :
  AQ P s (.build t parts) (.agg cs):=fun K hk=>by
 show Wc P t (parts.toList.map fun p=>(p.1,s.ev p.2)) K
 rw[hp];exact⟨ha,Aj _ hf (Aj _ hz (Aj _ hc hk))⟩
variable {st : List Row} {ys : List (List AV)}
theorem Nw:EL st (.sl ys) ys:=fun _ hk=>hk
theorem IC (hr:st[id]?=some ⟨g,el,size,l.map enc⟩) (hm:m=l.length) (hlf :∀x,(enc x).all AV.leaf=true:=by exact fun _=>rfl):EL st (.own id g m) (l.map enc):=fun K hk=>by
 subst hm
 refine Aj _ hr ⟨rfl,fun y hy c hc=>?_,?_⟩
 ·obtain⟨x,_,rfl⟩:=List.mem_map.1 hy
  exact List.all_eq_true.1 (hlf x) c hc
 rw[← List.length_map (f:=enc) (as:=l),List.take_length];exact⟨rfl,hk⟩
end
section
variable {P : Program} {k : Nat} {ops : Array Oper} {Q : Exit → St → Prop} {ds : List (Option Tmp)} {r : List Oper} {n : Nat} {e : Nat → AV} {st st' : List Row} {op : Op} {ty : TypeId} {ps : String} {ed : Array Edge} {d : Option Tmp} {t : Tmp} {v v' : AV}
variable {jj : Nat} {want b : Bool} {tg : Tmp} {gd : Option (Nat × Bool)}
def GO (ds:List (Option Tmp)) (gd:Option (Nat×Bool)) (e:Nat→AV):Prop:=
 match gd with
 | none=>True
 | some (jj,want)=>∃tg,ds[jj]?=some (some tg)∧e tg=.bool want
theorem Ac:GO ds none e:=trivial
theorem DT (hj:ds[jj]?=some (some tg)) (ht:e tg=.bool b) (hb:b=want):GO ds (some (jj,want)) e:=⟨tg,hj,by rw[ht,hb]⟩
theorem GO.guard {A B:Prop} (hg:GO ds gd e) (h:A):JO ds ⟨d,op,ty,ps,ed,gd⟩ ⟨n,e,st⟩ A B:=by
 unfold GO at hg
 unfold JO
 cases gd with
 | none=>exact h
 | some q=>
  obtain⟨jj,want⟩:=q
  obtain⟨tg,hj,ht⟩:=hg
  simp only[hj,ht,YQ]
  exact⟨fun _=>h,fun hh=>absurd rfl hh⟩
theorem BH (hg:GO ds gd e) (hl:Iw op=false) (hq:AQ P ⟨n,e,st⟩ op v) (hk:AO P k ops Q (ds ++ [some t]) r ⟨n,Dh e t v,st⟩):AO P k ops Q ds (⟨some t,op,ty,ps,ed,gd⟩ :: r) ⟨n,e,st⟩:=by
 refine AO.step (hg.guard ?_)
 unfold Jq
 simp only[hl,Bool.false_eq_true,if_false]
 exact hq _ hk
theorem Ks (hg:GO ds gd e) (h:Jq P k ⟨d,op,ty,ps,ed,gd⟩ ⟨n,e,st⟩ (AO P k ops Q (ds ++ [d]) r)):AO P k ops Q ds (⟨d,op,ty,ps,ed,gd⟩ :: r) ⟨n,e,st⟩:=
 AO.step (hg.guard h)
theorem ay (hj:ds[jj]?=some (some tg)) (ht:e tg=.bool b) (hb:b=!want) (h:AO P k ops Q (ds ++ [some t]) r ⟨n,Dh e t .un,st⟩):AO P k ops Q ds (⟨some t,op,ty,ps,ed,some (jj,want)⟩ :: r) ⟨n,e,st⟩:=by
 refine AO.step ?_
 subst hb
 simp only[JO,hj,ht,YQ]
 exact⟨fun h=>(by cases want <;> cases h),fun _=>h⟩
theorem cF (hj:ds[jj]?=some (some tg)) (ht:e tg=.un) (h:AO P k ops Q (ds ++ [some t]) r ⟨n,Dh e t .un,st⟩):AO P k ops Q ds (⟨some t,op,ty,ps,ed,some (jj,want)⟩ :: r) ⟨n,e,st⟩:=by
 refine AO.step ?_
 simp only[JO,hj,ht,YQ]
 exact h
variable {KS : St → Prop}
theorem Kh (hg:GO ds gd e) (hl:Iw op=false) (hq:AQ P ⟨n,e,st⟩ op v) (hk:DF P (ds ++ [some t]) r KS ⟨n,Dh e t v,st⟩):DF P ds (⟨some t,op,ty,ps,ed,gd⟩ :: r) KS ⟨n,e,st⟩:=by
 refine hg.guard ?_
 unfold KI
 simp only[hl,Bool.false_eq_true,if_false]
 exact hq _ hk
theorem Zs (hg:GO ds gd e) (hl:Iw op=true) (hq :∀s0:St,s0.st=st→(∀x∈op.operands,s0.ev x=St.ev ⟨n,e,st⟩ x)→Cu s0.n (some t)=true→Yl P ⟨some t,op,ty,ps,ed,gd⟩ s0 v) (hk:DF P (ds ++ [some t]) r KS ⟨n,Dh e t v,st⟩):DF P ds (⟨some t,op,ty,ps,ed,gd⟩ :: r) KS ⟨n,e,st⟩:=by
 refine hg.guard ?_
 unfold KI
 simp only[hl,if_true]
 exact⟨v,hq,hk⟩
theorem ct (hj:ds[jj]?=some (some tg)) (ht:e tg=.bool b) (hb:b=!want) (h:DF P (ds ++ [some t]) r KS ⟨n,Dh e t .un,st⟩):DF P ds (⟨some t,op,ty,ps,ed,some (jj,want)⟩ :: r) KS ⟨n,e,st⟩:=by
 subst hb
 simp only[DF,JO,hj,ht,YQ]
 exact⟨fun h=>(by cases want <;> cases h),fun _=>h⟩
theorem BL {s:St} (h:KS s):DF P ds [] KS s:=h
theorem Uf {ars:Array Operand} {f:FuncId} {ts:Array TypeId} {s0 s1:St} (h :∀x∈(Op.call ⟨.value (.func f),ars,ts⟩).operands,s0.ev x=s1.ev x):ars.toList.map s0.ev=ars.toList.map s1.ev:=
 List.map_congr_left fun x hx=>h x (by simp[Op.operands,Call.operands];right;simpa using hx)
theorem Bh {f:FuncId} {ars:Array Operand} {ts:Array TypeId} {args:List AV} (hg:GO ds gd e) (hb:DI P f=true) (hc:Aa P f args [] fun r st=>r=v∧st=[]) (ha:ars.toList.map (St.ev ⟨n,e,st⟩) ++ []=args) (hf:args.all flat=true) (hv:flat v=true)
  (hk:DF P (ds ++ [some t]) r KS ⟨n,Dh e t v,st⟩):DF P ds (⟨some t,.call ⟨.value (.func f),ars,ts⟩,ty,ps,ed,gd⟩ :: r) KS ⟨n,e,st⟩:=by
 refine Zs hg rfl (fun s0 e1 e2 hd k F os a w hr next Q hn=>?_) hk
 refine Lz (k:=k) (K:=(·=s0.put (some t) v)) hr hd ?_ hn
 show DI P f=true∧callThen P k s0 f (ars.toList.map s0.ev ++ []) (some t) _
 rw[Uf e2,ha]
 exact⟨hb,TD hc hf hv rfl⟩
variable {α : Type} {l l' l2 : List α} {enc : α → List AV} {kk kk' : IntKind} {j : Int} {el T : TypeId} {size bytes sz id g i m off : Nat} {zz cs us : List AV} {x y : Operand} {xs : List (List AV)} {ag : Bool} {u u' : α}
theorem As (hg:GO ds gd e) (hz:HN P T=some zz) (hm:st.length=m) (hst:st ++ [⟨0,T,zz.length,[zz]⟩]=st') (hk:AO P k ops Q (ds ++ [some t]) r ⟨n,Dh e t (.ptr m 0 0 0),st'⟩):AO P k ops Q ds (⟨some t,.alloc T,ty,ps,ed,gd⟩ :: r) ⟨n,e,st⟩:=by
 subst hm;subst hst
 exact Ks hg (Aj _ hz hk)
theorem A7 (hg:GO ds gd e) (hx:St.ev ⟨n,e,st⟩ x=v) (hc:JF v=some cs) (hne:cs.isEmpty=false) (hm:st.length=m) (hst:st ++ [⟨0,T,cs.length,[cs]⟩]=st') (hk:AO P k ops Q (ds ++ [some t]) r ⟨n,Dh e t (.ptr m 0 0 0),st'⟩):AO P k ops Q ds (⟨some t,.box T x,ty,ps,ed,gd⟩ :: r) ⟨n,e,st⟩:=by
 subst hm;subst hst;subst hx
 exact Ks hg (Aj _ hc ⟨(by intro h;rw[h] at hne;cases hne),hk⟩)
theorem Ay (hg:GO ds gd e) (ht:Ch P T=some (ag,sz)) (hx:St.ev ⟨n,e,st⟩ x=.ptr id g i off) (hr:st[id]?=some ⟨g,el,size,xs⟩) (hi:xs[i]?=some zz) (hv:St.ev ⟨n,e,st⟩ y=v) (hc:JF v=some cs) (hn:cs.length=sz) (hle:off+cs.length≤size)
  (hst:st.set id ⟨g,el,size,xs.set i (F7 zz off cs)⟩=st') (hk:AO P k ops Q (ds ++ [none]) r ⟨n,e,st'⟩):AO P k ops Q ds (⟨none,.store T x y,ty,ps,ed,gd⟩ :: r) ⟨n,e,st⟩:=by
 subst hst;subst hv
 refine Ks hg ?_
 rw[aE,hx];exact Aj _ ht (Aj _ hr ⟨rfl,Aj _ hi (Aj _ hc ⟨hn,hle,hk⟩)⟩)
theorem XN {j:Int}:(l.map enc).set j.toNat (enc u)=(Sh.put l j u).map enc:=by simp[Sh.put,List.map_set]
theorem HW (hg:GO ds gd e) (ht:Ch P T=some (ag,sz)) (hx:St.ev ⟨n,e,st⟩ x=.ptr id g j.toNat off) (hr:st[id]?=some ⟨g,el,size,l.map enc⟩) (hi:Sh.get l j=some u) (hv:St.ev ⟨n,e,st⟩ y=v) (hc:JF v=some cs) (hn:cs.length=sz) (hle:off+cs.length≤size)
  (hsp:F7 (enc u) off cs=enc u') (hst:st.set id ⟨g,el,size,(Sh.put l j u').map enc⟩=st') (hk:AO P k ops Q (ds ++ [none]) r ⟨n,e,st'⟩):AO P k ops Q ds (⟨none,.store T x y,ty,ps,ed,gd⟩ :: r) ⟨n,e,st⟩:=
 Ay hg ht hx hr (GZ hi) hv hc hn hle (by rw[hsp,XN];exact hst) hk
theorem NZ (hg:GO ds gd e) (he:By P T=some ⟨el,size,bytes,zz⟩) (hx:St.ev ⟨n,e,st⟩ x=.int kk j) (hy:St.ev ⟨n,e,st⟩ y=.int kk' j) (hz:enc u=zz) (hl:Sh.mk u j bytes=some l) (hm:st.length=m) (hst:st ++ [⟨0,el,size,l.map enc⟩]=st')
  (hk:AO P k ops Q (ds ++ [some t]) r ⟨n,Dh e t (.own m 0 l.length),st'⟩):AO P k ops Q ds (⟨some t,.makeSlice T x y,ty,ps,ed,gd⟩ :: r) ⟨n,e,st⟩:=by
 subst hm;subst hst;subst hz
 refine Ks hg ?_
 rw[Ur]
 unfold Sh.mk at hl
 split at hl
 ·rename_i h
  simp only[Option.some.injEq] at hl
  subst hl
  rw[hx,hy]
  simp only[List.map_replicate,List.length_replicate] at hk
  exact Aj _ he ⟨rfl,h.1,h.2.1,h.2.2,hk⟩
 ·cases hl
theorem Bu {len:Nat} {parts:Array (Nat×Operand)} {pv:List (Nat×AV)} (hg:GO ds gd e) (he:By P T=some ⟨el,size,bytes,zz⟩) (hle:len * size≤16777216) (hp:(parts.toList.map fun p=>(p.1,St.ev ⟨n,e,st⟩ p.2))=pv)
  (hc:Mx (fun i=>some (i * size,size)) ((List.replicate len zz).flatten) pv=some cs) (hck:chunk size len cs=l.map enc) (hln:len=l.length) (hm:st.length=m) (hst:st ++ [⟨0,el,size,l.map enc⟩]=st') (hk:AO P k ops Q (ds ++ [some t]) r ⟨n,Dh e t (.own m 0 l.length),st'⟩) :
  AO P k ops Q ds (⟨some t,.buildSlice T len parts,ty,ps,ed,gd⟩ :: r) ⟨n,e,st⟩:=by
 subst hm;subst hst;subst hln
 refine Ks hg ?_
 rw[Td,hp];exact Aj _ he ⟨hle,Aj _ hc (by rw[hck];exact hk)⟩
theorem FA {ys:AV} (hg:GO ds gd e) (he:By P T=some ⟨el,size,bytes,zz⟩) (hx:St.ev ⟨n,e,st⟩ x=.own id g m) (hr:st[id]?=some ⟨g,el,size,l.map enc⟩) (hm:m=l.length) (hy:St.ev ⟨n,e,st⟩ y=ys) (hel:EL st ys (l2.map enc)) (hs :∀a,(enc a).length=size) (ha:Sh.app l l2 bytes=some l')
  (hst:st.set id ⟨g+1,el,size,l'.map enc⟩=st') (hk:AO P k ops Q (ds ++ [some t]) r ⟨n,Dh e t (.own id (g+1) l'.length),st'⟩):AO P k ops Q ds (⟨some t,.call ⟨.builtin .append,#[x,y],#[T,T]⟩,ty,ps,ed,gd⟩ :: r) ⟨n,e,st⟩:=by
 subst hst;subst hy;subst hm
 refine Ks hg ?_
 rw[Ui]
 refine⟨rfl,?_⟩
 rw[hx]
 unfold Sh.app at ha
 split at ha
 ·rename_i h
  simp only[Option.some.injEq] at ha
  subst ha
  refine Aj _ he (hel _ ⟨fun z hz=>?_,Aj _ hr ⟨rfl,(List.length_map _).symm,rfl,rfl,by simpa using h.1,by simpa using h.2,?_⟩⟩)
  ·obtain⟨q,_,rfl⟩:=List.mem_map.1 hz;exact hs q
  ·have e1:(l.map enc).take l.length=l.map enc:=by rw[← List.length_map (f:=enc) (as:=l),List.take_length]
   have e2:l.length+(l2.map enc).length=(l ++ l2).length:=by simp
   simp only[e1,e2,← List.map_append]
   exact hk
 ·cases ha
theorem dP {hop:Operand} (hg:GO ds gd e) (he:By P T=some ⟨el,size,bytes,zz⟩) (hx:St.ev ⟨n,e,st⟩ x=.own id g m) (hr:st[id]?=some ⟨g,el,size,l.map enc⟩) (hm:m=l.length) (hh:St.ev ⟨n,e,st⟩ hop=.int kk j) (hl:Sh.hi l j=some l')
  (hst:st.set id ⟨g+1,el,size,l'.map enc⟩=st') (hk:AO P k ops Q (ds ++ [some t]) r ⟨n,Dh e t (.own id (g+1) l'.length),st'⟩):AO P k ops Q ds (⟨some t,.slice T x none (some hop) none,ty,ps,ed,gd⟩ :: r) ⟨n,e,st⟩:=by
 subst hst;subst hm
 refine Ks hg ?_
 rw[Rl]
 simp only[Option.map_some,Option.map_none]
 rw[hx,hh]
 unfold Sh.hi at hl
 split at hl
 ·rename_i h
  simp only[Option.some.injEq] at hl
  subst hl
  refine Aj _ he (Aj _ hr ⟨rfl,(List.length_map _).symm,rfl,Aj _ rfl ⟨h.1,h.2,?_⟩⟩)
  have e1:(l.take j.toNat).length=j.toNat:=by rw[List.length_take];omega
  rw[e1,List.map_take] at hk
  exact hk
 ·cases hl
theorem WI {lo hi:Option Operand} {i j:Int} (hg:GO ds gd e) (he:By P T=some ⟨el,size,bytes,zz⟩) (hx:St.ev ⟨n,e,st⟩ x=.sl (l.map enc)) (h1:RO (lo.map (St.ev ⟨n,e,st⟩)) 0=some i) (h2:RO (hi.map (St.ev ⟨n,e,st⟩)) l.length=some j) (hs :∀a,(enc a).length=size) (hl:Sh.sl l i j=some l')
  (hk:AO P k ops Q (ds ++ [some t]) r ⟨n,Dh e t (.sl (l'.map enc)),st⟩):AO P k ops Q ds (⟨some t,.slice T x lo hi none,ty,ps,ed,gd⟩ :: r) ⟨n,e,st⟩:=by
 refine Ks hg ?_
 rw[Rl]
 simp only[Option.map_none]
 rw[hx]
 unfold Sh.sl at hl
 split at hl
 ·rename_i h
  simp only[Option.some.injEq] at hl
  subst hl
  refine Aj _ he (Aj _ h1 (Aj _ (by rw[List.length_map];exact h2) ⟨h.1,h.2.1,by simpa using h.2.2,fun z hz=>?_,?_⟩))
  ·obtain⟨q,_,rfl⟩:=List.mem_map.1 hz;exact hs q
  ·rw[List.map_drop,List.map_take] at hk
   exact hk
 ·cases hl
theorem TJ (hg:GO ds gd e) (hs:Cx P T=true) (hx:St.ev ⟨n,e,st⟩ x=.sl (l.map enc)) (h1:l=[]→AO P k ops Q (ds ++ [some t]) r ⟨n,Dh e t (.bool true),st⟩) (h2:AO P k ops Q (ds ++ [some t]) r ⟨n,Dh e t (.bool false),st⟩) {yT:TypeId} :
  AO P k ops Q ds (⟨some t,.binOp .eql T x (.const (.slice none 0 0)) yT,ty,ps,ed,gd⟩ :: r) ⟨n,e,st⟩:=by
 refine Ks hg ?_
 rw[XG]
 refine⟨hs,?_⟩
 rw[hx]
 exact⟨fun h=>h1 (List.map_eq_nil_iff.1 h),h2⟩
def UX:List Row→Prop
 | []=>True
 | row :: r=>CO row.xs∧UX r
theorem UX.get :∀{l:List Row},UX l→∀row∈l,CO row.xs
 | row :: r,h,row',hm=>by
  rcases List.mem_cons.1 hm with rfl | hm
  ·exact h.1
  ·exact UX.get h.2 row' hm
variable {f : FuncId} {ars : Array Operand} {ts : Array TypeId} {args : List AV} {rows : List Row} {s : St}
theorem BF (hg:GO ds gd e) (hb:DI P f=true) (hc:Aa P f args [] fun r st=>r=v∧st=rows) (ha:ars.toList.map (St.ev ⟨n,e,st⟩) ++ []=args) (hf:args.all flat=true) (hp:UX rows) (hv:shift st.length v=v') (hst:st ++ rows=st')
  (hk:AO P k ops Q (ds ++ [d]) r (St.put ⟨n,e,st'⟩ d v')):AO P k ops Q ds (⟨d,.call ⟨.value (.func f),ars,ts⟩,ty,ps,ed,gd⟩ :: r) ⟨n,e,st⟩:=by
 subst hv;subst hst;subst ha
 refine Ks hg ?_
 rw[Lq]
 refine⟨hb,Uq hc hf ?_⟩
 rintro r st' ⟨rfl,rfl⟩
 exact⟨hp.get,hk⟩
theorem ZL {g:Nat} {enc':α→List AV} (hr:st[id]?=some ⟨g,el,size,l.map enc⟩) (hu :∀x,GX (enc x)=enc' x):QW st (.own id g l.length)=.sl (l.map enc'):=by
 simp only[QW,hr,if_true]
 rw[← List.length_map (f:=enc) (as:=l),Nat.sub_self,List.drop_zero,Ga,List.map_map]
 congr 1
 exact List.map_congr_left fun x _=>hu x
theorem Qp {cs:List AV} (h:cs.all simple=true):GX cs=cs:=by
 rw[MG]
 exact (List.map_congr_left (g:=id) fun c hc=>SN (List.all_eq_true.1 h c hc)).trans (List.map_id _)
inductive BC (st:List Row):List AV→List AV→Prop
 | nil:BC st [] []
 | own {α:Type} {l:List α} {enc:α→List AV} {id g size m:Nat} {el:TypeId} {as bs:List AV} (hr:st[id]?=some ⟨g,el,size,l.map enc⟩) (hm:m=l.length) (hp :∀x,(enc x).all simple=true) (h:BC st as bs):BC st (.own id g m :: as) (.sl (l.map enc) :: bs)
 | ownD {α:Type} {l:List α} {enc enc':α→List AV} {id g size m:Nat} {el:TypeId} {as bs:List AV} (hr:st[id]?=some ⟨g,el,size,l.map enc⟩) (hm:m=l.length) (hp :∀x,(enc x).all Eg=true) (hu :∀x,GX (enc x)=enc' x) (h:BC st as bs):BC st (.own id g m :: as) (.sl (l.map enc') :: bs)
 | val {v:AV} {as bs:List AV} (hv:simple v=true) (h:BC st as bs):BC st (v :: as) (v :: bs)
inductive BA (st:List Row):List AV→List AV→Prop
 | nil:BA st [] []
 | own {α:Type} {l:List α} {enc:α→List AV} {id g size m:Nat} {el:TypeId} {as bs:List AV} (hr:st[id]?=some ⟨g,el,size,l.map enc⟩) (hm:m=l.length) (hp :∀x,(enc x).all simple=true) (h:BA st as bs):BA st (.own id g m :: as) (.sl (l.map enc) :: bs)
 | ownD {α:Type} {l:List α} {enc enc':α→List AV} {id g size m:Nat} {el:TypeId} {as bs:List AV} (hr:st[id]?=some ⟨g,el,size,l.map enc⟩) (hm:m=l.length) (hp :∀x,(enc x).all Eg=true) (hu :∀x,GX (enc x)=enc' x) (h:BA st as bs):BA st (.own id g m :: as) (.sl (l.map enc') :: bs)
 | agg {cs ds:List AV} {as bs:List AV} (hc:BC st cs ds) (h:BA st as bs):BA st (.agg cs :: as) (.agg ds :: bs)
 | val {v:AV} {as bs:List AV} (hv:flat v=true) (h:BA st as bs):BA st (v :: as) (v :: bs)
theorem QN {v:AV} (h:simple v=true):QW st v=v:=by cases v <;> simp_all [simple,QW]
theorem BC.spec {as bs:List AV} (h:BC st as bs):as.map (QW st)=bs∧bs.all simple=true∧∀id g n,AV.own id g n∈as→∀row,st[id]?=some row→CO row.xs:=by
 induction h with
 | nil=>exact⟨rfl,rfl,by simp⟩
 | own hr hm hp h ih=>
  obtain⟨h1,h2,h3⟩:=ih
  subst hm
  refine⟨by rw[List.map_cons,ZL hr (fun x=>Qp (hp x)),h1],by simp[simple,h2],fun id' g' n' hx row hrow=>?_⟩
  rcases List.mem_cons.1 hx with hx | hx
  ·cases hx;rw[hr] at hrow;cases hrow;exact (AJ hp).any
  ·exact h3 id' g' n' hx row hrow
 | ownD hr hm hp hu h ih=>
  obtain⟨h1,h2,h3⟩:=ih
  subst hm
  refine⟨by rw[List.map_cons,ZL hr hu,h1],by simp[simple,h2],fun id' g' n' hx row hrow=>?_⟩
  rcases List.mem_cons.1 hx with hx | hx
  ·cases hx;rw[hr] at hrow;cases hrow;exact AR hp
  ·exact h3 id' g' n' hx row hrow
 | @val v as bs hv h ih=>
  obtain⟨h1,h2,h3⟩:=ih
  refine⟨by rw[List.map_cons,QN hv,h1],by simp[hv,h2],fun id' g' n' hx row hrow=>?_⟩
  rcases List.mem_cons.1 hx with hx | hx
  ·subst hx;simp[simple] at hv
  ·exact h3 id' g' n' hx row hrow
theorem BA.spec {as bs:List AV} (h:BA st as bs):as.map (GJ st)=bs∧bs.all flat=true∧∀id g n,OT as id g n→∀row,st[id]?=some row→CO row.xs:=by
 induction h with
 | nil=>exact⟨rfl,rfl,by rintro id g n (h | ⟨_,h,_⟩) <;> simp at h⟩
 | own hr hm hp h ih=>
  obtain⟨h1,h2,h3⟩:=ih
  subst hm
  refine⟨by rw[List.map_cons,h1];congr 1;exact ZL hr (fun x=>Qp (hp x)),by simp[flat,h2],fun id' g' n' hx row hrow=>?_⟩
  rcases hx with hx | ⟨cs,hx,hin⟩
  ·rcases List.mem_cons.1 hx with hx | hx
   ·cases hx;rw[hr] at hrow;cases hrow;exact (AJ hp).any
   ·exact h3 id' g' n' (.inl hx) row hrow
  ·rcases List.mem_cons.1 hx with hx | hx
   ·cases hx
   ·exact h3 id' g' n' (.inr ⟨cs,hx,hin⟩) row hrow
 | ownD hr hm hp hu h ih=>
  obtain⟨h1,h2,h3⟩:=ih
  subst hm
  refine⟨by rw[List.map_cons,h1];congr 1;exact ZL hr hu,by simp[flat,h2],fun id' g' n' hx row hrow=>?_⟩
  rcases hx with hx | ⟨cs,hx,hin⟩
  ·rcases List.mem_cons.1 hx with hx | hx
   ·cases hx;rw[hr] at hrow;cases hrow;exact AR hp
   ·exact h3 id' g' n' (.inl hx) row hrow
  ·rcases List.mem_cons.1 hx with hx | hx
   ·cases hx
   ·exact h3 id' g' n' (.inr ⟨cs,hx,hin⟩) row hrow
 | agg hc h ih=>
  obtain⟨h1,h2,h3⟩:=ih
  obtain⟨g1,g2,g3⟩:=hc.spec
  refine⟨by rw[List.map_cons,h1];simp only[GJ,g1],by simp only[List.all_cons,h2,Bool.and_true];simpa [flat] using g2,fun id' g' n' hx row hrow=>?_⟩
  rcases hx with hx | ⟨cs,hx,hin⟩
  ·rcases List.mem_cons.1 hx with hx | hx
   ·cases hx
   ·exact h3 id' g' n' (.inl hx) row hrow
  ·rcases List.mem_cons.1 hx with hx | hx
   ·cases hx;exact g3 id' g' n' hin row hrow
   ·exact h3 id' g' n' (.inr ⟨cs,hx,hin⟩) row hrow
 | @val v as bs hv h ih=>
  obtain⟨h1,h2,h3⟩:=ih
  have e1:GJ st v=v:=by
   cases v <;> simp[flat] at hv <;> try rfl
   rename_i cs
   simp only[GJ]
   congr 1
   exact (List.map_congr_left (g:=id) fun c hc=>QN (hv c hc)).trans (List.map_id _)
  refine⟨by rw[List.map_cons,e1,h1],by simp[hv,h2],fun id' g' n' hx row hrow=>?_⟩
  rcases hx with hx | ⟨cs,hx,hin⟩
  ·rcases List.mem_cons.1 hx with hx | hx
   ·subst hx;simp[flat] at hv
   ·exact h3 id' g' n' (.inl hx) row hrow
  ·rcases List.mem_cons.1 hx with hx | hx
   ·subst hx
    have:=List.all_eq_true.1 (show cs.all simple=true from hv) _ hin
    simp[simple] at this
   ·exact h3 id' g' n' (.inr ⟨cs,hx,hin⟩) row hrow
def Pz:List Row→Prop
 | []=>True
 | row :: r=>(CO row.xs∧∀x∈row.xs,∀c∈x,Me c=true)∧Pz r
theorem Pz.get :∀{l:List Row},Pz l→∀row∈l,CO row.xs∧∀x∈row.xs,∀c∈x,Me c=true
 | row :: r,h,row',hm=>by
  rcases List.mem_cons.1 hm with rfl | hm
  ·exact h.1
  ·exact Pz.get h.2 row' hm
theorem bL {g:Nat} (h :∀x,(enc x).all (fun c=>Eg c && Me c)=true) (hr:Pz rows):Pz (⟨g,el,size,l.map enc⟩ :: rows):=by
 refine⟨⟨fun x hx c hc=>?_,fun x hx c hc=>?_⟩,hr⟩ <;>
 ·obtain⟨y,_,rfl⟩:=List.mem_map.1 hx
  have:=List.all_eq_true.1 (h y) c hc
  simp only[Bool.and_eq_true] at this
  first | exact this.1 | exact this.2
theorem Jv {as:List AV} (hg:GO ds gd e) (hb:DI P f=true) (hc:Aa P f args [] fun r st=>r=v∧st=rows) (ha:ars.toList.map (St.ev ⟨n,e,st⟩) ++ []=as) (hba:BA st as args) (hsc:ZM v=true) (hp:Pz rows) (hv:shift st.length v=v') (hst:st ++ rows=st')
  (hk:AO P k ops Q (ds ++ [d]) r (St.put ⟨n,e,st'⟩ d v')):AO P k ops Q ds (⟨d,.call ⟨.value (.func f),ars,ts⟩,ty,ps,ed,gd⟩ :: r) ⟨n,e,st⟩:=by
 subst hv;subst hst;subst ha
 obtain⟨h1,h2,h3⟩:=hba.spec
 refine Ks hg ?_
 rw[Lq]
 refine⟨hb,MD (R:=fun r st=>r=v∧st=rows) ?_ ?_ h3 ?_⟩
 ·show Aa P f (List.map (GJ st) _) [] _
  rw[h1];exact hc
 ·show (List.map (GJ st) _).all flat=true
  rw[h1];exact h2
 ·rintro r st' ⟨rfl,rfl⟩
  exact⟨⟨hsc,fun row hrow=>(hp.get row hrow).2⟩,fun row hrow=>(hp.get row hrow).1,hk⟩
theorem T7 {as:List AV} {KS:St→Prop} {t:Tmp} (hg:GO ds gd e) (hb:DI P f=true) (hc:Aa P f args [] fun r st=>r=v∧st=[]) (ha:ars.toList.map (St.ev ⟨n,e,st⟩) ++ []=as) (hba:BA st as args) (hsc:ZM v=true) (hv:shift st.length v=v')
  (hk:DF P (ds ++ [some t]) r KS ⟨n,Dh e t v',st⟩):DF P ds (⟨some t,.call ⟨.value (.func f),ars,ts⟩,ty,ps,ed,gd⟩ :: r) KS ⟨n,e,st⟩:=by
 subst hv;subst ha
 obtain⟨h1,h2,h3⟩:=hba.spec
 refine Zs hg rfl (fun s0 e1 e2 hd k F os a w hr next Q hn=>?_) hk
 refine Lz (k:=k) (K:=(·=s0.put (some t) (shift st.length v))) hr hd ?_ hn
 show DI P f=true∧callThen P k s0 f (ars.toList.map s0.ev ++ []) (some t) _
 rw[Uf e2]
 refine⟨hb,?_⟩
 subst e1
 refine MD (R:=fun r st'=>r=v∧st'=[]) ?_ ?_ h3 ?_
 ·show Aa P f (List.map (GJ s0.st) _) [] _
  rw[h1];exact hc
 ·show (List.map (GJ s0.st) _).all flat=true
  rw[h1];exact h2
 ·rintro r st' ⟨rfl,rfl⟩
  refine⟨⟨hsc,by simp⟩,by simp,?_⟩
  rw[List.append_nil]
end
section
variable {P : Program} {k : Nat} {Q : Exit → St → Prop} {s s' : St} {x y c : Code}
theorem FT {o:Operand} {b:Bool} (ho:s.ev o=.bool b) (h1:b=true→AW P k x Q s) (h2:b=false→AW P k y Q s):AW P k (.cond o x y) Q s:=
 AW.cond fun K1 K2 e1 e2=>by rw[ho];exact⟨fun h=>e1 (h1 h),fun h=>e2 (h2 h)⟩
theorem Ak {σ:Type} (I:Nat→σ→Prop) (canon:σ→St) (n0:Nat) (v0:σ) (h0:I n0 v0) (hw:Wk k s (canon v0)) (hz :∀v,¬ I 0 v)
  (round :∀n v,I (n+1) v→AW P k c (I0 (fun s'=>∃v',I n v'∧Wk k s' (canon v')) Q) (canon v)):AW P k (.loop c) Q s:=by
 refine AM hw ?_
 have key :∀n v,I n v→∀F os a w,Rel F os (canon v) a w→∀(b:Frame) (kk:List Item) (cs:List Frame),
   ∃e a' w',KV k Q F os w e a' w'∧Arrives P (lone (b.at a (.code c :: .inLoop c :: kk)) cs w) b kk cs e a' w':=by
  intro n
  induction n with
  | zero=>intro v hI;exact absurd hI (hz v)
  | succ n ih=>
   intro v hI F os a w hr b kk cs
   obtain⟨e,a₁,w₁,⟨s1,F1,os1,hq,hR1,hE1⟩,harr⟩:=round n v hI F os a w hr b (.inLoop c :: kk) cs
   cases e with
   | normal=>
    obtain⟨v2,hI2,hw2⟩:=hq
    obtain⟨F2,os2,hR2,hE2⟩:=hw2 F1 os1 a₁ w₁ hR1
    obtain⟨e₂,a₂,w₂,hq₂,harr₂⟩:=ih v2 hI2 F2 os2 a₁ w₁ hR2 b kk cs
    exact⟨e₂,a₂,w₂,hq₂.trans (hE1.trans hE2),.of_steps (Steps.trans harr (.one step_inLoop)) harr₂⟩
   | exit id=>exact⟨_,a₁,w₁,⟨s1,F1,os1,hq,hR1,hE1⟩,.pass (x:=.inLoop c) rfl (fun _ _=>.inl (by simp)) harr⟩
   | goto l=>exact⟨_,a₁,w₁,⟨s1,F1,os1,hq,hR1,hE1⟩,.pass (x:=.inLoop c) rfl (fun _ _=>.inl (by simp)) harr⟩
   | ret=>exact⟨_,a₁,w₁,⟨s1,F1,os1,hq,hR1,hE1⟩,.pass (x:=.inLoop c) rfl (fun _ _=>.inl (by simp)) harr⟩
   | panic ch=>exact⟨_,a₁,w₁,⟨s1,F1,os1,hq,hR1,hE1⟩,.pass (x:=.inLoop c) rfl (fun _ _=>.inl (by simp)) harr⟩
   | outgrown=>exact⟨_,a₁,w₁,⟨s1,F1,os1,hq,hR1,hE1⟩,.pass (x:=.inLoop c) rfl (fun _ _=>.inl (by simp)) harr⟩
 intro F os a w hr b kk cs
 obtain⟨e,a',w',hq,harr⟩:=key n0 v0 h0 F os a w hr b kk cs
 exact⟨e,a',w',hq,.of_steps (.one step_loop) harr⟩
end
end Go.Abs

