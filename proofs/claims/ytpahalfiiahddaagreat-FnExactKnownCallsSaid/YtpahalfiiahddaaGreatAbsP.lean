import Derived.Test.YtpahalfiiahddaaGreatAbsO

namespace Go.Abs
open Go
def AQ (P:Program) (s:St) (op:Op) (v:AV):Prop:=∀K:AV→Prop,K v→HI P s op K
def EL (st:List Row) (v:AV) (ys:List (List AV)):Prop:=∀K:List (List AV)→Prop,K ys→Ta st v K
section
variable {P : Program} {s : St} {x y z c : Operand} {v : AV} {t t' : TypeId} {kk : IntKind} {a b : Int} {p q : Bool}
theorem JR (h:s.ev x=v):AQ P s (.move x) v:=fun K hk=>by show K (s.ev x);rw[h];exact hk
theorem PZ (h:s.ev x=v):AQ P s (.assign x) v:=fun K hk=>by show K (s.ev x);rw[h];exact hk
theorem X7 {x y:AV} {K:AV→Prop} (h:K x):Mw (.bool true) x y K:=by
 cases x <;> cases y <;> first | exact h | exact⟨fun _=>h,fun h=>by cases h⟩
theorem XJ {x y:AV} {K:AV→Prop} (h:K y):Mw (.bool false) x y K:=by
 cases x <;> cases y <;> first | exact h | exact⟨fun h=>(by cases h),fun _=>h⟩
theorem Lp (hc:s.ev c=.bool p) (hp:p=true) (hx:s.ev x=v):AQ P s (.pick c x y) v:=fun K hk=>by
 show Mw (s.ev c) (s.ev x) (s.ev y) K
 rw[hc,hp,hx];exact X7 hk
theorem NC (hc:s.ev c=.bool p) (hp:p=false) (hy:s.ev y=v):AQ P s (.pick c x y) v:=fun K hk=>by
 show Mw (s.ev c) (s.ev x) (s.ev y) K
 rw[hc,hp,hy];exact XJ hk
variable (hx : s.ev x = .int kk a) (hy : s.ev y = .int kk b)
include hx hy
theorem Hi {op:BinOp} (h :∀K:AV→Prop,K v→Tt op kk a b K):AQ P s (.binOp op t x y t') v:=fun K hk=>by
 show RE P t op (s.ev x) (s.ev y) K
 rw[hx,hy];exact⟨rfl,h K hk⟩
theorem Xe:AQ P s (.binOp .add t x y t') (.int kk (Sh.wk kk (a+b))):=Hi hx hy fun _ hk=>hk
theorem XU:AQ P s (.binOp .sub t x y t') (.int kk (Sh.wk kk (a - b))):=Hi hx hy fun _ hk=>hk
theorem W8:AQ P s (.binOp .mul t x y t') (.int kk (Sh.wk kk (a * b))):=Hi hx hy fun _ hk=>hk
theorem Vn:AQ P s (.binOp .lss t x y t') (.bool (decide (a < b))):=Hi hx hy fun _ hk=>hk
theorem Ze:AQ P s (.binOp .leq t x y t') (.bool (decide (a≤b))):=Hi hx hy fun _ hk=>hk
theorem Zt:AQ P s (.binOp .gtr t x y t') (.bool (decide (b < a))):=Hi hx hy fun _ hk=>hk
theorem ZW:AQ P s (.binOp .geq t x y t') (.bool (decide (b≤a))):=Hi hx hy fun _ hk=>hk
theorem ZT:AQ P s (.binOp .eql t x y t') (.bool (decide (a=b))):=Hi hx hy fun _ hk=>hk
theorem Z3:AQ P s (.binOp .neq t x y t') (.bool (!decide (a=b))):=Hi hx hy fun _ hk=>hk
end
section
variable {P : Program} {s : St} {x y z c : Operand} {v : AV} {t t' : TypeId} {kk : IntKind} {a b : Int} {p q : Bool}
variable (hx : s.ev x = i64 a) (hy : s.ev y = i64 b)
include hx hy
theorem Tc:AQ P s (.binOp .add t x y t') (i64 (Sh.w (a+b))):=Hi hx hy fun _ hk=>hk
theorem YT:AQ P s (.binOp .sub t x y t') (i64 (Sh.w (a - b))):=Hi hx hy fun _ hk=>hk
theorem Yf:AQ P s (.binOp .mul t x y t') (i64 (Sh.w (a * b))):=Hi hx hy fun _ hk=>hk
end
section
variable {P : Program} {s : St} {x y z c : Operand} {v : AV} {t t' : TypeId} {kk kk' : IntKind} {a b : Int} {p q ag : Bool} {id g i off off' f size sz bytes m j : Nat} {cs vs : List AV} {xs : List (List AV)} {el : TypeId}
theorem Yb (ht:LI P t=true) (hx:s.ev x=.bool p) (hy:s.ev y=.bool q):AQ P s (.binOp .eql t x y t') (.bool (p == q)):=fun K hk=>by
 show RE P t .eql (s.ev x) (s.ev y) K
 rw[hx,hy];exact⟨ht,hk⟩
theorem YX (ht:LI P t=true) (hx:s.ev x=.bool p) (hy:s.ev y=.bool q):AQ P s (.binOp .neq t x y t') (.bool (p != q)):=fun K hk=>by
 show RE P t .neq (s.ev x) (s.ev y) K
 rw[hx,hy];exact⟨ht,hk⟩
theorem Yh (hx:s.ev x=.bool p):AQ P s (.unOp .not t x) (.bool (!p)):=fun K hk=>by
 show Wo .not (s.ev x) K
 rw[hx];exact hk
theorem YW (hx:s.ev x=i64 a):AQ P s (.unOp .neg t x) (i64 (Sh.w (-a))):=fun K hk=>by
 show Wo .neg (s.ev x) K
 rw[hx];exact hk
def bS (P:Program) (src dst:TypeId):Option IntKind:=
 match P.underlying src,P.underlying dst with
 | some _,some (.int k)=>some k
 | _,_=>none
theorem Z2 (hx:s.ev x=.Cm vs) (hv:vs[i]?=some v):AQ P s (.extract x i) v:=fun K hk=>by
 show NJ (s.ev x) i K
 rw[hx];exact Ar v hv hk
theorem Yi (ht:DG P t=some (false,sz)) (hx:s.ev x=.B1 cs off) (hv:cs[off]?=some v):AQ P s (.load t x) v:=fun K hk=>by
 show Mc P s.st t (s.ev x) K
 rw[hx];exact Ar _ ht (Ar v hv hk)
theorem Ue (ht:DG P t=some (true,sz)) (hx:s.ev x=.B1 cs off) (hl:off+sz≤cs.length) (hv:(cs.drop off).take sz=vs):AQ P s (.load t x) (.agg vs):=fun K hk=>by
 show Mc P s.st t (s.ev x) K
 rw[hx];subst hv;exact Ar _ ht ⟨hl,hk⟩
theorem BG (ht:DG P t=some (false,sz)) (hx:s.ev x=.ptr id g i off) (hr:s.st[id]?=some ⟨g,el,size,xs⟩) (hi:xs[i]?=some cs) (hv:cs[off]?=some v):AQ P s (.load t x) v:=fun K hk=>by
 show Mc P s.st t (s.ev x) K
 rw[hx];exact Ar _ ht (Ar _ hr ⟨rfl,Ar cs hi (Ar v hv hk)⟩)
theorem A8 (ht:DG P t=some (true,sz)) (hx:s.ev x=.ptr id g i off) (hr:s.st[id]?=some ⟨g,el,size,xs⟩) (hi:xs[i]?=some cs) (hl:off+sz≤cs.length) (hv:(cs.drop off).take sz=vs):AQ P s (.load t x) (.agg vs):=fun K hk=>by
 show Mc P s.st t (s.ev x) K
 rw[hx];subst hv;exact Ar _ ht (Ar _ hr ⟨rfl,Ar cs hi ⟨hl,hk⟩⟩)
theorem YO (hf:Gp P t f=some j) (hx:s.ev x=.B1 cs off) (ho:off+j=off'):AQ P s (.fieldAddr t x f) (.B1 cs off'):=fun K hk=>by
 show JE P t (s.ev x) f s.st K
 rw[hx];subst ho;exact Ar _ hf hk
theorem HB (hf:Gp P t f=some j) (hx:s.ev x=.ptr id g i off) (hr:s.st[id]?=some ⟨g,el,size,xs⟩) (hl:off+j≤size) (ho:off+j=off'):AQ P s (.fieldAddr t x f) (.ptr id g i off'):=fun K hk=>by
 show JE P t (s.ev x) f s.st K
 rw[hx];subst ho;exact Ar _ hf (Ar _ hr ⟨rfl,hl,hk⟩)
def PE (P:Program) (t:TypeId) (f:Nat):Option (Nat×Bool×Nat):=
 match P.underlying t with
 | some (.struct fs)=>match fs[f]? with
  | some g=>match DG P g.type with
   | some ti=>some (g.offset,ti)
   | none=>none
  | none=>none
 | _=>none
theorem RW {f:Nat} {o:Nat} {ti:Bool×Nat} {K:AV→Prop} (h:PE P t f=some (o,ti)) (hk:I4 ti.1 ti.2 cs o K):KY P t (.agg cs) f K:=by
 unfold PE at h
 unfold KY
 split at h
 ·rename_i fs hu
  split at h
  ·rename_i gg hg
   split at h
   ·rename_i ti' ht
    simp only[Option.some.injEq,Prod.mk.injEq] at h
    obtain⟨rfl,rfl⟩:=h
    rw[hu]
    exact Ar _ hg (Ar _ ht hk)
   ·cases h
  ·cases h
 ·cases h
theorem ZQ (hf:PE P t f=some (off,false,sz)) (hx:s.ev x=.agg cs) (hv:cs[off]?=some v):AQ P s (.field t x f) v:=fun K hk=>by
 show KY P t (s.ev x) f K
 rw[hx];exact RW hf (Ar v hv hk)
theorem Yc (hf:PE P t f=some (off,true,sz)) (hx:s.ev x=.agg cs) (hl:off+sz≤cs.length) (hv:(cs.drop off).take sz=vs):AQ P s (.field t x f) (.agg vs):=fun K hk=>by
 show KY P t (s.ev x) f K
 rw[hx];subst hv;exact RW hf ⟨hl,hk⟩
variable {α : Type} {l l' : List α} {enc : α → List AV} {n : Int} {zz : List AV} {u : α}
theorem Fy (h:Sh.get l n=some u):(l.map enc)[n.toNat]?=some (enc u):=by
 rw[List.getElem?_map,(Sh.get_some h).2.1];rfl
theorem Eo (he:CM P t=some ⟨el,size,bytes,zz⟩) (hx:s.ev x=.sl (l.map enc)) (hy:s.ev y=.int kk n) (hg:Sh.get l n=some u) (hs:(enc u).length=size):AQ P s (.indexAddr t x y) (.B1 (enc u) 0):=fun K hk=>by
 show GK P s.st t (s.ev x) (s.ev y) K
 rw[hx,hy];exact Ar _ he ⟨(Sh.get_some hg).1,Ar _ (Fy hg) ⟨hs,hk⟩⟩
theorem BZ (he:CM P t=some ⟨el,size,bytes,zz⟩) (hx:s.ev x=.own id g m) (hy:s.ev y=.int kk n) (hr:s.st[id]?=some ⟨g,el,size,l.map enc⟩) (hm:m=l.length) (hg:Sh.get l n=some u) :
  AQ P s (.indexAddr t x y) (.ptr id g n.toNat 0):=fun K hk=>by
 show GK P s.st t (s.ev x) (s.ev y) K
 rw[hx,hy];subst hm;exact Ar _ he ⟨(Sh.get_some hg).1,(Sh.get_some hg).2.2,Ar _ hr ⟨rfl,rfl,by simpa using hk⟩⟩
theorem Ci (hs:Cu P t=true) (hx:s.ev x=.sl (l.map enc)):AQ P s (.call ⟨.builtin .len,#[x],#[t]⟩) (i64 (Sh.len l)):=fun K hk=>by
 refine⟨hs,?_⟩
 rw[hx];simp only[Vs,List.length_map];exact hk
theorem Ct (hs:Cu P t=true) (hx:s.ev x=.own id g m) (hr:s.st[id]?=some ⟨g,el,size,l.map enc⟩) (hm:m=l.length):AQ P s (.call ⟨.builtin .len,#[x],#[t]⟩) (i64 (Sh.len l)):=fun K hk=>by
 refine⟨hs,?_⟩
 subst hm
 rw[hx];exact Ar _ hr ⟨rfl,hk⟩
theorem UF (hs:Cu P t=true) (hx:s.ev x=.zc):AQ P s (.call ⟨.builtin .len,#[x],#[t]⟩) (i64 0):=fun K hk=>by
 refine⟨hs,?_⟩
 rw[hx];exact hk
theorem YM (hx:s.ev x=.ptr id g i off) (hr:s.st[id]?=some ⟨g,el,size,xs⟩):AQ P s (.nilCheck x) (.ptr id g i off):=fun K hk=>by
 show Sn s.st (s.ev x) K
 rw[hx];exact Ar _ hr ⟨rfl,hk⟩
theorem YQ (hx:s.ev x=.B1 cs off):AQ P s (.nilCheck x) (.B1 cs off):=fun K hk=>by
 show Sn s.st (s.ev x) K
 rw[hx];exact hk
theorem FX {parts:Array (Nat×Operand)} {fs:List (Nat×Nat)} {pv:List (Nat×AV)} (ha:Hb P t=true) (hf:I7 P t=some fs) (hz:HP P t=some zz) (hp:(parts.toList.map fun p=>(p.1,s.ev p.2))=pv) (hc:Lj (fs[·]?) zz pv=some cs) :
  AQ P s (.build t parts) (.agg cs):=fun K hk=>by
 show TJ P t (parts.toList.map fun p=>(p.1,s.ev p.2)) K
 rw[hp];exact⟨ha,Ar _ hf (Ar _ hz (Ar _ hc hk))⟩
variable {st : List Row} {ys : List (List AV)}
theorem O0:EL st (.sl ys) ys:=fun _ hk=>hk
theorem Ig (hr:st[id]?=some ⟨g,el,size,l.map enc⟩) (hm:m=l.length) (hlf :∀x,(enc x).all AV.leaf=true:=by exact fun _=>rfl):EL st (.own id g m) (l.map enc):=fun K hk=>by
 subst hm
 refine Ar _ hr ⟨rfl,fun y hy c hc=>?_,?_⟩
 ·obtain⟨x,_,rfl⟩:=List.mem_map.1 hy
  exact List.all_eq_true.1 (hlf x) c hc
 rw[← List.length_map (f:=enc) (as:=l),List.take_length];exact⟨rfl,hk⟩
end
section
variable {P : Program} {k : Nat} {ops : Array Oper} {Q : Exit → St → Prop} {ds : List (Option Tmp)} {r : List Oper} {n : Nat} {e : Nat → AV} {st st' : List Row} {op : Op} {ty : TypeId} {ps : String} {ed : Array Edge} {d : Option Tmp} {t : Tmp} {v v' : AV}
variable {jj : Nat} {want b : Bool} {tg : Tmp} {gd : Option (Nat × Bool)}
def GO (ds:List (Option Tmp)) (gd:Option (Nat×Bool)) (e:Nat→AV):Prop:=
 match gd with
 | none=>True
 | some (jj,want)=>∃tg,ds[jj]?=some (some tg)∧e tg=.bool want
theorem Aj:GO ds none e:=trivial
theorem DH (hj:ds[jj]?=some (some tg)) (ht:e tg=.bool b) (hb:b=want):GO ds (some (jj,want)) e:=⟨tg,hj,by rw[ht,hb]⟩
theorem GO.guard {A B:Prop} (hg:GO ds gd e) (h:A):ID ds ⟨d,op,ty,ps,ed,gd⟩ ⟨n,e,st⟩ A B:=by
 unfold GO at hg
 unfold ID
 cases gd with
 | none=>exact h
 | some q=>
  obtain⟨jj,want⟩:=q
  obtain⟨tg,hj,ht⟩:=hg
  simp only[hj,ht,Vc]
  exact⟨fun _=>h,fun hh=>absurd rfl hh⟩
theorem BU (hg:GO ds gd e) (hl:IB op=false) (hq:AQ P ⟨n,e,st⟩ op v) (hk:AO P k ops Q (ds ++ [some t]) r ⟨n,Eh e t v,st⟩):AO P k ops Q ds (⟨some t,op,ty,ps,ed,gd⟩ :: r) ⟨n,e,st⟩:=by
 refine LY (hg.guard ?_)
 unfold I5
 simp only[hl,Bool.false_eq_true,if_false]
 exact hq _ hk
theorem J9 (hg:GO ds gd e) (h:I5 P k ⟨d,op,ty,ps,ed,gd⟩ ⟨n,e,st⟩ (AO P k ops Q (ds ++ [d]) r)):AO P k ops Q ds (⟨d,op,ty,ps,ed,gd⟩ :: r) ⟨n,e,st⟩:=
 LY (hg.guard h)
theorem Xm (hj:ds[jj]?=some (some tg)) (ht:e tg=.bool b) (hb:b=!want) (h:AO P k ops Q (ds ++ [some t]) r ⟨n,Eh e t .un,st⟩):AO P k ops Q ds (⟨some t,op,ty,ps,ed,some (jj,want)⟩ :: r) ⟨n,e,st⟩:=by
 refine LY ?_
 subst hb
 simp only[ID,hj,ht,Vc]
 exact⟨fun h=>(by cases want <;> cases h),fun _=>h⟩
theorem YH (hj:ds[jj]?=some (some tg)) (ht:e tg=.un) (h:AO P k ops Q (ds ++ [some t]) r ⟨n,Eh e t .un,st⟩):AO P k ops Q ds (⟨some t,op,ty,ps,ed,some (jj,want)⟩ :: r) ⟨n,e,st⟩:=by
 refine LY ?_
 simp only[ID,hj,ht,Vc]
 exact h
variable {KS : St → Prop}
theorem Jd (hg:GO ds gd e) (hl:IB op=false) (hq:AQ P ⟨n,e,st⟩ op v) (hk:Cp P (ds ++ [some t]) r KS ⟨n,Eh e t v,st⟩):Cp P ds (⟨some t,op,ty,ps,ed,gd⟩ :: r) KS ⟨n,e,st⟩:=by
 refine hg.guard ?_
 unfold JY
 simp only[hl,Bool.false_eq_true,if_false]
 exact hq _ hk
theorem WC (hg:GO ds gd e) (hl:IB op=true) (hq :∀s0:St,s0.st=st→(∀x∈op.operands,s0.ev x=St.ev ⟨n,e,st⟩ x)→Da s0.n (some t)=true→Yl P ⟨some t,op,ty,ps,ed,gd⟩ s0 v) (hk:Cp P (ds ++ [some t]) r KS ⟨n,Eh e t v,st⟩):Cp P ds (⟨some t,op,ty,ps,ed,gd⟩ :: r) KS ⟨n,e,st⟩:=by
 refine hg.guard ?_
 unfold JY
 simp only[hl,if_true]
 exact⟨v,hq,hk⟩
theorem Ye (hj:ds[jj]?=some (some tg)) (ht:e tg=.bool b) (hb:b=!want) (h:Cp P (ds ++ [some t]) r KS ⟨n,Eh e t .un,st⟩):Cp P ds (⟨some t,op,ty,ps,ed,some (jj,want)⟩ :: r) KS ⟨n,e,st⟩:=by
 subst hb
 simp only[Cp,ID,hj,ht,Vc]
 exact⟨fun h=>(by cases want <;> cases h),fun _=>h⟩
theorem Bh {s:St} (h:KS s):Cp P ds [] KS s:=h
theorem Qw {ars:Array Operand} {f:FuncId} {ts:Array TypeId} {s0 s1:St} (h :∀x∈(Op.call ⟨.value (.func f),ars,ts⟩).operands,s0.ev x=s1.ev x):ars.toList.map s0.ev=ars.toList.map s1.ev:=
 List.map_congr_left fun x hx=>h x (by simp[Op.operands,Call.operands];right;simpa using hx)
theorem CH {f:FuncId} {ars:Array Operand} {ts:Array TypeId} {args:List AV} (hg:GO ds gd e) (hb:As P f=true) (hc:Ak P f args [] fun r st=>r=v∧st=[]) (ha:ars.toList.map (St.ev ⟨n,e,st⟩) ++ []=args) (hf:args.all flat=true) (hv:flat v=true)
  (hk:Cp P (ds ++ [some t]) r KS ⟨n,Eh e t v,st⟩):Cp P ds (⟨some t,.call ⟨.value (.func f),ars,ts⟩,ty,ps,ed,gd⟩ :: r) KS ⟨n,e,st⟩:=by
 refine WC hg rfl (fun s0 e1 e2 hd k F os a w hr next Q hn=>?_) hk
 refine LB (k:=k) (K:=(·=s0.put (some t) v)) hr hd ?_ hn
 show As P f=true∧callThen P k s0 f (ars.toList.map s0.ev ++ []) (some t) _
 rw[Qw e2,ha]
 exact⟨hb,QS hc hf hv rfl⟩
variable {α : Type} {l l' l2 : List α} {enc : α → List AV} {kk kk' : IntKind} {j : Int} {el T : TypeId} {size bytes sz id g i m off : Nat} {zz cs us : List AV} {x y : Operand} {xs : List (List AV)} {ag : Bool} {u u' : α}
theorem A7 (hg:GO ds gd e) (hz:HP P T=some zz) (hm:st.length=m) (hst:st ++ [⟨0,T,zz.length,[zz]⟩]=st') (hk:AO P k ops Q (ds ++ [some t]) r ⟨n,Eh e t (.ptr m 0 0 0),st'⟩):AO P k ops Q ds (⟨some t,.alloc T,ty,ps,ed,gd⟩ :: r) ⟨n,e,st⟩:=by
 subst hm;subst hst
 exact J9 hg (Ar _ hz hk)
theorem BY (hg:GO ds gd e) (hx:St.ev ⟨n,e,st⟩ x=v) (hc:H7 v=some cs) (hne:cs.isEmpty=false) (hm:st.length=m) (hst:st ++ [⟨0,T,cs.length,[cs]⟩]=st') (hk:AO P k ops Q (ds ++ [some t]) r ⟨n,Eh e t (.ptr m 0 0 0),st'⟩):AO P k ops Q ds (⟨some t,.box T x,ty,ps,ed,gd⟩ :: r) ⟨n,e,st⟩:=by
 subst hm;subst hst;subst hx
 exact J9 hg (Ar _ hc ⟨(by intro h;rw[h] at hne;cases hne),hk⟩)
theorem BI (hg:GO ds gd e) (ht:DG P T=some (ag,sz)) (hx:St.ev ⟨n,e,st⟩ x=.ptr id g i off) (hr:st[id]?=some ⟨g,el,size,xs⟩) (hi:xs[i]?=some zz) (hv:St.ev ⟨n,e,st⟩ y=v) (hc:H7 v=some cs) (hn:cs.length=sz) (hle:off+cs.length≤size)
  (hst:st.set id ⟨g,el,size,xs.set i (FT zz off cs)⟩=st') (hk:AO P k ops Q (ds ++ [none]) r ⟨n,e,st'⟩):AO P k ops Q ds (⟨none,.store T x y,ty,ps,ed,gd⟩ :: r) ⟨n,e,st⟩:=by
 subst hst;subst hv
 refine J9 hg ?_
 rw[WW,hx];exact Ar _ ht (Ar _ hr ⟨rfl,Ar _ hi (Ar _ hc ⟨hn,hle,hk⟩)⟩)
theorem UL {j:Int}:(l.map enc).set j.toNat (enc u)=(Sh.put l j u).map enc:=by simp[Sh.put,List.map_set]
theorem IF (hg:GO ds gd e) (ht:DG P T=some (ag,sz)) (hx:St.ev ⟨n,e,st⟩ x=.ptr id g j.toNat off) (hr:st[id]?=some ⟨g,el,size,l.map enc⟩) (hi:Sh.get l j=some u) (hv:St.ev ⟨n,e,st⟩ y=v) (hc:H7 v=some cs) (hn:cs.length=sz) (hle:off+cs.length≤size)
  (hsp:FT (enc u) off cs=enc u') (hst:st.set id ⟨g,el,size,(Sh.put l j u').map enc⟩=st') (hk:AO P k ops Q (ds ++ [none]) r ⟨n,e,st'⟩):AO P k ops Q ds (⟨none,.store T x y,ty,ps,ed,gd⟩ :: r) ⟨n,e,st⟩:=
 BI hg ht hx hr (Fy hi) hv hc hn hle (by rw[hsp,UL];exact hst) hk
theorem Rh (hg:GO ds gd e) (he:CM P T=some ⟨el,size,bytes,zz⟩) (hx:St.ev ⟨n,e,st⟩ x=.int kk j) (hy:St.ev ⟨n,e,st⟩ y=.int kk' j) (hz:enc u=zz) (hl:Sh.mk u j bytes=some l) (hm:st.length=m) (hst:st ++ [⟨0,el,size,l.map enc⟩]=st')
  (hk:AO P k ops Q (ds ++ [some t]) r ⟨n,Eh e t (.own m 0 l.length),st'⟩):AO P k ops Q ds (⟨some t,.makeSlice T x y,ty,ps,ed,gd⟩ :: r) ⟨n,e,st⟩:=by
 subst hm;subst hst;subst hz
 refine J9 hg ?_
 rw[SH]
 unfold Sh.mk at hl
 split at hl
 ·rename_i h
  simp only[Option.some.injEq] at hl
  subst hl
  rw[hx,hy]
  simp only[List.map_replicate,List.length_replicate] at hk
  exact Ar _ he ⟨rfl,h.1,h.2.1,h.2.2,hk⟩
 ·cases hl
theorem Bb {len:Nat} {parts:Array (Nat×Operand)} {pv:List (Nat×AV)} (hg:GO ds gd e) (he:CM P T=some ⟨el,size,bytes,zz⟩) (hle:len * size≤16777216) (hp:(parts.toList.map fun p=>(p.1,St.ev ⟨n,e,st⟩ p.2))=pv)
  (hc:Lj (fun i=>some (i * size,size)) ((List.replicate len zz).flatten) pv=some cs) (hck:chunk size len cs=l.map enc) (hln:len=l.length) (hm:st.length=m) (hst:st ++ [⟨0,el,size,l.map enc⟩]=st') (hk:AO P k ops Q (ds ++ [some t]) r ⟨n,Eh e t (.own m 0 l.length),st'⟩) :
  AO P k ops Q ds (⟨some t,.buildSlice T len parts,ty,ps,ed,gd⟩ :: r) ⟨n,e,st⟩:=by
 subst hm;subst hst;subst hln
 refine J9 hg ?_
 rw[Re,hp];exact Ar _ he ⟨hle,Ar _ hc (by rw[hck];exact hk)⟩
theorem FR {ys:AV} (hg:GO ds gd e) (he:CM P T=some ⟨el,size,bytes,zz⟩) (hx:St.ev ⟨n,e,st⟩ x=.own id g m) (hr:st[id]?=some ⟨g,el,size,l.map enc⟩) (hm:m=l.length) (hy:St.ev ⟨n,e,st⟩ y=ys) (hel:EL st ys (l2.map enc)) (hs :∀a,(enc a).length=size) (ha:Sh.app l l2 bytes=some l')
  (hst:st.set id ⟨g+1,el,size,l'.map enc⟩=st') (hk:AO P k ops Q (ds ++ [some t]) r ⟨n,Eh e t (.own id (g+1) l'.length),st'⟩):AO P k ops Q ds (⟨some t,.call ⟨.builtin .append,#[x,y],#[T,T]⟩,ty,ps,ed,gd⟩ :: r) ⟨n,e,st⟩:=by
 subst hst;subst hy;subst hm
 refine J9 hg ?_
 rw[RS]
 refine⟨rfl,?_⟩
 rw[hx]
 unfold Sh.app at ha
 split at ha
 ·rename_i h
  simp only[Option.some.injEq] at ha
  subst ha
  refine Ar _ he (hel _ ⟨fun z hz=>?_,Ar _ hr ⟨rfl,(List.length_map _).symm,rfl,rfl,by simpa using h.1,by simpa using h.2,?_⟩⟩)
  ·obtain⟨q,_,rfl⟩:=List.mem_map.1 hz;exact hs q
  ·have e1:(l.map enc).take l.length=l.map enc:=by rw[← List.length_map (f:=enc) (as:=l),List.take_length]
   have e2:l.length+(l2.map enc).length=(l ++ l2).length:=by simp
   simp only[e1,e2,← List.map_append]
   exact hk
 ·cases ha
theorem YV {hop:Operand} (hg:GO ds gd e) (he:CM P T=some ⟨el,size,bytes,zz⟩) (hx:St.ev ⟨n,e,st⟩ x=.own id g m) (hr:st[id]?=some ⟨g,el,size,l.map enc⟩) (hm:m=l.length) (hh:St.ev ⟨n,e,st⟩ hop=.int kk j) (hl:Sh.hi l j=some l')
  (hst:st.set id ⟨g+1,el,size,l'.map enc⟩=st') (hk:AO P k ops Q (ds ++ [some t]) r ⟨n,Eh e t (.own id (g+1) l'.length),st'⟩):AO P k ops Q ds (⟨some t,.slice T x none (some hop) none,ty,ps,ed,gd⟩ :: r) ⟨n,e,st⟩:=by
 subst hst;subst hm
 refine J9 hg ?_
 rw[Pv]
 simp only[Option.map_some,Option.map_none]
 rw[hx,hh]
 unfold Sh.hi at hl
 split at hl
 ·rename_i h
  simp only[Option.some.injEq] at hl
  subst hl
  refine Ar _ he (Ar _ hr ⟨rfl,(List.length_map _).symm,rfl,Ar _ rfl ⟨h.1,h.2,?_⟩⟩)
  have e1:(l.take j.toNat).length=j.toNat:=by rw[List.length_take];omega
  rw[e1,List.map_take] at hk
  exact hk
 ·cases hl
theorem TL {lo hi:Option Operand} {i j:Int} (hg:GO ds gd e) (he:CM P T=some ⟨el,size,bytes,zz⟩) (hx:St.ev ⟨n,e,st⟩ x=.sl (l.map enc)) (h1:PH (lo.map (St.ev ⟨n,e,st⟩)) 0=some i) (h2:PH (hi.map (St.ev ⟨n,e,st⟩)) l.length=some j) (hs :∀a,(enc a).length=size) (hl:Sh.sl l i j=some l')
  (hk:AO P k ops Q (ds ++ [some t]) r ⟨n,Eh e t (.sl (l'.map enc)),st⟩):AO P k ops Q ds (⟨some t,.slice T x lo hi none,ty,ps,ed,gd⟩ :: r) ⟨n,e,st⟩:=by
 refine J9 hg ?_
 rw[Pv]
 simp only[Option.map_none]
 rw[hx]
 unfold Sh.sl at hl
 split at hl
 ·rename_i h
  simp only[Option.some.injEq] at hl
  subst hl
  refine Ar _ he (Ar _ h1 (Ar _ (by rw[List.length_map];exact h2) ⟨h.1,h.2.1,by simpa using h.2.2,fun z hz=>?_,?_⟩))
  ·obtain⟨q,_,rfl⟩:=List.mem_map.1 hz;exact hs q
  ·rw[List.map_drop,List.map_take] at hk
   exact hk
 ·cases hl
theorem Qg (hg:GO ds gd e) (hs:Cu P T=true) (hx:St.ev ⟨n,e,st⟩ x=.sl (l.map enc)) (h1:l=[]→AO P k ops Q (ds ++ [some t]) r ⟨n,Eh e t (.bool true),st⟩) (h2:AO P k ops Q (ds ++ [some t]) r ⟨n,Eh e t (.bool false),st⟩) {yT:TypeId} :
  AO P k ops Q ds (⟨some t,.binOp .eql T x (.const (.slice none 0 0)) yT,ty,ps,ed,gd⟩ :: r) ⟨n,e,st⟩:=by
 refine J9 hg ?_
 rw[Ts]
 refine⟨hs,?_⟩
 rw[hx]
 exact⟨fun h=>h1 (List.map_eq_nil_iff.1 h),h2⟩
def RY:List Row→Prop
 | []=>True
 | row :: r=>B9 row.xs∧RY r
theorem RY.get :∀{l:List Row},RY l→∀row∈l,B9 row.xs
 | row :: r,h,row',hm=>by
  rcases List.mem_cons.1 hm with rfl | hm
  ·exact h.1
  ·exact RY.get h.2 row' hm
variable {f : FuncId} {ars : Array Operand} {ts : Array TypeId} {args : List AV} {rows : List Row} {s : St}
theorem BW (hg:GO ds gd e) (hb:As P f=true) (hc:Ak P f args [] fun r st=>r=v∧st=rows) (ha:ars.toList.map (St.ev ⟨n,e,st⟩) ++ []=args) (hf:args.all flat=true) (hp:RY rows) (hv:shift st.length v=v') (hst:st ++ rows=st')
  (hk:AO P k ops Q (ds ++ [d]) r (St.put ⟨n,e,st'⟩ d v')):AO P k ops Q ds (⟨d,.call ⟨.value (.func f),ars,ts⟩,ty,ps,ed,gd⟩ :: r) ⟨n,e,st⟩:=by
 subst hv;subst hst;subst ha
 refine J9 hg ?_
 rw[Kl]
 refine⟨hb,Ra hc hf ?_⟩
 rintro r st' ⟨rfl,rfl⟩
 exact⟨hp.get,hk⟩
theorem Vy {g:Nat} {enc':α→List AV} (hr:st[id]?=some ⟨g,el,size,l.map enc⟩) (hu :∀x,GG (enc x)=enc' x):Oy st (.own id g l.length)=.sl (l.map enc'):=by
 simp only[Oy,hr,if_true]
 rw[← List.length_map (f:=enc) (as:=l),Nat.sub_self,List.drop_zero,F4,List.map_map]
 congr 1
 exact List.map_congr_left fun x _=>hu x
theorem Oh {cs:List AV} (h:cs.all simple=true):GG cs=cs:=by
 rw[LL]
 exact (List.map_congr_left (g:=id) fun c hc=>QB (List.all_eq_true.1 h c hc)).trans (List.map_id _)
inductive BC (st:List Row):List AV→List AV→Prop
 | nil:BC st [] []
 | own {α:Type} {l:List α} {enc:α→List AV} {id g size m:Nat} {el:TypeId} {as bs:List AV} (hr:st[id]?=some ⟨g,el,size,l.map enc⟩) (hm:m=l.length) (hp :∀x,(enc x).all simple=true) (h:BC st as bs):BC st (.own id g m :: as) (.sl (l.map enc) :: bs)
 | ownD {α:Type} {l:List α} {enc enc':α→List AV} {id g size m:Nat} {el:TypeId} {as bs:List AV} (hr:st[id]?=some ⟨g,el,size,l.map enc⟩) (hm:m=l.length) (hp :∀x,(enc x).all De=true) (hu :∀x,GG (enc x)=enc' x) (h:BC st as bs):BC st (.own id g m :: as) (.sl (l.map enc') :: bs)
 | val {v:AV} {as bs:List AV} (hv:simple v=true) (h:BC st as bs):BC st (v :: as) (v :: bs)
inductive BA (st:List Row):List AV→List AV→Prop
 | nil:BA st [] []
 | own {α:Type} {l:List α} {enc:α→List AV} {id g size m:Nat} {el:TypeId} {as bs:List AV} (hr:st[id]?=some ⟨g,el,size,l.map enc⟩) (hm:m=l.length) (hp :∀x,(enc x).all simple=true) (h:BA st as bs):BA st (.own id g m :: as) (.sl (l.map enc) :: bs)
 | ownD {α:Type} {l:List α} {enc enc':α→List AV} {id g size m:Nat} {el:TypeId} {as bs:List AV} (hr:st[id]?=some ⟨g,el,size,l.map enc⟩) (hm:m=l.length) (hp :∀x,(enc x).all De=true) (hu :∀x,GG (enc x)=enc' x) (h:BA st as bs):BA st (.own id g m :: as) (.sl (l.map enc') :: bs)
 | agg {cs ds:List AV} {as bs:List AV} (hc:BC st cs ds) (h:BA st as bs):BA st (.agg cs :: as) (.agg ds :: bs)
 | val {v:AV} {as bs:List AV} (hv:flat v=true) (h:BA st as bs):BA st (v :: as) (v :: bs)
theorem PC {v:AV} (h:simple v=true):Oy st v=v:=by cases v <;> simp_all [simple,Oy]
theorem BC.spec {as bs:List AV} (h:BC st as bs):as.map (Oy st)=bs∧bs.all simple=true∧∀id g n,AV.own id g n∈as→∀row,st[id]?=some row→B9 row.xs:=by
 induction h with
 | nil=>exact⟨rfl,rfl,by simp⟩
 | own hr hm hp h ih=>
  obtain⟨h1,h2,h3⟩:=ih
  subst hm
  refine⟨by rw[List.map_cons,Vy hr (fun x=>Oh (hp x)),h1],by simp[simple,h2],fun id' g' n' hx row hrow=>?_⟩
  rcases List.mem_cons.1 hx with hx | hx
  ·cases hx;rw[hr] at hrow;cases hrow;exact (AS hp).any
  ·exact h3 id' g' n' hx row hrow
 | ownD hr hm hp hu h ih=>
  obtain⟨h1,h2,h3⟩:=ih
  subst hm
  refine⟨by rw[List.map_cons,Vy hr hu,h1],by simp[simple,h2],fun id' g' n' hx row hrow=>?_⟩
  rcases List.mem_cons.1 hx with hx | hx
  ·cases hx;rw[hr] at hrow;cases hrow;exact AG hp
  ·exact h3 id' g' n' hx row hrow
 | @val v as bs hv h ih=>
  obtain⟨h1,h2,h3⟩:=ih
  refine⟨by rw[List.map_cons,PC hv,h1],by simp[hv,h2],fun id' g' n' hx row hrow=>?_⟩
  rcases List.mem_cons.1 hx with hx | hx
  ·subst hx;simp[simple] at hv
  ·exact h3 id' g' n' hx row hrow
theorem BA.spec {as bs:List AV} (h:BA st as bs):as.map (Fp st)=bs∧bs.all flat=true∧∀id g n,NH as id g n→∀row,st[id]?=some row→B9 row.xs:=by
 induction h with
 | nil=>exact⟨rfl,rfl,by rintro id g n (h | ⟨_,h,_⟩) <;> simp at h⟩
 | own hr hm hp h ih=>
  obtain⟨h1,h2,h3⟩:=ih
  subst hm
  refine⟨by rw[List.map_cons,h1];congr 1;exact Vy hr (fun x=>Oh (hp x)),by simp[flat,h2],fun id' g' n' hx row hrow=>?_⟩
  rcases hx with hx | ⟨cs,hx,hin⟩
  ·rcases List.mem_cons.1 hx with hx | hx
   ·cases hx;rw[hr] at hrow;cases hrow;exact (AS hp).any
   ·exact h3 id' g' n' (.inl hx) row hrow
  ·rcases List.mem_cons.1 hx with hx | hx
   ·cases hx
   ·exact h3 id' g' n' (.inr ⟨cs,hx,hin⟩) row hrow
 | ownD hr hm hp hu h ih=>
  obtain⟨h1,h2,h3⟩:=ih
  subst hm
  refine⟨by rw[List.map_cons,h1];congr 1;exact Vy hr hu,by simp[flat,h2],fun id' g' n' hx row hrow=>?_⟩
  rcases hx with hx | ⟨cs,hx,hin⟩
  ·rcases List.mem_cons.1 hx with hx | hx
   ·cases hx;rw[hr] at hrow;cases hrow;exact AG hp
   ·exact h3 id' g' n' (.inl hx) row hrow
  ·rcases List.mem_cons.1 hx with hx | hx
   ·cases hx
   ·exact h3 id' g' n' (.inr ⟨cs,hx,hin⟩) row hrow
 | agg hc h ih=>
  obtain⟨h1,h2,h3⟩:=ih
  obtain⟨g1,g2,g3⟩:=hc.spec
  refine⟨by rw[List.map_cons,h1];simp only[Fp,g1],by simp only[List.all_cons,h2,Bool.and_true];simpa [flat] using g2,fun id' g' n' hx row hrow=>?_⟩
  rcases hx with hx | ⟨cs,hx,hin⟩
  ·rcases List.mem_cons.1 hx with hx | hx
   ·cases hx
   ·exact h3 id' g' n' (.inl hx) row hrow
  ·rcases List.mem_cons.1 hx with hx | hx
   ·cases hx;exact g3 id' g' n' hin row hrow
   ·exact h3 id' g' n' (.inr ⟨cs,hx,hin⟩) row hrow
 | @val v as bs hv h ih=>
  obtain⟨h1,h2,h3⟩:=ih
  have e1:Fp st v=v:=by
   cases v <;> simp[flat] at hv <;> try rfl
   rename_i cs
   simp only[Fp]
   congr 1
   exact (List.map_congr_left (g:=id) fun c hc=>PC (hv c hc)).trans (List.map_id _)
  refine⟨by rw[List.map_cons,e1,h1],by simp[hv,h2],fun id' g' n' hx row hrow=>?_⟩
  rcases hx with hx | ⟨cs,hx,hin⟩
  ·rcases List.mem_cons.1 hx with hx | hx
   ·subst hx;simp[flat] at hv
   ·exact h3 id' g' n' (.inl hx) row hrow
  ·rcases List.mem_cons.1 hx with hx | hx
   ·subst hx
    have:=List.all_eq_true.1 (show cs.all simple=true from hv) _ hin
    simp[simple] at this
   ·exact h3 id' g' n' (.inr ⟨cs,hx,hin⟩) row hrow
def OR:List Row→Prop
 | []=>True
 | row :: r=>(B9 row.xs∧∀x∈row.xs,∀c∈x,LW c=true)∧OR r
theorem OR.get :∀{l:List Row},OR l→∀row∈l,B9 row.xs∧∀x∈row.xs,∀c∈x,LW c=true
 | row :: r,h,row',hm=>by
  rcases List.mem_cons.1 hm with rfl | hm
  ·exact h.1
  ·exact OR.get h.2 row' hm
theorem XO {g:Nat} (h :∀x,(enc x).all (fun c=>De c && LW c)=true) (hr:OR rows):OR (⟨g,el,size,l.map enc⟩ :: rows):=by
 refine⟨⟨fun x hx c hc=>?_,fun x hx c hc=>?_⟩,hr⟩ <;>
 ·obtain⟨y,_,rfl⟩:=List.mem_map.1 hx
  have:=List.all_eq_true.1 (h y) c hc
  simp only[Bool.and_eq_true] at this
  first | exact this.1 | exact this.2
theorem Jn {as:List AV} (hg:GO ds gd e) (hb:As P f=true) (hc:Ak P f args [] fun r st=>r=v∧st=rows) (ha:ars.toList.map (St.ev ⟨n,e,st⟩) ++ []=as) (hba:BA st as args) (hsc:Vu v=true) (hp:OR rows) (hv:shift st.length v=v') (hst:st ++ rows=st')
  (hk:AO P k ops Q (ds ++ [d]) r (St.put ⟨n,e,st'⟩ d v')):AO P k ops Q ds (⟨d,.call ⟨.value (.func f),ars,ts⟩,ty,ps,ed,gd⟩ :: r) ⟨n,e,st⟩:=by
 subst hv;subst hst;subst ha
 obtain⟨h1,h2,h3⟩:=hba.spec
 refine J9 hg ?_
 rw[Kl]
 refine⟨hb,Ku (R:=fun r st=>r=v∧st=rows) ?_ ?_ h3 ?_⟩
 ·show Ak P f (List.map (Fp st) _) [] _
  rw[h1];exact hc
 ·show (List.map (Fp st) _).all flat=true
  rw[h1];exact h2
 ·rintro r st' ⟨rfl,rfl⟩
  exact⟨⟨hsc,fun row hrow=>(hp.get row hrow).2⟩,fun row hrow=>(hp.get row hrow).1,hk⟩
theorem Rf {as:List AV} {KS:St→Prop} {t:Tmp} (hg:GO ds gd e) (hb:As P f=true) (hc:Ak P f args [] fun r st=>r=v∧st=[]) (ha:ars.toList.map (St.ev ⟨n,e,st⟩) ++ []=as) (hba:BA st as args) (hsc:Vu v=true) (hv:shift st.length v=v')
  (hk:Cp P (ds ++ [some t]) r KS ⟨n,Eh e t v',st⟩):Cp P ds (⟨some t,.call ⟨.value (.func f),ars,ts⟩,ty,ps,ed,gd⟩ :: r) KS ⟨n,e,st⟩:=by
 subst hv;subst ha
 obtain⟨h1,h2,h3⟩:=hba.spec
 refine WC hg rfl (fun s0 e1 e2 hd k F os a w hr next Q hn=>?_) hk
 refine LB (k:=k) (K:=(·=s0.put (some t) (shift st.length v))) hr hd ?_ hn
 show As P f=true∧callThen P k s0 f (ars.toList.map s0.ev ++ []) (some t) _
 rw[Qw e2]
 refine⟨hb,?_⟩
 subst e1
 refine Ku (R:=fun r st'=>r=v∧st'=[]) ?_ ?_ h3 ?_
 ·show Ak P f (List.map (Fp s0.st) _) [] _
  rw[h1];exact hc
 ·show (List.map (Fp s0.st) _).all flat=true
  rw[h1];exact h2
 ·rintro r st' ⟨rfl,rfl⟩
  refine⟨⟨hsc,by simp⟩,by simp,?_⟩
  rw[List.append_nil]
end
section
variable {P : Program} {k : Nat} {Q : Exit → St → Prop} {s s' : St} {x y c : Code}
theorem Ew {o:Operand} {b:Bool} (ho:s.ev o=.bool b) (h1:b=true→AW P k x Q s) (h2:b=false→AW P k y Q s):AW P k (.cond o x y) Q s:=
 AW.cond fun K1 K2 e1 e2=>by rw[ho];exact⟨fun h=>e1 (h1 h),fun h=>e2 (h2 h)⟩
theorem Aw {σ:Type} (I:Nat→σ→Prop) (canon:σ→St) (n0:Nat) (v0:σ) (h0:I n0 v0) (hw:Wk k s (canon v0)) (hz :∀v,¬ I 0 v)
  (round :∀n v,I (n+1) v→AW P k c (VX (fun s'=>∃v',I n v'∧Wk k s' (canon v')) Q) (canon v)):AW P k (.loop c) Q s:=by
 refine Aa hw ?_
 have key :∀n v,I n v→∀F os a w,Rel F os (canon v) a w→∀(b:Frame) (kk:List Item) (cs:List Frame),
   ∃e a' w',KN k Q F os w e a' w'∧Arrives P (lone (b.at a (.code c :: .inLoop c :: kk)) cs w) b kk cs e a' w':=by
  intro n
  induction n with
  | zero=>intro v hI;exact absurd hI (hz v)
  | succ n ih=>
   intro v hI F os a w hr b kk cs
   obtain⟨e,a₁,w₁,⟨s1,F1,os1,hq,hR1,hE1⟩,harr⟩:=round n v hI F os a w hr b (.inLoop c :: kk) cs
   cases e with
   | normal=>
    obtain⟨v2,hI2,hw2⟩:=hq
    obtain⟨F2,os2,hR2,hE2⟩:=hw2 F1 os1 a₁ w₁ hR1
    obtain⟨e₂,a₂,w₂,hq₂,harr₂⟩:=ih v2 hI2 F2 os2 a₁ w₁ hR2 b kk cs
    exact⟨e₂,a₂,w₂,hq₂.trans (hE1.trans hE2),.of_steps (Steps.trans harr (.one step_inLoop)) harr₂⟩
   | exit id=>exact⟨_,a₁,w₁,⟨s1,F1,os1,hq,hR1,hE1⟩,.pass (x:=.inLoop c) rfl (fun _ _=>.inl (by simp)) harr⟩
   | goto l=>exact⟨_,a₁,w₁,⟨s1,F1,os1,hq,hR1,hE1⟩,.pass (x:=.inLoop c) rfl (fun _ _=>.inl (by simp)) harr⟩
   | ret=>exact⟨_,a₁,w₁,⟨s1,F1,os1,hq,hR1,hE1⟩,.pass (x:=.inLoop c) rfl (fun _ _=>.inl (by simp)) harr⟩
   | panic ch=>exact⟨_,a₁,w₁,⟨s1,F1,os1,hq,hR1,hE1⟩,.pass (x:=.inLoop c) rfl (fun _ _=>.inl (by simp)) harr⟩
   | outgrown=>exact⟨_,a₁,w₁,⟨s1,F1,os1,hq,hR1,hE1⟩,.pass (x:=.inLoop c) rfl (fun _ _=>.inl (by simp)) harr⟩
 intro F os a w hr b kk cs
 obtain⟨e,a',w',hq,harr⟩:=key n0 v0 h0 F os a w hr b kk cs
 exact⟨e,a',w',hq,.of_steps (.one step_loop) harr⟩
end
end Go.Abs

