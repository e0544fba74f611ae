import Derived.Test.YtpahalfiiahddaaAbsO

namespace Go.Abs
open Go
def AQ (P:Program) (s:St) (op:Op) (v:AV):Prop:=∀K:AV→Prop,K v→Gx P s op K
def EL (st:List Row) (v:AV) (ys:List (List AV)):Prop:=∀K:List (List AV)→Prop,K ys→R5 st v K
section
variable {P : Program} {s : St} {x y z c : Operand} {v : AV} {t t' : TypeId} {kk : IntKind} {a b : Int} {p q : Bool}
theorem BO (h:s.ev x=v):AQ P s (.move x) v:=fun K hk=>by show K (s.ev x);rw[h];exact hk
theorem Xu (h:s.ev x=v):AQ P s (.assign x) v:=fun K hk=>by show K (s.ev x);rw[h];exact hk
theorem V0 {x y:AV} {K:AV→Prop} (h:K x):LG (.bool true) x y K:=by
 cases x <;> cases y <;> first | exact h | exact⟨fun _=>h,fun h=>by cases h⟩
theorem V1 {x y:AV} {K:AV→Prop} (h:K y):LG (.bool false) x y K:=by
 cases x <;> cases y <;> first | exact h | exact⟨fun h=>(by cases h),fun _=>h⟩
theorem Hm (hc:s.ev c=.bool p) (hp:p=true) (hx:s.ev x=v):AQ P s (.pick c x y) v:=fun K hk=>by
 show LG (s.ev c) (s.ev x) (s.ev y) K
 rw[hc,hp,hx];exact V0 hk
theorem IC (hc:s.ev c=.bool p) (hp:p=false) (hy:s.ev y=v):AQ P s (.pick c x y) v:=fun K hk=>by
 show LG (s.ev c) (s.ev x) (s.ev y) K
 rw[hc,hp,hy];exact V1 hk
variable (hx : s.ev x = .int kk a) (hy : s.ev y = .int kk b)
include hx hy
theorem FT {op:BinOp} (h :∀K:AV→Prop,K v→Sa op kk a b K):AQ P s (.binOp op t x y t') v:=fun K hk=>by
 show QB P t op (s.ev x) (s.ev y) K
 rw[hx,hy];exact⟨rfl,h K hk⟩
theorem Vf:AQ P s (.binOp .add t x y t') (.int kk (Sh.wk kk (a+b))):=FT hx hy fun _ hk=>hk
theorem V3:AQ P s (.binOp .sub t x y t') (.int kk (Sh.wk kk (a - b))):=FT hx hy fun _ hk=>hk
theorem VU:AQ P s (.binOp .mul t x y t') (.int kk (Sh.wk kk (a * b))):=FT hx hy fun _ hk=>hk
theorem Ns {q:Int} (h:Sh.rem a b=some q):AQ P s (.binOp .rem t x y t') (.int kk q):=FT hx hy fun _ hk=>by
 obtain⟨h1,rfl⟩:=Sh.U2 h
 exact⟨h1,hk⟩
theorem X8:AQ P s (.binOp .lss t x y t') (.bool (decide (a < b))):=FT hx hy fun _ hk=>hk
theorem XY:AQ P s (.binOp .leq t x y t') (.bool (decide (a≤b))):=FT hx hy fun _ hk=>hk
theorem Xo:AQ P s (.binOp .gtr t x y t') (.bool (decide (b < a))):=FT hx hy fun _ hk=>hk
theorem YB:AQ P s (.binOp .geq t x y t') (.bool (decide (b≤a))):=FT hx hy fun _ hk=>hk
theorem X7:AQ P s (.binOp .eql t x y t') (.bool (decide (a=b))):=FT hx hy fun _ hk=>hk
theorem Xm:AQ P s (.binOp .neq t x y t') (.bool (!decide (a=b))):=FT hx hy fun _ hk=>hk
end
section
variable {P : Program} {s : St} {x y z c : Operand} {v : AV} {t t' : TypeId} {kk : IntKind} {a b : Int} {p q : Bool}
variable (hx : s.ev x = i64 a) (hy : s.ev y = i64 b)
include hx hy
theorem R3:AQ P s (.binOp .add t x y t') (i64 (Sh.w (a+b))):=FT hx hy fun _ hk=>hk
theorem KY:AQ P s (.binOp .sub t x y t') (i64 (Sh.w (a - b))):=FT hx hy fun _ hk=>hk
theorem WQ:AQ P s (.binOp .mul t x y t') (i64 (Sh.w (a * b))):=FT hx hy fun _ hk=>hk
theorem Wt:AQ P s (.binOp .xor t x y t') (i64 (Sh.xor a b)):=FT hx hy fun _ hk=>hk
theorem PZ {q:Int} (h:Sh.quo a b=some q):AQ P s (.binOp .quo t x y t') (i64 q):=FT hx hy fun _ hk=>by
 obtain⟨h1,rfl⟩:=Sh.U6 h
 exact⟨h1,hk⟩
theorem PJ (h:b≠0):AQ P s (.binOp .quo t x y t') (i64 (Sh.w (a.tdiv b))):=FT hx hy fun _ hk=>⟨h,hk⟩
end
section
variable {P : Program} {s : St} {x y z c : Operand} {v : AV} {t t' : TypeId} {kk kk' : IntKind} {a b : Int} {p q ag : Bool} {id g i off off' f size sz bytes m j : Nat} {cs vs : List AV} {xs : List (List AV)} {el : TypeId}
theorem Wz (ht:Jl P t=true) (hx:s.ev x=.bool p) (hy:s.ev y=.bool q):AQ P s (.binOp .eql t x y t') (.bool (p == q)):=fun K hk=>by
 show QB P t .eql (s.ev x) (s.ev y) K
 rw[hx,hy];exact⟨ht,hk⟩
theorem Wf (ht:Jl P t=true) (hx:s.ev x=.bool p) (hy:s.ev y=.bool q):AQ P s (.binOp .neq t x y t') (.bool (p != q)):=fun K hk=>by
 show QB P t .neq (s.ev x) (s.ev y) K
 rw[hx,hy];exact⟨ht,hk⟩
theorem Wb (hx:s.ev x=.bool p):AQ P s (.unOp .not t x) (.bool (!p)):=fun K hk=>by
 show U1 .not (s.ev x) K
 rw[hx];exact hk
theorem WR (hx:s.ev x=i64 a):AQ P s (.unOp .neg t x) (i64 (Sh.w (-a))):=fun K hk=>by
 show U1 .neg (s.ev x) K
 rw[hx];exact hk
def Tt (P:Program) (src dst:TypeId):Option IntKind:=
 match P.underlying src,P.underlying dst with
 | some _,some (.int k)=>some k
 | _,_=>none
theorem TQ (hc:Tt P t t'=some kk') (hx:s.ev x=.int kk a):AQ P s (.convert t t' x) (.int kk' (Sh.wk kk' a)):=fun K hk=>by
 show P1 P t t' (s.ev x) K
 rw[hx]
 unfold Tt at hc
 unfold P1
 split at hc
 ·rename_i h1 h2
  simp only[Option.some.injEq] at hc
  subst hc
  simp only[h1,h2];exact hk
 ·cases hc
theorem Xt (hx:s.ev x=.CA vs) (hv:vs[i]?=some v):AQ P s (.extract x i) v:=fun K hk=>by
 show Ll (s.ev x) i K
 rw[hx];exact Aq v hv hk
theorem VP {fn:FuncId} {caps:Array Operand} (hc:caps.toList.map s.ev=cs):AQ P s (.makeFunc (.func fn) #[] caps) (.fn fn cs):=fun K hk=>by
 subst hc;exact⟨rfl,hk⟩
theorem FR (ht:D7 P t=some (false,sz)) (hx:s.ev x=.Al cs off) (hv:cs[off]?=some v):AQ P s (.load t x) v:=fun K hk=>by
 show LY P s.st t (s.ev x) K
 rw[hx];exact Aq _ ht (Aq v hv hk)
theorem Ff (ht:D7 P t=some (true,sz)) (hx:s.ev x=.Al cs off) (hl:off+sz≤cs.length) (hv:(cs.drop off).take sz=vs):AQ P s (.load t x) (.agg vs):=fun K hk=>by
 show LY P s.st t (s.ev x) K
 rw[hx];subst hv;exact Aq _ ht ⟨hl,hk⟩
theorem B5 (ht:D7 P t=some (false,sz)) (hx:s.ev x=.ptr id g i off) (hr:s.st[id]?=some ⟨g,el,size,xs⟩) (hi:xs[i]?=some cs) (hv:cs[off]?=some v):AQ P s (.load t x) v:=fun K hk=>by
 show LY P s.st t (s.ev x) K
 rw[hx];exact Aq _ ht (Aq _ hr ⟨rfl,Aq cs hi (Aq v hv hk)⟩)
theorem BD (ht:D7 P t=some (true,sz)) (hx:s.ev x=.ptr id g i off) (hr:s.st[id]?=some ⟨g,el,size,xs⟩) (hi:xs[i]?=some cs) (hl:off+sz≤cs.length) (hv:(cs.drop off).take sz=vs):AQ P s (.load t x) (.agg vs):=fun K hk=>by
 show LY P s.st t (s.ev x) K
 rw[hx];subst hv;exact Aq _ ht (Aq _ hr ⟨rfl,Aq cs hi ⟨hl,hk⟩⟩)
theorem Fk (hf:HR P t f=some j) (hx:s.ev x=.Al cs off) (ho:off+j=off'):AQ P s (.fieldAddr t x f) (.Al cs off'):=fun K hk=>by
 show IQ P t (s.ev x) f s.st K
 rw[hx];subst ho;exact Aq _ hf hk
theorem Fl (hf:HR P t f=some j) (hx:s.ev x=.ptr id g i off) (hr:s.st[id]?=some ⟨g,el,size,xs⟩) (hl:off+j≤size) (ho:off+j=off'):AQ P s (.fieldAddr t x f) (.ptr id g i off'):=fun K hk=>by
 show IQ P t (s.ev x) f s.st K
 rw[hx];subst ho;exact Aq _ hf (Aq _ hr ⟨rfl,hl,hk⟩)
def OS (P:Program) (t:TypeId) (f:Nat):Option (Nat×Bool×Nat):=
 match P.underlying t with
 | some (.struct fs)=>match fs[f]? with
  | some g=>match D7 P g.type with
   | some ti=>some (g.offset,ti)
   | none=>none
  | none=>none
 | _=>none
theorem Pe {f:Nat} {o:Nat} {ti:Bool×Nat} {K:AV→Prop} (h:OS P t f=some (o,ti)) (hk:Hw ti.1 ti.2 cs o K):JZ P t (.agg cs) f K:=by
 unfold OS at h
 unfold JZ
 split at h
 ·rename_i fs hu
  split at h
  ·rename_i gg hg
   split at h
   ·rename_i ti' ht
    simp only[Option.some.injEq,Prod.mk.injEq] at h
    obtain⟨rfl,rfl⟩:=h
    rw[hu]
    exact Aq _ hg (Aq _ ht hk)
   ·cases h
  ·cases h
 ·cases h
theorem Xp (hf:OS P t f=some (off,false,sz)) (hx:s.ev x=.agg cs) (hv:cs[off]?=some v):AQ P s (.field t x f) v:=fun K hk=>by
 show JZ P t (s.ev x) f K
 rw[hx];exact Pe hf (Aq v hv hk)
theorem Wh (hf:OS P t f=some (off,true,sz)) (hx:s.ev x=.agg cs) (hl:off+sz≤cs.length) (hv:(cs.drop off).take sz=vs):AQ P s (.field t x f) (.agg vs):=fun K hk=>by
 show JZ P t (s.ev x) f K
 rw[hx];subst hv;exact Pe hf ⟨hl,hk⟩
variable {α : Type} {l l' : List α} {enc : α → List AV} {n : Int} {zz : List AV} {u : α}
theorem By (h:Sh.get l n=some u):(l.map enc)[n.toNat]?=some (enc u):=by
 rw[List.getElem?_map,(Sh.get_some h).2.1];rfl
theorem CV (he:DS P t=some ⟨el,size,bytes,zz⟩) (hx:s.ev x=.sl (l.map enc)) (hy:s.ev y=.int kk n) (hg:Sh.get l n=some u) (hs:(enc u).length=size):AQ P s (.indexAddr t x y) (.Al (enc u) 0):=fun K hk=>by
 show IL P s.st t (s.ev x) (s.ev y) K
 rw[hx,hy];exact Aq _ he ⟨(Sh.get_some hg).1,Aq _ (By hg) ⟨hs,hk⟩⟩
theorem Br (he:DS P t=some ⟨el,size,bytes,zz⟩) (hx:s.ev x=.own id g m) (hy:s.ev y=.int kk n) (hr:s.st[id]?=some ⟨g,el,size,l.map enc⟩) (hm:m=l.length) (hg:Sh.get l n=some u) :
  AQ P s (.indexAddr t x y) (.ptr id g n.toNat 0):=fun K hk=>by
 show IL P s.st t (s.ev x) (s.ev y) K
 rw[hx,hy];subst hm;exact Aq _ he ⟨(Sh.get_some hg).1,(Sh.get_some hg).2.2,Aq _ hr ⟨rfl,rfl,by simpa using hk⟩⟩
theorem B9 (hs:DL P t=true) (hx:s.ev x=.sl (l.map enc)):AQ P s (.call ⟨.builtin .len,#[x],#[t]⟩) (i64 (Sh.len l)):=fun K hk=>by
 refine⟨hs,?_⟩
 rw[hx];simp only[UD,List.length_map];exact hk
theorem Ch (hs:DL P t=true) (hx:s.ev x=.own id g m) (hr:s.st[id]?=some ⟨g,el,size,l.map enc⟩) (hm:m=l.length):AQ P s (.call ⟨.builtin .len,#[x],#[t]⟩) (i64 (Sh.len l)):=fun K hk=>by
 refine⟨hs,?_⟩
 subst hm
 rw[hx];exact Aq _ hr ⟨rfl,hk⟩
theorem S7 (hs:DL P t=true) (hx:s.ev x=.zc):AQ P s (.call ⟨.builtin .len,#[x],#[t]⟩) (i64 0):=fun K hk=>by
 refine⟨hs,?_⟩
 rw[hx];exact hk
theorem WO (hx:s.ev x=.ptr id g i off) (hr:s.st[id]?=some ⟨g,el,size,xs⟩):AQ P s (.nilCheck x) (.ptr id g i off):=fun K hk=>by
 show Q8 s.st (s.ev x) K
 rw[hx];exact Aq _ hr ⟨rfl,hk⟩
theorem Wq (hx:s.ev x=.Al cs off):AQ P s (.nilCheck x) (.Al cs off):=fun K hk=>by
 show Q8 s.st (s.ev x) K
 rw[hx];exact hk
theorem Dy {parts:Array (Nat×Operand)} {fs:List (Nat×Nat)} {pv:List (Nat×AV)} (ha:Gr P t=true) (hf:Hh P t=some fs) (hz:Ge P t=some zz) (hp:(parts.toList.map fun p=>(p.1,s.ev p.2))=pv) (hc:JF (fs[·]?) zz pv=some cs) :
  AQ P s (.build t parts) (.agg cs):=fun K hk=>by
 show SE P t (parts.toList.map fun p=>(p.1,s.ev p.2)) K
 rw[hp];exact⟨ha,Aq _ hf (Aq _ hz (Aq _ hc hk))⟩
variable {st : List Row} {ys : List (List AV)}
theorem NZ:EL st (.sl ys) ys:=fun _ hk=>hk
theorem EP (hr:st[id]?=some ⟨g,el,size,l.map enc⟩) (hm:m=l.length) (hlf :∀x,(enc x).all AV.leaf=true:=by exact fun _=>rfl):EL st (.own id g m) (l.map enc):=fun K hk=>by
 subst hm
 refine Aq _ hr ⟨rfl,fun y hy c hc=>?_,?_⟩
 ·obtain⟨x,_,rfl⟩:=List.mem_map.1 hy
  exact List.all_eq_true.1 (hlf x) c hc
 rw[← List.length_map (f:=enc) (as:=l),List.take_length];exact⟨rfl,hk⟩
end
section
variable {P : Program} {k : Nat} {ops : Array Oper} {Q : Exit → St → Prop} {ds : List (Option Tmp)} {r : List Oper} {n : Nat} {e : Nat → AV} {st st' : List Row} {op : Op} {ty : TypeId} {ps : String} {ed : Array Edge} {d : Option Tmp} {t : Tmp} {v v' : AV}
variable {jj : Nat} {want b : Bool} {tg : Tmp} {gd : Option (Nat × Bool)}
def GO (ds:List (Option Tmp)) (gd:Option (Nat×Bool)) (e:Nat→AV):Prop:=
 match gd with
 | none=>True
 | some (jj,want)=>∃tg,ds[jj]?=some (some tg)∧e tg=.bool want
theorem AK:GO ds none e:=trivial
theorem B0 (hj:ds[jj]?=some (some tg)) (ht:e tg=.bool b) (hb:b=want):GO ds (some (jj,want)) e:=⟨tg,hj,by rw[ht,hb]⟩
theorem GO.guard {A B:Prop} (hg:GO ds gd e) (h:A):GH ds ⟨d,op,ty,ps,ed,gd⟩ ⟨n,e,st⟩ A B:=by
 unfold GO at hg
 unfold GH
 cases gd with
 | none=>exact h
 | some q=>
  obtain⟨jj,want⟩:=q
  obtain⟨tg,hj,ht⟩:=hg
  simp only[hj,ht,Sj]
  exact⟨fun _=>h,fun hh=>absurd rfl hh⟩
theorem B3 (hg:GO ds gd e) (hl:Hr op=false) (hq:AQ P ⟨n,e,st⟩ op v) (hk:AO P k ops Q (ds ++ [some t]) r ⟨n,D9 e t v,st⟩):AO P k ops Q ds (⟨some t,op,ty,ps,ed,gd⟩ :: r) ⟨n,e,st⟩:=by
 refine KI (hg.guard ?_)
 unfold H0
 simp only[hl,Bool.false_eq_true,if_false]
 exact hq _ hk
theorem JL (hg:GO ds gd e) (h:H0 P k ⟨d,op,ty,ps,ed,gd⟩ ⟨n,e,st⟩ (AO P k ops Q (ds ++ [d]) r)):AO P k ops Q ds (⟨d,op,ty,ps,ed,gd⟩ :: r) ⟨n,e,st⟩:=
 KI (hg.guard h)
theorem Vc (hj:ds[jj]?=some (some tg)) (ht:e tg=.bool b) (hb:b=!want) (h:AO P k ops Q (ds ++ [some t]) r ⟨n,D9 e t .un,st⟩):AO P k ops Q ds (⟨some t,op,ty,ps,ed,some (jj,want)⟩ :: r) ⟨n,e,st⟩:=by
 refine KI ?_
 subst hb
 simp only[GH,hj,ht,Sj]
 exact⟨fun h=>(by cases want <;> cases h),fun _=>h⟩
theorem Vu (hj:ds[jj]?=some (some tg)) (ht:e tg=.un) (h:AO P k ops Q (ds ++ [some t]) r ⟨n,D9 e t .un,st⟩):AO P k ops Q ds (⟨some t,op,ty,ps,ed,some (jj,want)⟩ :: r) ⟨n,e,st⟩:=by
 refine KI ?_
 simp only[GH,hj,ht,Sj]
 exact h
variable {KS : St → Prop}
theorem A9 (hg:GO ds gd e) (hl:Hr op=false) (hq:AQ P ⟨n,e,st⟩ op v) (hk:Co P (ds ++ [some t]) r KS ⟨n,D9 e t v,st⟩):Co P ds (⟨some t,op,ty,ps,ed,gd⟩ :: r) KS ⟨n,e,st⟩:=by
 refine hg.guard ?_
 unfold H8
 simp only[hl,Bool.false_eq_true,if_false]
 exact hq _ hk
theorem Ui (hg:GO ds gd e) (hl:Hr op=true) (hq :∀s0:St,s0.st=st→(∀x∈op.operands,s0.ev x=St.ev ⟨n,e,st⟩ x)→Dd s0.n (some t)=true→Yl P ⟨some t,op,ty,ps,ed,gd⟩ s0 v) (hk:Co P (ds ++ [some t]) r KS ⟨n,D9 e t v,st⟩):Co P ds (⟨some t,op,ty,ps,ed,gd⟩ :: r) KS ⟨n,e,st⟩:=by
 refine hg.guard ?_
 unfold H8
 simp only[hl,if_true]
 exact⟨v,hq,hk⟩
theorem Wm (hj:ds[jj]?=some (some tg)) (ht:e tg=.bool b) (hb:b=!want) (h:Co P (ds ++ [some t]) r KS ⟨n,D9 e t .un,st⟩):Co P ds (⟨some t,op,ty,ps,ed,some (jj,want)⟩ :: r) KS ⟨n,e,st⟩:=by
 subst hb
 simp only[Co,GH,hj,ht,Sj]
 exact⟨fun h=>(by cases want <;> cases h),fun _=>h⟩
theorem AR {s:St} (h:KS s):Co P ds [] KS s:=h
theorem NR {ars:Array Operand} {f:FuncId} {ts:Array TypeId} {s0 s1:St} (h :∀x∈(Op.call ⟨.value (.func f),ars,ts⟩).operands,s0.ev x=s1.ev x):ars.toList.map s0.ev=ars.toList.map s1.ev:=
 List.map_congr_left fun x hx=>h x (by simp[Op.operands,Call.operands];right;simpa using hx)
theorem BX {f:FuncId} {ars:Array Operand} {ts:Array TypeId} {args:List AV} (hg:GO ds gd e) (hb:Au P f=true) (hc:Aj P f args [] fun r st=>r=v∧st=[]) (ha:ars.toList.map (St.ev ⟨n,e,st⟩) ++ []=args) (hf:args.all flat=true) (hv:flat v=true)
  (hk:Co P (ds ++ [some t]) r KS ⟨n,D9 e t v,st⟩):Co P ds (⟨some t,.call ⟨.value (.func f),ars,ts⟩,ty,ps,ed,gd⟩ :: r) KS ⟨n,e,st⟩:=by
 refine Ui hg rfl (fun s0 e1 e2 hd k F os a w hr next Q hn=>?_) hk
 refine H3 (k:=k) (K:=(·=s0.put (some t) v)) hr hd ?_ hn
 show Au P f=true∧callThen P k s0 f (ars.toList.map s0.ev ++ []) (some t) _
 rw[NR e2,ha]
 exact⟨hb,O8 hc hf hv rfl⟩
variable {α : Type} {l l' l2 : List α} {enc : α → List AV} {kk kk' : IntKind} {j : Int} {el T : TypeId} {size bytes sz id g i m off : Nat} {zz cs us : List AV} {x y : Operand} {xs : List (List AV)} {ag : Bool} {u u' : α}
theorem A0 (hg:GO ds gd e) (hz:Ge P T=some zz) (hm:st.length=m) (hst:st ++ [⟨0,T,zz.length,[zz]⟩]=st') (hk:AO P k ops Q (ds ++ [some t]) r ⟨n,D9 e t (.ptr m 0 0 0),st'⟩):AO P k ops Q ds (⟨some t,.alloc T,ty,ps,ed,gd⟩ :: r) ⟨n,e,st⟩:=by
 subst hm;subst hst
 exact JL hg (Aq _ hz hk)
theorem Bj (hg:GO ds gd e) (hx:St.ev ⟨n,e,st⟩ x=v) (hc:ID v=some cs) (hne:cs.isEmpty=false) (hm:st.length=m) (hst:st ++ [⟨0,T,cs.length,[cs]⟩]=st') (hk:AO P k ops Q (ds ++ [some t]) r ⟨n,D9 e t (.ptr m 0 0 0),st'⟩):AO P k ops Q ds (⟨some t,.box T x,ty,ps,ed,gd⟩ :: r) ⟨n,e,st⟩:=by
 subst hm;subst hst;subst hx
 exact JL hg (Aq _ hc ⟨(by intro h;rw[h] at hne;cases hne),hk⟩)
theorem Az (hg:GO ds gd e) (ht:D7 P T=some (ag,sz)) (hx:St.ev ⟨n,e,st⟩ x=.ptr id g i off) (hr:st[id]?=some ⟨g,el,size,xs⟩) (hi:xs[i]?=some zz) (hv:St.ev ⟨n,e,st⟩ y=v) (hc:ID v=some cs) (hn:cs.length=sz) (hle:off+cs.length≤size)
  (hst:st.set id ⟨g,el,size,xs.set i (FF zz off cs)⟩=st') (hk:AO P k ops Q (ds ++ [none]) r ⟨n,e,st'⟩):AO P k ops Q ds (⟨none,.store T x y,ty,ps,ed,gd⟩ :: r) ⟨n,e,st⟩:=by
 subst hst;subst hv
 refine JL hg ?_
 rw[Ut,hx];exact Aq _ ht (Aq _ hr ⟨rfl,Aq _ hi (Aq _ hc ⟨hn,hle,hk⟩)⟩)
theorem VN {j:Int}:(l.map enc).set j.toNat (enc u)=(Sh.put l j u).map enc:=by simp[Sh.put,List.map_set]
theorem HM (hg:GO ds gd e) (ht:D7 P T=some (ag,sz)) (hx:St.ev ⟨n,e,st⟩ x=.ptr id g j.toNat off) (hr:st[id]?=some ⟨g,el,size,l.map enc⟩) (hi:Sh.get l j=some u) (hv:St.ev ⟨n,e,st⟩ y=v) (hc:ID v=some cs) (hn:cs.length=sz) (hle:off+cs.length≤size)
  (hsp:FF (enc u) off cs=enc u') (hst:st.set id ⟨g,el,size,(Sh.put l j u').map enc⟩=st') (hk:AO P k ops Q (ds ++ [none]) r ⟨n,e,st'⟩):AO P k ops Q ds (⟨none,.store T x y,ty,ps,ed,gd⟩ :: r) ⟨n,e,st⟩:=
 Az hg ht hx hr (By hi) hv hc hn hle (by rw[hsp,VN];exact hst) hk
theorem Qd (hg:GO ds gd e) (he:DS P T=some ⟨el,size,bytes,zz⟩) (hx:St.ev ⟨n,e,st⟩ x=.int kk j) (hy:St.ev ⟨n,e,st⟩ y=.int kk' j) (hz:enc u=zz) (hl:Sh.mk u j bytes=some l) (hm:st.length=m) (hst:st ++ [⟨0,el,size,l.map enc⟩]=st')
  (hk:AO P k ops Q (ds ++ [some t]) r ⟨n,D9 e t (.own m 0 l.length),st'⟩):AO P k ops Q ds (⟨some t,.makeSlice T x y,ty,ps,ed,gd⟩ :: r) ⟨n,e,st⟩:=by
 subst hm;subst hst;subst hz
 refine JL hg ?_
 rw[Q0]
 unfold Sh.mk at hl
 split at hl
 ·rename_i h
  simp only[Option.some.injEq] at hl
  subst hl
  rw[hx,hy]
  simp only[List.map_replicate,List.length_replicate] at hk
  exact Aq _ he ⟨rfl,h.1,h.2.1,h.2.2,hk⟩
 ·cases hl
theorem A8 {len:Nat} {parts:Array (Nat×Operand)} {pv:List (Nat×AV)} (hg:GO ds gd e) (he:DS P T=some ⟨el,size,bytes,zz⟩) (hle:len * size≤16777216) (hp:(parts.toList.map fun p=>(p.1,St.ev ⟨n,e,st⟩ p.2))=pv)
  (hc:JF (fun i=>some (i * size,size)) ((List.replicate len zz).flatten) pv=some cs) (hck:chunk size len cs=l.map enc) (hln:len=l.length) (hm:st.length=m) (hst:st ++ [⟨0,el,size,l.map enc⟩]=st') (hk:AO P k ops Q (ds ++ [some t]) r ⟨n,D9 e t (.own m 0 l.length),st'⟩) :
  AO P k ops Q ds (⟨some t,.buildSlice T len parts,ty,ps,ed,gd⟩ :: r) ⟨n,e,st⟩:=by
 subst hm;subst hst;subst hln
 refine JL hg ?_
 rw[Py,hp];exact Aq _ he ⟨hle,Aq _ hc (by rw[hck];exact hk)⟩
theorem CL {ys:AV} (hg:GO ds gd e) (he:DS P T=some ⟨el,size,bytes,zz⟩) (hx:St.ev ⟨n,e,st⟩ x=.own id g m) (hr:st[id]?=some ⟨g,el,size,l.map enc⟩) (hm:m=l.length) (hy:St.ev ⟨n,e,st⟩ y=ys) (hel:EL st ys (l2.map enc)) (hs :∀a,(enc a).length=size) (ha:Sh.app l l2 bytes=some l')
  (hst:st.set id ⟨g+1,el,size,l'.map enc⟩=st') (hk:AO P k ops Q (ds ++ [some t]) r ⟨n,D9 e t (.own id (g+1) l'.length),st'⟩):AO P k ops Q ds (⟨some t,.call ⟨.builtin .append,#[x,y],#[T,T]⟩,ty,ps,ed,gd⟩ :: r) ⟨n,e,st⟩:=by
 subst hst;subst hy;subst hm
 refine JL hg ?_
 rw[TM]
 refine⟨rfl,?_⟩
 rw[hx]
 unfold Sh.app at ha
 split at ha
 ·rename_i h
  simp only[Option.some.injEq] at ha
  subst ha
  refine Aq _ he (hel _ ⟨fun z hz=>?_,Aq _ hr ⟨rfl,(List.length_map _).symm,rfl,rfl,by simpa using h.1,by simpa using h.2,?_⟩⟩)
  ·obtain⟨q,_,rfl⟩:=List.mem_map.1 hz;exact hs q
  ·have e1:(l.map enc).take l.length=l.map enc:=by rw[← List.length_map (f:=enc) (as:=l),List.take_length]
   have e2:l.length+(l2.map enc).length=(l ++ l2).length:=by simp
   simp only[e1,e2,← List.map_append]
   exact hk
 ·cases ha
theorem UQ {hop:Operand} (hg:GO ds gd e) (he:DS P T=some ⟨el,size,bytes,zz⟩) (hx:St.ev ⟨n,e,st⟩ x=.own id g m) (hr:st[id]?=some ⟨g,el,size,l.map enc⟩) (hm:m=l.length) (hh:St.ev ⟨n,e,st⟩ hop=.int kk j) (hl:Sh.hi l j=some l')
  (hst:st.set id ⟨g+1,el,size,l'.map enc⟩=st') (hk:AO P k ops Q (ds ++ [some t]) r ⟨n,D9 e t (.own id (g+1) l'.length),st'⟩):AO P k ops Q ds (⟨some t,.slice T x none (some hop) none,ty,ps,ed,gd⟩ :: r) ⟨n,e,st⟩:=by
 subst hst;subst hm
 refine JL hg ?_
 rw[N6]
 simp only[Option.map_some,Option.map_none]
 rw[hx,hh]
 unfold Sh.hi at hl
 split at hl
 ·rename_i h
  simp only[Option.some.injEq] at hl
  subst hl
  refine Aq _ he (Aq _ hr ⟨rfl,(List.length_map _).symm,rfl,Aq _ rfl ⟨h.1,h.2,?_⟩⟩)
  have e1:(l.take j.toNat).length=j.toNat:=by rw[List.length_take];omega
  rw[e1,List.map_take] at hk
  exact hk
 ·cases hl
theorem NC {lo hi:Option Operand} {i j:Int} (hg:GO ds gd e) (he:DS P T=some ⟨el,size,bytes,zz⟩) (hx:St.ev ⟨n,e,st⟩ x=.sl (l.map enc)) (h1:N7 (lo.map (St.ev ⟨n,e,st⟩)) 0=some i) (h2:N7 (hi.map (St.ev ⟨n,e,st⟩)) l.length=some j) (hs :∀a,(enc a).length=size) (hl:Sh.sl l i j=some l')
  (hk:AO P k ops Q (ds ++ [some t]) r ⟨n,D9 e t (.sl (l'.map enc)),st⟩):AO P k ops Q ds (⟨some t,.slice T x lo hi none,ty,ps,ed,gd⟩ :: r) ⟨n,e,st⟩:=by
 refine JL hg ?_
 rw[N6]
 simp only[Option.map_none]
 rw[hx]
 unfold Sh.sl at hl
 split at hl
 ·rename_i h
  simp only[Option.some.injEq] at hl
  subst hl
  refine Aq _ he (Aq _ h1 (Aq _ (by rw[List.length_map];exact h2) ⟨h.1,h.2.1,by simpa using h.2.2,fun z hz=>?_,?_⟩))
  ·obtain⟨q,_,rfl⟩:=List.mem_map.1 hz;exact hs q
  ·rw[List.map_drop,List.map_take] at hk
   exact hk
 ·cases hl
theorem W1 (hg:GO ds gd e) (hs:DL P T=true) (hx:St.ev ⟨n,e,st⟩ x=.sl (l.map enc)) (h1:l=[]→AO P k ops Q (ds ++ [some t]) r ⟨n,D9 e t (.bool true),st⟩) (h2:AO P k ops Q (ds ++ [some t]) r ⟨n,D9 e t (.bool false),st⟩) {yT:TypeId} :
  AO P k ops Q ds (⟨some t,.binOp .eql T x (.const (.slice none 0 0)) yT,ty,ps,ed,gd⟩ :: r) ⟨n,e,st⟩:=by
 refine JL hg ?_
 rw[TL]
 refine⟨hs,?_⟩
 rw[hx]
 exact⟨fun h=>h1 (List.map_eq_nil_iff.1 h),h2⟩
def QD:List Row→Prop
 | []=>True
 | row :: r=>Cj row.xs∧QD r
theorem QD.get :∀{l:List Row},QD l→∀row∈l,Cj row.xs
 | row :: r,h,row',hm=>by
  rcases List.mem_cons.1 hm with rfl | hm
  ·exact h.1
  ·exact QD.get h.2 row' hm
variable {f : FuncId} {ars : Array Operand} {ts : Array TypeId} {args : List AV} {rows : List Row} {s : St}
theorem CC (hg:GO ds gd e) (hb:Au P f=true) (hc:Aj P f args [] fun r st=>r=v∧st=rows) (ha:ars.toList.map (St.ev ⟨n,e,st⟩) ++ []=args) (hf:args.all flat=true) (hp:QD rows) (hv:shift st.length v=v') (hst:st ++ rows=st')
  (hk:AO P k ops Q (ds ++ [d]) r (St.put ⟨n,e,st'⟩ d v')):AO P k ops Q ds (⟨d,.call ⟨.value (.func f),ars,ts⟩,ty,ps,ed,gd⟩ :: r) ⟨n,e,st⟩:=by
 subst hv;subst hst;subst ha
 refine JL hg ?_
 rw[Jf]
 refine⟨hb,QA hc hf ?_⟩
 rintro r st' ⟨rfl,rfl⟩
 exact⟨hp.get,hk⟩
theorem Ua {g:Nat} {enc':α→List AV} (hr:st[id]?=some ⟨g,el,size,l.map enc⟩) (hu :∀x,JK (enc x)=enc' x):Nr st (.own id g l.length)=.sl (l.map enc'):=by
 simp only[Nr,hr,if_true]
 rw[← List.length_map (f:=enc) (as:=l),Nat.sub_self,List.drop_zero,Gl,List.map_map]
 congr 1
 exact List.map_congr_left fun x _=>hu x
theorem NT {cs:List AV} (h:cs.all simple=true):JK cs=cs:=by
 rw[J6]
 exact (List.map_congr_left (g:=id) fun c hc=>Ot (List.all_eq_true.1 h c hc)).trans (List.map_id _)
inductive BC (st:List Row):List AV→List AV→Prop
 | nil:BC st [] []
 | own {α:Type} {l:List α} {enc:α→List AV} {id g size m:Nat} {el:TypeId} {as bs:List AV} (hr:st[id]?=some ⟨g,el,size,l.map enc⟩) (hm:m=l.length) (hp :∀x,(enc x).all simple=true) (h:BC st as bs):BC st (.own id g m :: as) (.sl (l.map enc) :: bs)
 | ownD {α:Type} {l:List α} {enc enc':α→List AV} {id g size m:Nat} {el:TypeId} {as bs:List AV} (hr:st[id]?=some ⟨g,el,size,l.map enc⟩) (hm:m=l.length) (hp :∀x,(enc x).all Dk=true) (hu :∀x,JK (enc x)=enc' x) (h:BC st as bs):BC st (.own id g m :: as) (.sl (l.map enc') :: bs)
 | val {v:AV} {as bs:List AV} (hv:simple v=true) (h:BC st as bs):BC st (v :: as) (v :: bs)
inductive BA (st:List Row):List AV→List AV→Prop
 | nil:BA st [] []
 | own {α:Type} {l:List α} {enc:α→List AV} {id g size m:Nat} {el:TypeId} {as bs:List AV} (hr:st[id]?=some ⟨g,el,size,l.map enc⟩) (hm:m=l.length) (hp :∀x,(enc x).all simple=true) (h:BA st as bs):BA st (.own id g m :: as) (.sl (l.map enc) :: bs)
 | ownD {α:Type} {l:List α} {enc enc':α→List AV} {id g size m:Nat} {el:TypeId} {as bs:List AV} (hr:st[id]?=some ⟨g,el,size,l.map enc⟩) (hm:m=l.length) (hp :∀x,(enc x).all Dk=true) (hu :∀x,JK (enc x)=enc' x) (h:BA st as bs):BA st (.own id g m :: as) (.sl (l.map enc') :: bs)
 | agg {cs ds:List AV} {as bs:List AV} (hc:BC st cs ds) (h:BA st as bs):BA st (.agg cs :: as) (.agg ds :: bs)
 | val {v:AV} {as bs:List AV} (hv:flat v=true) (h:BA st as bs):BA st (v :: as) (v :: bs)
theorem NB {v:AV} (h:simple v=true):Nr st v=v:=by cases v <;> simp_all [simple,Nr]
theorem BC.spec {as bs:List AV} (h:BC st as bs):as.map (Nr st)=bs∧bs.all simple=true∧∀id g n,AV.own id g n∈as→∀row,st[id]?=some row→Cj row.xs:=by
 induction h with
 | nil=>exact⟨rfl,rfl,by simp⟩
 | own hr hm hp h ih=>
  obtain⟨h1,h2,h3⟩:=ih
  subst hm
  refine⟨by rw[List.map_cons,Ua hr (fun x=>NT (hp x)),h1],by simp[simple,h2],fun id' g' n' hx row hrow=>?_⟩
  rcases List.mem_cons.1 hx with hx | hx
  ·cases hx;rw[hr] at hrow;cases hrow;exact (AD hp).any
  ·exact h3 id' g' n' hx row hrow
 | ownD hr hm hp hu h ih=>
  obtain⟨h1,h2,h3⟩:=ih
  subst hm
  refine⟨by rw[List.map_cons,Ua hr hu,h1],by simp[simple,h2],fun id' g' n' hx row hrow=>?_⟩
  rcases List.mem_cons.1 hx with hx | hx
  ·cases hx;rw[hr] at hrow;cases hrow;exact QS hp
  ·exact h3 id' g' n' hx row hrow
 | @val v as bs hv h ih=>
  obtain⟨h1,h2,h3⟩:=ih
  refine⟨by rw[List.map_cons,NB hv,h1],by simp[hv,h2],fun id' g' n' hx row hrow=>?_⟩
  rcases List.mem_cons.1 hx with hx | hx
  ·subst hx;simp[simple] at hv
  ·exact h3 id' g' n' hx row hrow
theorem BA.spec {as bs:List AV} (h:BA st as bs):as.map (FB st)=bs∧bs.all flat=true∧∀id g n,Ls as id g n→∀row,st[id]?=some row→Cj row.xs:=by
 induction h with
 | nil=>exact⟨rfl,rfl,by rintro id g n (h | ⟨_,h,_⟩) <;> simp at h⟩
 | own hr hm hp h ih=>
  obtain⟨h1,h2,h3⟩:=ih
  subst hm
  refine⟨by rw[List.map_cons,h1];congr 1;exact Ua hr (fun x=>NT (hp x)),by simp[flat,h2],fun id' g' n' hx row hrow=>?_⟩
  rcases hx with hx | ⟨cs,hx,hin⟩
  ·rcases List.mem_cons.1 hx with hx | hx
   ·cases hx;rw[hr] at hrow;cases hrow;exact (AD hp).any
   ·exact h3 id' g' n' (.inl hx) row hrow
  ·rcases List.mem_cons.1 hx with hx | hx
   ·cases hx
   ·exact h3 id' g' n' (.inr ⟨cs,hx,hin⟩) row hrow
 | ownD hr hm hp hu h ih=>
  obtain⟨h1,h2,h3⟩:=ih
  subst hm
  refine⟨by rw[List.map_cons,h1];congr 1;exact Ua hr hu,by simp[flat,h2],fun id' g' n' hx row hrow=>?_⟩
  rcases hx with hx | ⟨cs,hx,hin⟩
  ·rcases List.mem_cons.1 hx with hx | hx
   ·cases hx;rw[hr] at hrow;cases hrow;exact QS hp
   ·exact h3 id' g' n' (.inl hx) row hrow
  ·rcases List.mem_cons.1 hx with hx | hx
   ·cases hx
   ·exact h3 id' g' n' (.inr ⟨cs,hx,hin⟩) row hrow
 | agg hc h ih=>
  obtain⟨h1,h2,h3⟩:=ih
  obtain⟨g1,g2,g3⟩:=hc.spec
  refine⟨by rw[List.map_cons,h1];simp only[FB,g1],by simp only[List.all_cons,h2,Bool.and_true];simpa [flat] using g2,fun id' g' n' hx row hrow=>?_⟩
  rcases hx with hx | ⟨cs,hx,hin⟩
  ·rcases List.mem_cons.1 hx with hx | hx
   ·cases hx
   ·exact h3 id' g' n' (.inl hx) row hrow
  ·rcases List.mem_cons.1 hx with hx | hx
   ·cases hx;exact g3 id' g' n' hin row hrow
   ·exact h3 id' g' n' (.inr ⟨cs,hx,hin⟩) row hrow
 | @val v as bs hv h ih=>
  obtain⟨h1,h2,h3⟩:=ih
  have e1:FB st v=v:=by
   cases v <;> simp[flat] at hv <;> try rfl
   rename_i cs
   simp only[FB]
   congr 1
   exact (List.map_congr_left (g:=id) fun c hc=>NB (hv c hc)).trans (List.map_id _)
  refine⟨by rw[List.map_cons,e1,h1],by simp[hv,h2],fun id' g' n' hx row hrow=>?_⟩
  rcases hx with hx | ⟨cs,hx,hin⟩
  ·rcases List.mem_cons.1 hx with hx | hx
   ·subst hx;simp[flat] at hv
   ·exact h3 id' g' n' (.inl hx) row hrow
  ·rcases List.mem_cons.1 hx with hx | hx
   ·subst hx
    have:=List.all_eq_true.1 (show cs.all simple=true from hv) _ hin
    simp[simple] at this
   ·exact h3 id' g' n' (.inr ⟨cs,hx,hin⟩) row hrow
def KE:List Row→Prop
 | []=>True
 | row :: r=>(Cj row.xs∧∀x∈row.xs,∀c∈x,Jh c=true)∧KE r
theorem KE.get :∀{l:List Row},KE l→∀row∈l,Cj row.xs∧∀x∈row.xs,∀c∈x,Jh c=true
 | row :: r,h,row',hm=>by
  rcases List.mem_cons.1 hm with rfl | hm
  ·exact h.1
  ·exact KE.get h.2 row' hm
theorem Xl {g:Nat} (h :∀x,(enc x).all (fun c=>Dk c && Jh c)=true) (hr:KE rows):KE (⟨g,el,size,l.map enc⟩ :: rows):=by
 refine⟨⟨fun x hx c hc=>?_,fun x hx c hc=>?_⟩,hr⟩ <;>
 ·obtain⟨y,_,rfl⟩:=List.mem_map.1 hx
  have:=List.all_eq_true.1 (h y) c hc
  simp only[Bool.and_eq_true] at this
  first | exact this.1 | exact this.2
theorem XB {g:Nat} (h :∀x,(enc x).all (fun c=>simple c && Jh c)=true) (hr:KE rows):KE (⟨g,el,size,l.map enc⟩ :: rows):=
 Xl (fun x=>List.all_eq_true.2 fun c hc=>by
  have:=List.all_eq_true.1 (h x) c hc
  simp only[Bool.and_eq_true] at this ⊢
  exact⟨Kl this.1,this.2⟩) hr
theorem J2 {as:List AV} (hg:GO ds gd e) (hb:Au P f=true) (hc:Aj P f args [] fun r st=>r=v∧st=rows) (ha:ars.toList.map (St.ev ⟨n,e,st⟩) ++ []=as) (hba:BA st as args) (hsc:UA v=true) (hp:KE rows) (hv:shift st.length v=v') (hst:st ++ rows=st')
  (hk:AO P k ops Q (ds ++ [d]) r (St.put ⟨n,e,st'⟩ d v')):AO P k ops Q ds (⟨d,.call ⟨.value (.func f),ars,ts⟩,ty,ps,ed,gd⟩ :: r) ⟨n,e,st⟩:=by
 subst hv;subst hst;subst ha
 obtain⟨h1,h2,h3⟩:=hba.spec
 refine JL hg ?_
 rw[Jf]
 refine⟨hb,KB (R:=fun r st=>r=v∧st=rows) ?_ ?_ h3 ?_⟩
 ·show Aj P f (List.map (FB st) _) [] _
  rw[h1];exact hc
 ·show (List.map (FB st) _).all flat=true
  rw[h1];exact h2
 ·rintro r st' ⟨rfl,rfl⟩
  exact⟨⟨hsc,fun row hrow=>(hp.get row hrow).2⟩,fun row hrow=>(hp.get row hrow).1,hk⟩
theorem TA {as:List AV} {KS:St→Prop} {t:Tmp} (hg:GO ds gd e) (hb:Au P f=true) (hc:Aj P f args [] fun r st=>r=v∧st=[]) (ha:ars.toList.map (St.ev ⟨n,e,st⟩) ++ []=as) (hba:BA st as args) (hsc:UA v=true) (hv:shift st.length v=v')
  (hk:Co P (ds ++ [some t]) r KS ⟨n,D9 e t v',st⟩):Co P ds (⟨some t,.call ⟨.value (.func f),ars,ts⟩,ty,ps,ed,gd⟩ :: r) KS ⟨n,e,st⟩:=by
 subst hv;subst ha
 obtain⟨h1,h2,h3⟩:=hba.spec
 refine Ui hg rfl (fun s0 e1 e2 hd k F os a w hr next Q hn=>?_) hk
 refine H3 (k:=k) (K:=(·=s0.put (some t) (shift st.length v))) hr hd ?_ hn
 show Au P f=true∧callThen P k s0 f (ars.toList.map s0.ev ++ []) (some t) _
 rw[NR e2]
 refine⟨hb,?_⟩
 subst e1
 refine KB (R:=fun r st'=>r=v∧st'=[]) ?_ ?_ h3 ?_
 ·show Aj P f (List.map (FB s0.st) _) [] _
  rw[h1];exact hc
 ·show (List.map (FB s0.st) _).all flat=true
  rw[h1];exact h2
 ·rintro r st' ⟨rfl,rfl⟩
  refine⟨⟨hsc,by simp⟩,by simp,?_⟩
  rw[List.append_nil]
end
section
variable {P : Program} {k : Nat} {Q : Exit → St → Prop} {s s' : St} {x y c : Code}
theorem LL {o:Operand} {b:Bool} (ho:s.ev o=.bool b) (h1:b=true→AW P k x Q s) (h2:b=false→AW P k y Q s):AW P k (.cond o x y) Q s:=
 AW.cond fun K1 K2 e1 e2=>by rw[ho];exact⟨fun h=>e1 (h1 h),fun h=>e2 (h2 h)⟩
theorem A5 {σ:Type} (I:Nat→σ→Prop) (canon:σ→St) (n0:Nat) (v0:σ) (h0:I n0 v0) (hw:Wk k s (canon v0)) (hz :∀v,¬ I 0 v)
  (round :∀n v,I (n+1) v→AW P k c (Rf (fun s'=>∃v',I n v'∧Wk k s' (canon v')) Q) (canon v)):AW P k (.loop c) Q s:=by
 refine AS hw ?_
 have key :∀n v,I n v→∀F os a w,Rel F os (canon v) a w→∀(b:Frame) (kk:List Item) (cs:List Frame),
   ∃e a' w',Hu k Q F os w e a' w'∧Arrives P (lone (b.at a (.code c :: .inLoop c :: kk)) cs w) b kk cs e a' w':=by
  intro n
  induction n with
  | zero=>intro v hI;exact absurd hI (hz v)
  | succ n ih=>
   intro v hI F os a w hr b kk cs
   obtain⟨e,a₁,w₁,⟨s1,F1,os1,hq,hR1,hE1⟩,harr⟩:=round n v hI F os a w hr b (.inLoop c :: kk) cs
   cases e with
   | normal=>
    obtain⟨v2,hI2,hw2⟩:=hq
    obtain⟨F2,os2,hR2,hE2⟩:=hw2 F1 os1 a₁ w₁ hR1
    obtain⟨e₂,a₂,w₂,hq₂,harr₂⟩:=ih v2 hI2 F2 os2 a₁ w₁ hR2 b kk cs
    exact⟨e₂,a₂,w₂,hq₂.trans (hE1.trans hE2),.of_steps (Steps.trans harr (.one step_inLoop)) harr₂⟩
   | exit id=>exact⟨_,a₁,w₁,⟨s1,F1,os1,hq,hR1,hE1⟩,.pass (x:=.inLoop c) rfl (fun _ _=>.inl (by simp)) harr⟩
   | goto l=>exact⟨_,a₁,w₁,⟨s1,F1,os1,hq,hR1,hE1⟩,.pass (x:=.inLoop c) rfl (fun _ _=>.inl (by simp)) harr⟩
   | ret=>exact⟨_,a₁,w₁,⟨s1,F1,os1,hq,hR1,hE1⟩,.pass (x:=.inLoop c) rfl (fun _ _=>.inl (by simp)) harr⟩
   | panic ch=>exact⟨_,a₁,w₁,⟨s1,F1,os1,hq,hR1,hE1⟩,.pass (x:=.inLoop c) rfl (fun _ _=>.inl (by simp)) harr⟩
   | outgrown=>exact⟨_,a₁,w₁,⟨s1,F1,os1,hq,hR1,hE1⟩,.pass (x:=.inLoop c) rfl (fun _ _=>.inl (by simp)) harr⟩
 intro F os a w hr b kk cs
 obtain⟨e,a',w',hq,harr⟩:=key n0 v0 h0 F os a w hr b kk cs
 exact⟨e,a',w',hq,.of_steps (.one step_loop) harr⟩
end
end Go.Abs

