import Derived.Test.YtpahalfiiahddaaGreatAbsB
namespace Go.Abs
open Go
def Qf:TypeDesc→Bool
 | .struct _ | .array _ _=>true
 | _=>false
def DG (P:Program) (t:TypeId):Option (Bool×Nat):=
 match P.underlying t,P.info? t with
 | some d,some i=>some (Qf d,i.size)
 | _,_=>none
structure Sz where
 e:TypeId
 size:Nat
 bytes:Nat
 zero:List AV
def CM (P:Program) (t:TypeId):Option Sz:=
 match P.underlying t with
 | some (.slice e)=>match P.info? e with
  | some i=>match i.zero with
   | some z=>if z.cells.size=i.size∧0 < i.size∧(z.cells.toList.map H8).all AV.leaf then some ⟨e,i.size,i.bytes,z.cells.toList.map H8⟩ else none
   | none=>none
  | none=>none
 | _=>none
def Gp (P:Program) (s:TypeId) (f:Nat):Option Nat:=
 match P.underlying s with
 | some (.struct fs)=>match fs[f]? with
  | some g=>match P.info? g.type with
   | some i=>if i.size=0 then none else some g.offset
   | none=>none
  | none=>none
 | _=>none
def EN {α:Type} (o:Option α) (K:α→Prop):Prop:=
 match o with
 | some a=>K a
 | none=>False
theorem Ar {α:Type} {o:Option α} {K:α→Prop} (a:α) (h:o=some a) (hk:K a):EN o K:=by rw[h];exact hk
theorem BB {α:Type} {o:Option α} {K:α→Prop} (h:EN o K) :∃a,o=some a∧K a:=by
 cases o with
 | none=>exact h.elim
 | some a=>exact⟨a,rfl,h⟩
def Mw (c a b:AV) (K:AV→Prop):Prop:=
 match c,a,b with
 | .bool t,.bool p,.bool q=>K (.bool (if t then p else q))
 | .bool t,x,y=>(t=true→K x)∧(t=false→K y)
 | _,_,_=>False
def Sn (st:List Row) (x:AV) (K:AV→Prop):Prop:=
 match x with
 | .ptr id g i off=>EN st[id]? fun row=>row.gen=g∧K (.ptr id g i off)
 | .B1 x off=>K (.B1 x off)
 | _=>False
def Tt (op:BinOp) (k:IntKind) (a b:Int) (K:AV→Prop):Prop:=
 match op with
 | .add=>K (.int k (k.wrap (a+b)))
 | .sub=>K (.int k (k.wrap (a - b)))
 | .mul=>K (.int k (k.wrap (a * b)))
 | .quo=>b≠0∧K (.int k (k.wrap (a.tdiv b)))
 | .rem=>b≠0∧K (.int k (a.tmod b))
 | .eql=>K (.bool (a == b))
 | .neq=>K (.bool (a != b))
 | .lss=>K (.bool (decide (a < b)))
 | .leq=>K (.bool (decide (a≤b)))
 | .gtr=>K (.bool (decide (a > b)))
 | .geq=>K (.bool (decide (a ≥ b)))
 | .xor=>K (.int k (k.wrap (BitVec.ofInt k.bits a ^^^ BitVec.ofInt k.bits b).toNat))
 | _=>False
def LI (P:Program) (t:TypeId):Bool:=
 match P.underlying t with
 | some .bool=>true
 | _=>false
def RE (P:Program) (t:TypeId) (op:BinOp) (x y:AV) (K:AV→Prop):Prop:=
 match x,y with
 | .int k a,.int k' b=>k=k'∧Tt op k a b K
 | .bool a,.bool b=>LI P t=true∧match op with
  | .eql=>K (.bool (a == b))
  | .neq=>K (.bool (a != b))
  | _=>False
 | _,_=>False
def Wo (op:UnOp) (x:AV) (K:AV→Prop):Prop:=
 match op,x with
 | .not,.bool b=>K (.bool (!b))
 | .neg,.int k n=>K (.int k (k.wrap (-n)))
 | _,_=>False
def I4 (agg:Bool) (size:Nat) (x:List AV) (off:Nat) (K:AV→Prop):Prop:=
 if agg then off+size≤x.length∧K (.agg ((x.drop off).take size)) else EN x[off]? K
def Mc (P:Program) (st:List Row) (t:TypeId) (v:AV) (K:AV→Prop):Prop:=
 EN (DG P t) fun ti=>match v with
  | .ptr id g i off=>EN st[id]? fun row=>row.gen=g∧EN row.xs[i]? fun x=>I4 ti.1 ti.2 x off K
  | .B1 x off=>I4 ti.1 ti.2 x off K
  | _=>False
def JE (P:Program) (s:TypeId) (v:AV) (f:Nat) (st:List Row) (K:AV→Prop):Prop:=
 EN (Gp P s f) fun o=>match v with
  | .ptr id g i off=>EN st[id]? fun row=>row.gen=g∧off+o≤row.size∧K (.ptr id g i (off+o))
  | .B1 x off=>K (.B1 x (off+o))
  | _=>False
def GK (P:Program) (st:List Row) (t:TypeId) (x i:AV) (K:AV→Prop):Prop:=
 EN (CM P t) fun ei=>match x,i with
  | .own id g n,.int _ j=>0≤j∧j < n∧EN st[id]? fun row=>row.gen=g∧row.size=ei.size∧K (.ptr id g (row.xs.length - n+j.toNat) 0)
  | .sl xs,.int _ j=>0≤j∧EN xs[j.toNat]? fun y=>y.length=ei.size∧K (.B1 y 0)
  | _,_=>False
def Vs (st:List Row) (x:AV) (K:AV→Prop):Prop:=
 match x with
 | .own id g n=>EN st[id]? fun row=>row.gen=g∧K (.int .i64 n)
 | .sl xs=>K (.int .i64 xs.length)
 | .zc=>K (.int .i64 0)
 | _=>False
def KY (P:Program) (t:TypeId) (x:AV) (f:Nat) (K:AV→Prop):Prop:=
 match x,P.underlying t with
 | .agg cs,some (.struct fs)=>EN fs[f]? fun g=>EN (DG P g.type) fun ti=>I4 ti.1 ti.2 cs g.offset K
 | _,_=>False
def NJ (x:AV) (i:Nat) (K:AV→Prop):Prop:=
 match x with
 | .Cm vs=>EN vs[i]? K
 | _=>False
theorem Bj {F:Nat→Prop} {w:World} {os:List Own} :∀{xs:List AV} {us:List Value},BX F w os xs us→∀(i:Nat) (x:AV),xs[i]?=some x→∃u,us[i]?=some u∧Am F w os x u
 | [],_,_,i,x,hx=>by simp at hx
 | y :: r,us,h,i,x,hx=>by
  simp only[BX] at h
  obtain⟨u,us',rfl,h1,h2⟩:=h
  cases i with
  | zero=>simp only[List.getElem?_cons_zero,Option.some.injEq] at hx;subst hx;exact⟨u,rfl,h1⟩
  | succ i=>simp only[List.getElem?_cons_succ] at hx ⊢;exact Bj h2 i x hx
theorem BL {F:Nat→Prop} {w:World} {os:List Own} :∀{xs:List AV} {us:List Value},BX F w os xs us→us.length=xs.length
 | [],us,h=>by simp only[BX] at h;simp[h]
 | y :: r,us,h=>by
  simp only[BX] at h
  obtain⟨u,us',rfl,h1,h2⟩:=h
  simp[BL h2]
theorem Ck {F:Nat→Prop} {w:World} {os:List Own} :∀{xs:List AV} {us:List Value},us.length=xs.length→(∀(i:Nat) x u,xs[i]?=some x→us[i]?=some u→Am F w os x u)→BX F w os xs us
 | [],us,h,_=>by simp only[BX];exact List.eq_nil_of_length_eq_zero (by simpa using h)
 | y :: r,[],h,_=>by simp at h
 | y :: r,u :: us,h,hi=>by
  simp only[BX]
  exact⟨u,us,rfl,hi 0 y u rfl rfl,Ck (by simpa using h) fun i x u hx hu=>hi (i+1) x u (by simpa using hx) (by simpa using hu)⟩
theorem Kj {F:Nat→Prop} {w:World} :∀{xs:List AV} {b o:Nat},Ds F w xs b o→∀(i:Nat) x,xs[i]?=some x→∃u,w.cell? ⟨b,o+i,none⟩=some u∧x.leaf=true∧Am F w [] x u
 | [],_,_,_,i,x,hx=>by simp at hx
 | y :: r,b,o,h,i,x,hx=>by
  simp only[Ds] at h
  cases i with
  | zero=>simp only[List.getElem?_cons_zero,Option.some.injEq] at hx;subst hx;exact h.1
  | succ i=>
   simp only[List.getElem?_cons_succ] at hx
   have:=Kj h.2 i x hx
   rwa [show o+1+i=o+(i+1) by omega] at this
theorem HA {F:Nat→Prop} {w:World} :∀{xs:List AV} {b o:Nat},(∀(i:Nat) x,xs[i]?=some x→∃u,w.cell? ⟨b,o+i,none⟩=some u∧x.leaf=true∧Am F w [] x u)→Ds F w xs b o
 | [],_,_,_=>by simp[Ds]
 | y :: r,b,o,h=>by
  simp only[Ds]
  refine⟨h 0 y rfl,HA fun i x hx=>?_⟩
  have:=h (i+1) x (by simpa using hx)
  rwa [show o+(i+1)=o+1+i by omega] at this
theorem IU {F:Nat→Prop} {w:World} {size:Nat} :∀{xs:List (List AV)} {b o:Nat},(∀x∈xs,x.length=size)→Fo F w xs b o→∀(i:Nat) x,xs[i]?=some x→Ds F w x b (o+i * size)
 | [],_,_,_,_,i,x,hx=>by simp at hx
 | y :: r,b,o,hs,h,i,x,hx=>by
  simp only[Fo] at h
  cases i with
  | zero=>simp only[List.getElem?_cons_zero,Option.some.injEq] at hx;subst hx;simpa using h.1
  | succ i=>
   simp only[List.getElem?_cons_succ] at hx
   have:=IU (fun x hx=>hs x (by simp[hx])) h.2 i x hx
   rw[hs y (by simp)] at this
   rwa [show o+size+i * size=o+(i+1) * size by rw[Nat.add_mul];omega] at this
theorem H2 {F:Nat→Prop} {w:World} {size:Nat} :∀{xs:List (List AV)} {b o:Nat},(∀x∈xs,x.length=size)→(∀(i:Nat) x,xs[i]?=some x→Ds F w x b (o+i * size))→Fo F w xs b o
 | [],_,_,_,_=>by simp[Fo]
 | y :: r,b,o,hs,h=>by
  simp only[Fo]
  refine⟨by simpa using h 0 y rfl,H2 (fun x hx=>hs x (by simp[hx])) fun i x hx=>?_⟩
  have:=h (i+1) x (by simpa using hx)
  rw[hs y (by simp)]
  rwa [show o+(i+1) * size=o+size+i * size by rw[Nat.add_mul];omega] at this
theorem WM {F:Nat→Prop} {w:World} (os:List Own) {x:AV} {u:Value} (h:Am F w [] x u):Am F w os x u:=
 CP (fun _ h=>h) (fun _ _=>rfl) [] os (by simp) x u h
theorem Ll {F:Nat→Prop} {w:World} {os:List Own} {x:AV} {u:Value} (hl:x.leaf=true) (h:Am F w os x u):u.oneCell'=true:=by
 cases x <;> simp only[AV.leaf,Bool.false_eq_true] at hl <;> simp only[Am] at h
 case int=>subst h;rfl
 case bool=>subst h;rfl
 case str=>subst h;rfl
 case zc=>obtain⟨a,rfl⟩:=h;rfl
 case Nl=>subst h;rfl
 case Nk=>subst h;rfl
 case sl=>obtain⟨a,cap,rfl,_⟩:=h;rfl
 case own=>obtain⟨o,_,_,⟨a,l,c,rfl⟩,_⟩:=h;rfl
 case ptr=>obtain⟨o,_,_,⟨a,rfl⟩,_⟩:=h;rfl
 case B1=>obtain⟨b,o,rfl,_⟩:=h;rfl
 case fn=>obtain⟨us,rfl,_⟩:=h;rfl
theorem R0 {F:Nat→Prop} {w:World} {os:List Own} {x:AV} {u:Value} (hl:x.kept=true) (h:Am F w os x u):u.oneCell'=true:=by
 cases x with
 | dv=>simp only[Am] at h;obtain⟨a,l,c,rfl⟩:=h;rfl
 | _=>exact Ll (by simpa [AV.kept] using hl) h
def Yields (P:Program) (F:Nat→Prop) (w:World) (os:List Own) (LF:Sem Value) (K:AV→Prop):Prop:=
 ∃x u,K x∧LF.run P w=.ok u w∧Am F w os x u
variable {P : Program} {F : Nat → Prop} {os : List Own} {s : St} {a : Act} {w : World} {K : AV → Prop}
theorem Yields.int {k:IntKind} {n:Int} {LF:Sem Value} (h:K (.int k n)) (hr:LF.run P w=.ok (.int k n) w):Yields P F w os LF K:=⟨_,_,h,hr,by simp[Am]⟩
theorem Yields.bool {b:Bool} {LF:Sem Value} (h:K (.bool b)) (hr:LF.run P w=.ok (.bool b) w):Yields P F w os LF K:=⟨_,_,h,hr,by simp[Am]⟩
theorem WG {c x y:AV} {uc ux uy:Value} (h:Mw c x y K) (hc:Am F w os c uc) (hx:Am F w os x ux) (hy:Am F w os y uy) :
  Yields P F w os (do pure (if ← asBool uc then ux else uy)) K:=by
 cases c <;> simp only[Mw] at h
 rename_i t
 simp only[Am] at hc
 subst hc
 have gen:(t=true→K x)∧(t=false→K y)→Yields P F w os (do pure (if ← asBool (.bool t) then ux else uy)) K:=fun g=>by
  cases t
  ·exact⟨y,uy,g.2 rfl,by simp[asBool],hy⟩
  ·exact⟨x,ux,g.1 rfl,by simp[asBool],hx⟩
 refine gen ?_
 split at h
 ·rename_i h1;cases h1
  constructor
  ·intro e;simpa [e] using h
  ·intro e;simpa [e] using h
 ·rename_i h1 _;cases h1;exact h
 ·exact h.elim
theorem W6 {x:AV} {u:Value} (hr:Rel F os s a w) (h:Sn s.st x K) (hx:Am F w os x u) :∃v,K v∧(∃ad,u=.pointer (some ad))∧Am F w os v u:=by
 cases x <;> simp only[Sn] at h
 case ptr id g i off=>
  obtain⟨row,hrow,hg,hk⟩:=BB h
  refine⟨_,hk,?_,hx⟩
  simp only[Am] at hx
  obtain⟨o,ho,_,_,h2⟩:=hx
  have:row=o.row:=by
   have:=hr.st
   rw[← this,List.getElem?_map,ho] at hrow
   simpa using hrow.symm
  subst this
  obtain⟨_,_,b,_,rfl⟩:=h2 hg
  exact⟨_,rfl⟩
 case B1 y off=>
  refine⟨_,h,?_,hx⟩
  simp only[Am] at hx
  obtain⟨b,o,rfl,_⟩:=hx
  exact⟨_,rfl⟩
theorem Xq {op:BinOp} {t:TypeId} {k:IntKind} {x y:Int} (h:Tt op k x y K):Yields P F w os (binOp op t (.int k x) (.int k y)) K:=by
 cases op <;> simp only[Tt] at h
 case quo=>exact .int h.2 (by simp[binOp,Op.intDiv,h.1])
 case rem=>exact .int h.2 (by simp[binOp,Op.intDiv,h.1])
 case add=>exact .int h (by simp[binOp,Op.intArith])
 case sub=>exact .int h (by simp[binOp,Op.intArith])
 case mul=>exact .int h (by simp[binOp,Op.intArith])
 case xor=>exact .int h (by simp[binOp,Op.intBits])
 all_goals exact .bool h (by simp[binOp,Op.intCmp])
theorem run_equal_bool {t:TypeId} (hu:P.underlying t=some .bool) (a b:Bool):(Op.equal t (.bool a) (.bool b)).run P w=.ok (a == b) w:=by
 have hd :∀d,(Op.equalIn (d+1) t (.bool a) (.bool b)).run P w=.ok (a == b) w:=fun d=>by
  simp only[Op.equalIn,Sem.run_bind,run_underlying hu,Result.andThen_ok,Sem.run_pure]
 have:Op.maxDepth=9999+1:=rfl
 unfold Op.equal
 rw[this]
 exact hd 9999
theorem X9 {op:BinOp} {t:TypeId} {x y:AV} {ux uy:Value} {ox oy:Operand} (h:RE P t op x y K) (hx:Am F w os x ux) (hy:Am F w os y uy) :
  Yields P F w os (do eqGuard op t ox oy ux uy;binOp op t ux uy) K:=by
 have hlift :∀ux uy,(∀b,ux≠.nilIface∧ux≠.agg b)→Yields P F w os (binOp op t ux uy) K→Yields P F w os (do eqGuard op t ox oy ux uy;binOp op t ux uy) K:=by
  rintro ux uy hne ⟨v,u,h1,h2,h3⟩
  refine⟨v,u,h1,?_,h3⟩
  have hg:(eqGuard op t ox oy ux uy).run P w=.ok () w:=by
   unfold eqGuard
   cases op <;> simp <;> (cases ux <;> first | exact absurd rfl (hne #[]).1 | exact absurd rfl (hne _).2 | simp)
  simp[hg,h2]
 unfold RE at h
 split at h
 ·obtain⟨rfl,h⟩:=h
  simp only[Am] at hx hy
  subst hx;subst hy
  exact hlift _ _ (by simp) (Xq h)
 ·obtain⟨hb,h⟩:=h
  simp only[Am] at hx hy
  subst hx;subst hy
  have hu:P.underlying t=some .bool:=by
   unfold LI at hb
   split at hb
   ·assumption
   ·cases hb
  refine hlift _ _ (by simp) ?_
  split at h
  ·exact .bool h (by simp[binOp,run_equal_bool hu])
  ·rename_i p q _;exact .bool h (by simp only[binOp,Sem.run_bind,run_equal_bool hu,Result.andThen_ok,Sem.run_pure];cases p <;> cases q <;> rfl)
  ·exact h.elim
 ·exact h.elim
theorem Yd {op:UnOp} {x:AV} {ux:Value} (h:Wo op x K) (hx:Am F w os x ux):Yields P F w os (Op.unary op ux) K:=by
 unfold Wo at h
 split at h
 ·simp only[Am] at hx;subst hx
  exact .bool h (by simp[Op.unary])
 ·simp only[Am] at hx;subst hx
  exact .int h (by simp[Op.unary,Op.intArith])
 ·exact h.elim
theorem Rel.row {id:Nat} {row:Row} (hr:Rel F os s a w) (h:s.st[id]?=some row) :∃o,os[id]?=some o∧o.row=row:=by
 rw[← hr.st,List.getElem?_map] at h
 cases ho:os[id]? with
 | none=>rw[ho] at h;cases h
 | some o=>rw[ho] at h;exact⟨o,rfl,by simpa using h⟩
def KD (F:Nat→Prop) (w:World) (os:List Own) (b o:Nat) (x:List AV):Prop:=
 ∀(j:Nat) c,x[j]?=some c→∃u,w.cell? ⟨b,o+j,none⟩=some u∧c.kept=true∧Am F w os c u
theorem JK {t:TypeId} {ti:Bool×Nat} (h:DG P t=some ti) :∃d i,P.underlying t=some d∧P.info? t=some i∧ti.1=Qf d∧ti.2=i.size:=by
 unfold DG at h
 split at h
 ·rename_i d i hd hi
  simp only[Option.some.injEq] at h
  subst h
  exact⟨d,i,hd,hi,rfl,rfl⟩
 ·cases h
theorem Lg {t:TypeId} {d:TypeDesc} (hu:P.underlying t=some d):(isAgg t).run P w=.ok (Qf d) w:=by
 unfold isAgg
 rw[Sem.run_bind,run_underlying hu w]
 cases d <;> simp[Qf]
theorem Ce (b o i:Nat):(⟨b,o,none⟩:Addr).add i=⟨b,o+i,none⟩:=by
 unfold Addr.add;split <;> simp_all
theorem QA {t:TypeId} {ti:Bool×Nat} (ht:DG P t=some ti) {b o:Nat} {x:List AV} {off:Nat} (hx:KD F w os b o x) (h:I4 ti.1 ti.2 x off K) :
  Yields P F w os (loadVar t ⟨b,o+off,none⟩) K:=by
 obtain⟨d,i,hu,hi,e1,e2⟩:=JK ht
 unfold I4 at h
 have hsz:(sizeOf t).run P w=.ok i.size w:=by simp[sizeOf,typeInfo,hi]
 have hag:=Lg (w:=w) hu
 rw[← e1] at hag
 split at h
 ·rename_i hagg
  obtain⟨hl,hk⟩:=h
  rw[hagg] at hag
  have :∀j,j < ti.2→∃u,w.cell? ((⟨b,o+off,none⟩:Addr).add j)=some u∧∀c,x[off+j]?=some c→Am F w os c u:=fun j hj=>by
   have hlt:off+j < x.length:=by omega
   obtain⟨u,hu1,_,hu2⟩:=hx (off+j) x[off+j] (List.getElem?_eq_getElem hlt)
   refine⟨u,by rw[Ce,← hu1,Nat.add_assoc],fun c hc=>?_⟩
   rw[List.getElem?_eq_getElem hlt,Option.some.injEq] at hc
   exact hc ▸ hu2
  have hch :∃f:Nat→Value,∀j,j < ti.2→w.cell? ((⟨b,o+off,none⟩:Addr).add j)=some (f j)∧∀c,x[off+j]?=some c→Am F w os c (f j):=
   ⟨fun j=>(w.cell? ((⟨b,o+off,none⟩:Addr).add j)).getD undef,fun j hj=>by
    obtain⟨u,hu1,hu2⟩:=this j hj
    simp only[hu1,Option.getD_some];exact⟨trivial,hu2⟩⟩
  obtain⟨f,hf⟩:=hch
  refine⟨_,.agg ((List.range ti.2).map f).toArray,hk,?_,?_⟩
  ·have hlc:=run_loadCells (P:=P) w ⟨b,o+off,none⟩ ti.2 f (fun j hj=>(hf j hj).1)
   simp[loadVar,hag,hsz,← e2,hlc]
  ·simp only[Am]
   refine⟨_,rfl,Ck (by simp;omega) fun j c u hc hu=>?_⟩
   simp only[List.getElem?_take,List.getElem?_drop] at hc
   split at hc
   ·rename_i hj
    simp only[List.getElem?_map,List.getElem?_range hj,Option.map_some,Option.some.injEq] at hu
    subst hu
    exact (hf j hj).2 c hc
   ·cases hc
 ·rename_i hagg
  obtain⟨c,hc,hk⟩:=BB h
  obtain⟨u,hu1,_,hu2⟩:=hx off c hc
  simp only[Bool.not_eq_true] at hagg
  rw[hagg] at hag
  exact⟨c,u,hk,by simp[loadVar,hag,hu1],hu2⟩
theorem Rel.NI {id:Nat} {o:Own} (hr:Rel F os s a w) (ho:os[id]?=some o) {b:Nat} (hb:o.EM=some b) {i:Nat} {x:List AV} (hx:o.row.xs[i]?=some x) :
  KD F w os b (i * o.row.size) x:=by
 have hok:=hr.rows id o ho
 obtain⟨_,cur,hcur,hsz,hlen,_,hcells⟩:=hok.some b hb
 intro j c hc
 obtain⟨u,hu1,hu2⟩:=hcells i x hx j c hc
 refine⟨u,?_,(hok.lens x (List.mem_of_getElem? hx)).2 c (List.mem_of_getElem? hc),hu2⟩
 rw[cell_of_row w b _ cur _ _ hcur];exact hu1
theorem JA {b o:Nat} {x:List AV} (h:Ds F w x b o):KD F w os b o x:=fun j c hc=>by
 obtain⟨u,h1,h2,h3⟩:=Kj h j c hc
 exact⟨u,h1,Cc h2,WM os h3⟩
theorem Sg {t:TypeId} {v:AV} {u:Value} (hr:Rel F os s a w) (h:Mc P s.st t v K) (hv:Am F w os v u):Yields P F w os (Instr.loadAt t u) K:=by
 obtain⟨ti,ht,h⟩:=BB h
 cases v with
 | ptr id g i off=>
  obtain⟨row,hrow,hg,h0⟩:=BB h
  obtain⟨x,hx,h1⟩:=BB h0
  obtain⟨o,ho,rfl⟩:=hr.row hrow
  simp only[Am] at hv
  obtain⟨o',ho',_,_,hv⟩:=hv
  rw[ho] at ho';cases ho'
  obtain⟨_,_,b,hb,rfl⟩:=hv hg
  simpa [Instr.loadAt,Instr.sureAddr,Yields] using QA ht (hr.NI ho hb hx) h1
 | B1 x off=>
  simp only[Am] at hv
  obtain⟨b,o,rfl,hb,hc⟩:=hv
  simpa [Instr.loadAt,Instr.sureAddr,Yields] using QA ht (JA hc) h
 | _=>exact h.elim
theorem Rl {t:TypeId} {f:Nat} {v:AV} {u:Value} (hr:Rel F os s a w) (h:JE P t v f s.st K) (hv:Am F w os v u):Yields P F w os (Instr.fieldAt t u f) K:=by
 obtain⟨o,ho,h⟩:=BB h
 unfold Gp at ho
 split at ho <;> try (cases ho;done)
 rename_i fs hu
 split at ho <;> try (cases ho;done)
 rename_i g hg
 split at ho <;> try (cases ho;done)
 rename_i i hi
 split at ho
 ·cases ho
 rename_i hz
 simp only[Option.some.injEq] at ho
 have hrun :∀b off,(Instr.fieldAt t (.pointer (some ⟨b,off,none⟩)) f).run P w=.ok (.pointer (some ⟨b,off+o,none⟩)) w:=fun b off=>by
  simp[Instr.fieldAt,run_underlying hu,hg,Instr.sureAddr,fieldPlace,sizeOf,typeInfo,hi,hz,Ce,ho]
 cases v with
 | ptr id gg i off=>
  obtain⟨row,hrow,hg,hle,hk⟩:=BB h
  obtain⟨ow,how,rfl⟩:=hr.row hrow
  have hv':=hv
  simp only[Am] at hv
  obtain⟨o',ho',hge,_,hv⟩:=hv
  rw[how] at ho';cases ho'
  obtain⟨h1,h2,b,hb,rfl⟩:=hv hg
  refine⟨_,_,hk,hrun _ _,?_⟩
  simp only[Am]
  exact⟨ow,how,hge,⟨_,rfl⟩,fun _=>⟨h1,hle,b,hb,by rw[Nat.add_assoc]⟩⟩
 | B1 x off=>
  simp only[Am] at hv
  obtain⟨b,o',rfl,hb,hc⟩:=hv
  exact⟨_,_,h,hrun _ _,by simp only[Am];exact⟨b,o',by rw[Nat.add_assoc],hb,hc⟩⟩
 | _=>exact h.elim
theorem Fg {t:TypeId} {ei:Sz} (h:CM P t=some ei) :∃i z,P.underlying t=some (.slice ei.e)∧P.info? ei.e=some i∧i.zero=some z∧z.cells.size=i.size∧0 < i.size∧ei.size=i.size∧ei.bytes=i.bytes∧
  ei.zero=z.cells.toList.map H8∧∀c∈ei.zero,c.leaf=true:=by
 unfold CM at h
 split at h <;> try (cases h;done)
 rename_i e hu
 split at h <;> try (cases h;done)
 rename_i i hi
 split at h <;> try (cases h;done)
 rename_i z hz
 split at h <;> try (cases h;done)
 rename_i hc
 simp only[Option.some.injEq] at h
 subst h
 exact⟨i,z,hu,hi,hz,hc.1,hc.2.1,rfl,rfl,rfl,fun c hm=>List.all_eq_true.1 hc.2.2 c hm⟩
theorem Qy {t:TypeId} {x i:AV} {ux ui:Value} (hr:Rel F os s a w) (h:GK P s.st t x i K) (hx:Am F w os x ux) (hi:Am F w os i ui):Yields P F w os (Instr.indexAt t ux ui) K:=by
 obtain⟨ei,he,h⟩:=BB h
 obtain⟨inf,z,hu,hinf,_,_,hpos,hsz,_⟩:=Fg he
 have hs:(sizeOf ei.e).run P w=.ok ei.size w:=by simp[sizeOf,typeInfo,hinf,hsz]
 have hrun :∀b o n c k (j:Int),0≤j→j < (n:Nat)→(Instr.indexAt t (.slice (some ⟨b,o,none⟩) n c) (.int k j)).run P w=.ok (.pointer (some ⟨b,o+j.toNat * ei.size,none⟩)) w:=fun b o n c k j h0 h1=>by
  have hn:¬ (n≤1∧False):=by simp
  simp[Instr.indexAt,asIntOf,run_underlying hu,h0,h1,hs,Ce]
 cases x with
 | own id g n=>
  cases i with
  | int k j=>
   obtain⟨h0,h1,h⟩:=h
   obtain⟨row,hrow,hg,hrs,hk⟩:=BB h
   obtain⟨ow,how,rfl⟩:=hr.row hrow
   simp only[Am] at hx hi
   subst hi
   obtain⟨o',ho',hge,_,hv⟩:=hx
   rw[how] at ho';cases ho'
   obtain⟨hl,hv⟩:=hv hg
   rcases hv with ⟨hb,_⟩ | ⟨b,hb,rfl⟩
   ·have:=(hr.rows id ow how).none hb
    simp[this.1] at hl
    omega
   ·refine⟨_,_,hk,hrun _ _ _ _ _ _ h0 h1,?_⟩
    simp only[Am]
    exact⟨ow,how,hge,⟨_,rfl⟩,fun _=>⟨by omega,Nat.zero_le _,b,hb,by rw[hrs,Nat.add_mul];simp⟩⟩
  | _=>exact h.elim
 | sl xs=>
  cases i with
  | int k j=>
   obtain⟨h0,h⟩:=h
   obtain⟨y,hy,hyl,hk⟩:=BB h
   simp only[Am] at hx hi
   subst hi
   obtain⟨ad,cap,rfl,_,hne⟩:=hx
   have hlt:j.toNat < xs.length:=(List.getElem?_eq_some_iff.1 hy).1
   obtain⟨b,o,size,rfl,hb,hss,hrows⟩:=hne (by intro e;rw[e] at hlt;simp at hlt)
   refine⟨_,_,hk,hrun _ _ _ _ _ _ h0 (by omega),?_⟩
   have E7:size=ei.size:=by rw[← hyl];exact (hss y (List.mem_of_getElem? hy)).symm
   subst E7
   simp only[Am]
   exact⟨b,o+j.toNat * ei.size,rfl,hb,IU hss hrows _ _ hy⟩
  | _=>exact h.elim
 | _=>exact h.elim
def Cu (P:Program) (t:TypeId):Bool:=
 match P.underlying t with
 | some (.slice _)=>true
 | _=>false
theorem XQ {t ty:TypeId} {x:AV} {ux:Value} (hr:Rel F os s a w) (ht:Cu P t=true) (h:Vs s.st x K) (hx:Am F w os x ux):Yields P F w os (Builtin.len_ #[t] ty #[ux]) K:=by
 unfold Cu at ht
 split at ht
 case h_2=>cases ht
 rename_i e hu
 have hrun :∀ad n c,(Builtin.len_ #[t] ty #[.slice ad n c]).run P w=.ok (.int .i64 n) w:=fun ad n c=>by
  simp[Builtin.len_,run_underlying hu,goInt]
 cases x with
 | own id g n=>
  obtain⟨row,hrow,hg,hk⟩:=BB h
  obtain⟨ow,how,rfl⟩:=hr.row hrow
  simp only[Am] at hx
  obtain⟨o',ho',hge,_,hv⟩:=hx
  rw[how] at ho';cases ho'
  obtain⟨hl,hv⟩:=hv hg
  rcases hv with ⟨_,ad,rfl⟩ | ⟨b,_,rfl⟩
  ·exact .int hk (hrun _ _ _)
  ·exact .int hk (hrun _ _ _)
 | sl xs=>
  simp only[Am] at hx
  obtain⟨ad,cap,rfl,_,_⟩:=hx
  exact .int h (hrun _ _ _)
 | zc=>
  simp only[Am] at hx
  obtain⟨ad,rfl⟩:=hx
  exact .int h (hrun _ _ _)
 | _=>exact h.elim
theorem TR {x:AV} {ux:Value} {i:Nat} (h:NJ x i K) (hx:Am F w os x ux):Yields P F w os (Instr.extract ux i) K:=by
 cases x with
 | Cm vs=>
  obtain⟨y,hy,hk⟩:=BB h
  simp only[Am] at hx
  obtain⟨us,rfl,hl⟩:=hx
  obtain⟨u,hu,hru⟩:=Bj hl i y hy
  exact⟨y,u,hk,by simp[Instr.extract,hu],hru⟩
 | _=>exact h.elim
theorem Uw {t:TypeId} {f:Nat} {x:AV} {ux:Value} (h:KY P t x f K) (hx:Am F w os x ux):Yields P F w os (Instr.field t ux f) K:=by
 unfold KY at h
 split at h
 ·rename_i cs fs hu
  obtain⟨g,hg,h⟩:=BB h
  obtain⟨ti,ht,h⟩:=BB h
  simp only[Am] at hx
  obtain⟨us,rfl,hl⟩:=hx
  obtain⟨d,i,hud,hi,e1,e2⟩:=JK ht
  have hag:=Lg (w:=w) hud
  rw[← e1] at hag
  have hlen:=BL hl
  unfold I4 at h
  split at h
  ·rename_i hagg
   rw[hagg] at hag
   refine⟨_,.agg (us.toArray.extract g.offset (g.offset+ti.2)),h.2,?_,?_⟩
   ·simp[Instr.field,run_underlying hu,hg,asAgg,part,hag,sizeOf,typeInfo,hi,e2]
   ·simp only[Am]
    refine⟨(us.drop g.offset).take ti.2,by simp,Ck (by simp;omega) fun j c u hc hu'=>?_⟩
    simp only[List.getElem?_take,List.getElem?_drop] at hc hu'
    split at hc
    ·rename_i hj
     rw[if_pos hj] at hu'
     obtain⟨u2,hu2,hr2⟩:=Bj hl _ _ hc
     rw[hu2] at hu';cases hu';exact hr2
    ·cases hc
  ·rename_i hagg
   simp only[Bool.not_eq_true] at hagg
   rw[hagg] at hag
   obtain⟨c,hc,hk⟩:=BB h
   obtain⟨u,hu',hru⟩:=Bj hl _ _ hc
   exact⟨c,u,hk,by simp[Instr.field,run_underlying hu,hg,asAgg,part,hag,hu'],hru⟩
 ·exact h.elim
end Go.Abs

