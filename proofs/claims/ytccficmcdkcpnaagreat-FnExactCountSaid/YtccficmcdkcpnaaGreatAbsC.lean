import Derived.Test.YtccficmcdkcpnaaGreatAbsB
set_option linter.all false
namespace Go.Abs
open Go
def Ym:TypeDesc->Bool
 | .struct _|.array _ _=>true
 | _=>false
def DJ (P:Program)(t:TypeId):Option (Bool×Nat):=
 match P.underlying t,P.info? t with
 | some d,some i=>some (Ym d,i.size)
 | _,_=>none
structure jl where
 e:TypeId
 size:Nat
 bytes:Nat
 zero:List AV
def Ck (P:Program)(t:TypeId):Option jl:=
 match P.underlying t with
 | some (.slice e)=>match P.info? e with
  | some i=>match i.zero with
   | some z=>if z.cells.size=i.size/\0<i.size/\(z.cells.toList.map NO).all AV.leaf then some ⟨e,i.size,i.bytes,z.cells.toList.map NO⟩ else none
   | none=>none
  | none=>none
 | _=>none
def G7 (P:Program)(s:TypeId)(f:Nat):Option Nat:=
 match P.underlying s with
 | some (.struct fs)=>match fs[f]? with
  | some g=>match P.info? g.type with
   | some i=>if i.size=0 then none else some g.offset
   | none=>none
  | none=>none
 | _=>none
def Gc {α:Type}(o:Option α)(K:α->Prop):Prop:=
 match o with
 | some a=>K a
 | none=>False
theorem Am {α:Type}{o:Option α}{K:α->Prop}(a:α)(h:o=some a)(hk:K a):Gc o K:=by rw[h];exact hk
theorem BL {α:Type}{o:Option α}{K:α->Prop}(h:Gc o K):∃a,o=some a/\K a:=by
 cases o with
 | none=>exact h.elim
 | some a=>exact⟨a,rfl,h⟩
def Ta (c a b:AV)(K:AV->Prop):Prop:=
 match c,a,b with
 | .bool t,.bool p,.bool q=>K (.bool (if t then p else q))
 | .bool t,x,y=>(t=true->K x)/\(t=false->K y)
 | _,_,_=>False
def cY (st:List Row)(x:AV)(K:AV->Prop):Prop:=
 match x with
 | .ptr id g i off=>Gc st[id]? λrow=>row.gen=g/\K (.ptr id g i off)
 | .Bj x off=>K (.Bj x off)
 | _=>False
def gp (op:BinOp)(k:IntKind)(a b:Int)(K:AV->Prop):Prop:=
 match op with
 | .add=>K (.int k (k.wrap (a+b)))
 | .sub=>K (.int k (k.wrap (a-b)))
 | .mul=>K (.int k (k.wrap (a*b)))
 | .quo=>b≠0/\K (.int k (k.wrap (a.tdiv b)))
 | .rem=>b≠0/\K (.int k (a.tmod b))
 | .eql=>K (.bool (a==b))
 | .neq=>K (.bool (a != b))
 | .lss=>K (.bool (decide (a<b)))
 | .leq=>K (.bool (decide (a<=b)))
 | .gtr=>K (.bool (decide (a > b)))
 | .geq=>K (.bool (decide (a ≥ b)))
 | .xor=>K (.int k (k.wrap (BitVec.ofInt k.bits a ^^^ BitVec.ofInt k.bits b).toNat))
 | _=>False
def Q4 (P:Program)(t:TypeId):Bool:=
 match P.underlying t with
 | some .bool=>true
 | _=>false
def Yy (P:Program)(t:TypeId)(op:BinOp)(x y:AV)(K:AV->Prop):Prop:=
 match x,y with
 | .int k a,.int k' b=>k=k'/\gp op k a b K
 | .bool a,.bool b=>Q4 P t=true/\match op with
  | .eql=>K (.bool (a==b))
  | .neq=>K (.bool (a != b))
  | _=>False
 | _,_=>False
def mH (op:UnOp)(x:AV)(K:AV->Prop):Prop:=
 match op,x with
 | .not,.bool b=>K (.bool (!b))
 | .neg,.int k n=>K (.int k (k.wrap (-n)))
 | _,_=>False
def Nj (agg:Bool)(size:Nat)(x:List AV)(off:Nat)(K:AV->Prop):Prop:=
 if agg then off+size<=x.length/\K (.agg ((x.drop off).take size)) else Gc x[off]? K
def TA (P:Program)(st:List Row)(t:TypeId)(v:AV)(K:AV->Prop):Prop:=
 Gc (DJ P t) λti=>match v with
  | .ptr id g i off=>Gc st[id]? λrow=>row.gen=g/\Gc row.xs[i]? λx=>Nj ti.1 ti.2 x off K
  | .Bj x off=>Nj ti.1 ti.2 x off K
  | _=>False
def OY (P:Program)(s:TypeId)(v:AV)(f:Nat)(st:List Row)(K:AV->Prop):Prop:=
 Gc (G7 P s f) λo=>match v with
  | .ptr id g i off=>Gc st[id]? λrow=>row.gen=g/\off+o<=row.size/\K (.ptr id g i (off+o))
  | .Bj x off=>K (.Bj x (off+o))
  | _=>False
def Mi (P:Program)(st:List Row)(t:TypeId)(x i:AV)(K:AV->Prop):Prop:=
 Gc (Ck P t) λei=>match x,i with
  | .own id g n,.int _ j=>0<=j/\j<n/\Gc st[id]? λrow=>row.gen=g/\row.size=ei.size/\K (.ptr id g (row.xs.length-n+j.toNat) 0)
  | .sl xs,.int _ j=>0<=j/\Gc xs[j.toNat]? λy=>y.length=ei.size/\K (.Bj y 0)
  | _,_=>False
def kW (st:List Row)(x:AV)(K:AV->Prop):Prop:=
 match x with
 | .own id g n=>Gc st[id]? λrow=>row.gen=g/\K (.int .i64 n)
 | .sl xs=>K (.int .i64 xs.length)
 | .zc=>K (.int .i64 0)
 | _=>False
def QA (P:Program)(t:TypeId)(x:AV)(f:Nat)(K:AV->Prop):Prop:=
 match x,P.underlying t with
 | .agg cs,some (.struct fs)=>Gc fs[f]? λg=>Gc (DJ P g.type) λti=>Nj ti.1 ti.2 cs g.offset K
 | _,_=>False
def Tr (x:AV)(i:Nat)(K:AV->Prop):Prop:=
 match x with
 | .CW vs=>Gc vs[i]? K
 | _=>False
theorem Bo {F:Nat->Prop}{w:World}{os:List Own}:∀{xs:List AV} {us:List Value},Bc F w os xs us->∀(i:Nat) (x:AV),xs[i]?=some x->∃u,us[i]?=some u/\Ae F w os x u
 | [],_,_,i,x,hx=>by simp at hx
 | y::r,us,h,i,x,hx=>by
  simp only[Bc]at h;obtain⟨u,us',rfl,h1,h2⟩:=h;cases i with
  | zero=>simp only[vC,uO]at hx;subst hx;exact⟨u,rfl,h1⟩
  | succ i=>simp only[vW]at hx⊢;exact Bo h2 i x hx
theorem BR {F:Nat->Prop}{w:World}{os:List Own}:∀{xs:List AV} {us:List Value},Bc F w os xs us->us.length=xs.length
 | [],us,h=>by simp only[Bc]at h;simp[h]
 | y::r,us,h=>by
  simp only[Bc]at h;obtain⟨u,us',rfl,h1,h2⟩:=h;simp[BR h2]
theorem DZ {F:Nat->Prop}{w:World}{os:List Own}:∀{xs:List AV} {us:List Value},us.length=xs.length->(∀(i:Nat) x u,xs[i]?=some x->us[i]?=some u->Ae F w os x u)->Bc F w os xs us
 | [],us,h,_=>by simp only[Bc];exact vM (by simpa using h)
 | y::r,[],h,_=>by simp at h
 | y::r,u::us,h,hi=>by
  simp only[Bc];exact⟨u,us,rfl,hi 0 y u rfl rfl,DZ (by simpa using h) λi x u hx hu=>hi (i+1) x u (by simpa using hx) (by simpa using hu)⟩
theorem QM {F:Nat->Prop}{w:World}:∀{xs:List AV} {b o:Nat},FU F w xs b o->∀(i:Nat) x,xs[i]?=some x->∃u,w.cell? ⟨b,o+i,none⟩=some u/\x.leaf=true/\Ae F w [] x u
 | [],_,_,_,i,x,hx=>by simp at hx
 | y::r,b,o,h,i,x,hx=>by
  simp only[FU]at h;cases i with
  | zero=>simp only[vC,uO]at hx;subst hx;exact h.1
  | succ i=>
   simp only[vW]at hx;have:=QM h.2 i x hx;rwa [show o+1+i=o+(i+1) by omega]at this
theorem LS {F:Nat->Prop}{w:World}:∀{xs:List AV} {b o:Nat},(∀(i:Nat) x,xs[i]?=some x->∃u,w.cell? ⟨b,o+i,none⟩=some u/\x.leaf=true/\Ae F w [] x u)->FU F w xs b o
 | [],_,_,_=>by simp[FU]
 | y::r,b,o,h=>by
  simp only[FU];refine⟨h 0 y rfl,LS λi x hx=>?_⟩;have:=h (i+1) x (by simpa using hx);rwa [show o+(i+1)=o+1+i by omega]at this
theorem NI {F:Nat->Prop}{w:World}{size:Nat}:∀{xs:List (List AV)} {b o:Nat},(∀x∈xs,x.length=size)->Ie F w xs b o->∀(i:Nat) x,xs[i]?=some x->FU F w x b (o+i*size)
 | [],_,_,_,_,i,x,hx=>by simp at hx
 | y::r,b,o,hs,h,i,x,hx=>by
  simp only[Ie]at h;cases i with
  | zero=>simp only[vC,uO]at hx;subst hx;simpa using h.1
  | succ i=>
   simp only[vW]at hx;have:=NI (λx hx=>hs x (by simp[hx])) h.2 i x hx;rw[hs y (by simp)]at this;rwa [show o+size+i*size=o+(i+1)*size by rw[vg];omega]at this
theorem Mh {F:Nat->Prop}{w:World}{size:Nat}:∀{xs:List (List AV)} {b o:Nat},(∀x∈xs,x.length=size)->(∀(i:Nat) x,xs[i]?=some x->FU F w x b (o+i*size))->Ie F w xs b o
 | [],_,_,_,_=>by simp[Ie]
 | y::r,b,o,hs,h=>by
  simp only[Ie];refine⟨by simpa using h 0 y rfl,Mh (λx hx=>hs x (by simp[hx])) λi x hx=>?_⟩;have:=h (i+1) x (by simpa using hx);rw[hs y (by simp)];rwa [show o+(i+1)*size=o+size+i*size by rw[vg];omega]at this
theorem XD {F:Nat->Prop}{w:World}(os:List Own){x:AV}{u:Value}(h:Ae F w [] x u):Ae F w os x u:=
 D8 (λ_ h=>h) (λ_ _=>rfl) [] os (by simp) x u h
theorem Rz {F:Nat->Prop}{w:World}{os:List Own}{x:AV}{u:Value}(hl:x.leaf=true)(h:Ae F w os x u):u.oneCell'=true:=by
 cases x<;>simp only[AV.leaf,uN]at hl<;>simp only[Ae]at h
 case int=>subst h;rfl
 case bool=>subst h;rfl
 case str=>subst h;rfl
 case zc=>obtain⟨a,rfl⟩:=h;rfl
 case Tm=>subst h;rfl
 case TU=>subst h;rfl
 case ex=>obtain⟨rfl,h⟩:=h;exact h
 case bd=>obtain⟨us,rfl,_⟩:=h;rfl
 case sl=>obtain⟨a,cap,rfl,_⟩:=h;rfl
 case own=>obtain⟨o,_,_,⟨a,l,c,rfl⟩,_⟩:=h;rfl
 case ptr=>obtain⟨o,_,_,⟨a,rfl⟩,_⟩:=h;rfl
 case Bj=>obtain⟨b,o,rfl,_⟩:=h;rfl
 case fn=>obtain⟨us,rfl,_⟩:=h;rfl
theorem bN {F:Nat->Prop}{w:World}{os:List Own}{x:AV}{u:Value}(hl:x.kept=true)(h:Ae F w os x u):u.oneCell'=true:=by
 cases x with
 | dv=>simp only[Ae]at h;obtain⟨a,l,c,rfl⟩:=h;rfl
 | _=>exact Rz (by simpa [AV.kept] using hl) h
def Yields (P:Program)(F:Nat->Prop)(w:World)(os:List Own)(RR:Sem Value)(K:AV->Prop):Prop:=
 ∃x u,K x/\RR.run P w=.ok u w/\Ae F w os x u
variable {P : Program} {F : Nat -> Prop} {os : List Own} {s : St} {a : Act} {w : World} {K : AV -> Prop}
theorem Yields.int {k:IntKind}{n:Int}{RR:Sem Value}(h:K (.int k n))(hr:RR.run P w=.ok (.int k n) w):Yields P F w os RR K:=⟨_,_,h,hr,by simp[Ae]⟩
theorem Yields.bool {b:Bool}{RR:Sem Value}(h:K (.bool b))(hr:RR.run P w=.ok (.bool b) w):Yields P F w os RR K:=⟨_,_,h,hr,by simp[Ae]⟩
theorem lz {c x y:AV}{uc ux uy:Value}(h:Ta c x y K)(hc:Ae F w os c uc)(hx:Ae F w os x ux)(hy:Ae F w os y uy):
  Yields P F w os (do pure (if ← asBool uc then ux else uy)) K:=by
 cases c<;>simp only[Ta]at h;rename_i t;simp only[Ae]at hc;subst hc;have gen:(t=true->K x)/\(t=false->K y)->Yields P F w os (do pure (if ← asBool (.bool t) then ux else uy)) K:=λg=>by
  cases t
  ·exact⟨y,uy,g.2 rfl,by simp[asBool],hy⟩
  ·exact⟨x,ux,g.1 rfl,by simp[asBool],hx⟩
 refine gen ?_;split at h
 ·rename_i h1;cases h1;constructor
  ·intro e;simpa [e] using h
  ·intro e;simpa [e] using h
 ·rename_i h1 _;cases h1;exact h
 ·exact h.elim
theorem oC {x:AV}{u:Value}(hr:Rel F os s a w)(h:cY s.st x K)(hx:Ae F w os x u):∃v,K v/\(∃ad,u=.pointer (some ad))/\Ae F w os v u:=by
 cases x<;>simp only[cY]at h
 case ptr id g i off=>
  obtain⟨row,zh,hg,hk⟩:=BL h;refine⟨_,hk,?_,hx⟩;simp only[Ae]at hx;obtain⟨o,ho,_,_,h2⟩:=hx;have:row=o.row:=by
   have:=hr.st;rw[<- this,uP,ho]at zh;simpa using zh.symm
  subst this;obtain⟨_,_,b,_,rfl⟩:=h2 hg;exact⟨_,rfl⟩
 case Bj y off=>
  refine⟨_,h,?_,hx⟩;simp only[Ae]at hx;obtain⟨b,o,rfl,_⟩:=hx;exact⟨_,rfl⟩
theorem oX {op:BinOp}{t:TypeId}{k:IntKind}{x y:Int}(h:gp op k x y K):Yields P F w os (binOp op t (.int k x) (.int k y)) K:=by
 cases op<;>simp only[gp]at h
 case quo=>exact .int h.2 (by simp[binOp,Op.intDiv,h.1])
 case rem=>exact .int h.2 (by simp[binOp,Op.intDiv,h.1])
 case add=>exact .int h (by simp[binOp,Op.intArith])
 case sub=>exact .int h (by simp[binOp,Op.intArith])
 case mul=>exact .int h (by simp[binOp,Op.intArith])
 case xor=>exact .int h (by simp[binOp,Op.intBits])
 all_goals exact .bool h (by simp[binOp,Op.intCmp])
theorem run_equal_bool {t:TypeId}(hu:P.underlying t=some .bool)(a b:Bool):(Op.equal t (.bool a) (.bool b)).run P w=.ok (a==b) w:=by
 have hd:∀d,(Op.equalIn (d+1) t (.bool a) (.bool b)).run P w=.ok (a==b) w:=λd=>by
  simp only[Op.equalIn,vU,vn hu,vS,vv]
 have:Op.maxDepth=9999+1:=rfl;unfold Op.equal;rw[this];exact hd 9999
theorem nB {op:BinOp}{t:TypeId}{x y:AV}{ux uy:Value}{ox oy:Operand}(h:Yy P t op x y K)(hx:Ae F w os x ux)(hy:Ae F w os y uy):
  Yields P F w os (do eqGuard op t ox oy ux uy;binOp op t ux uy) K:=by
 have hlift:∀ux uy,(∀b,ux≠.nilIface/\ux≠.agg b)->Yields P F w os (binOp op t ux uy) K->Yields P F w os (do eqGuard op t ox oy ux uy;binOp op t ux uy) K:=by
  rintro ux uy hne ⟨v,u,h1,h2,h3⟩;refine⟨v,u,h1,?_,h3⟩;have hg:(eqGuard op t ox oy ux uy).run P w=.ok () w:=by
   unfold eqGuard;cases op<;>simp<;>(cases ux<;>first|exact absurd rfl (hne #[]).1|exact absurd rfl (hne _).2|simp)
  simp[hg,h2]
 unfold Yy at h;split at h
 ·obtain⟨rfl,h⟩:=h;simp only[Ae]at hx hy;subst hx;subst hy;exact hlift _ _ (by simp) (oX h)
 ·obtain⟨hb,h⟩:=h;simp only[Ae]at hx hy;subst hx;subst hy;have hu:P.underlying t=some .bool:=by
   unfold Q4 at hb;split at hb
   ·assumption
   ·cases hb
  refine hlift _ _ (by simp) ?_;split at h
  ·exact .bool h (by simp[binOp,run_equal_bool hu])
  ·rename_i p q _;exact .bool h (by simp only[binOp,vU,run_equal_bool hu,vS,vv];cases p<;>cases q<;>rfl)
  ·exact h.elim
 ·exact h.elim
theorem qq {op:UnOp}{x:AV}{ux:Value}(h:mH op x K)(hx:Ae F w os x ux):Yields P F w os (Op.unary op ux) K:=by
 unfold mH at h;split at h
 ·simp only[Ae]at hx;subst hx;exact .bool h (by simp[Op.unary])
 ·simp only[Ae]at hx;subst hx;exact .int h (by simp[Op.unary,Op.intArith])
 ·exact h.elim
theorem Rel.row {id:Nat}{row:Row}(hr:Rel F os s a w)(h:s.st[id]?=some row):∃o,os[id]?=some o/\o.row=row:=by
 rw[<- hr.st,uP]at h;cases ho:os[id]? with
 | none=>rw[ho]at h;cases h
 | some o=>rw[ho]at h;exact⟨o,rfl,by simpa using h⟩
def Q1 (F:Nat->Prop)(w:World)(os:List Own)(b o:Nat)(x:List AV):Prop:=
 ∀(j:Nat) c,x[j]?=some c->∃u,w.cell? ⟨b,o+j,none⟩=some u/\c.kept=true/\Ae F w os c u
theorem LG {t:TypeId}{ti:Bool×Nat}(h:DJ P t=some ti):∃d i,P.underlying t=some d/\P.info? t=some i/\ti.1=Ym d/\ti.2=i.size:=by
 unfold DJ at h;split at h
 ·rename_i d i hd hi;simp only[uO]at h;subst h;exact⟨d,i,hd,hi,rfl,rfl⟩
 ·cases h
theorem Nr {t:TypeId}{d:TypeDesc}(hu:P.underlying t=some d):(isAgg t).run P w=.ok (Ym d) w:=by
 unfold isAgg;rw[vU,vn hu w];cases d<;>simp[Ym]
theorem DM (b o i:Nat):(⟨b,o,none⟩:Addr).add i=⟨b,o+i,none⟩:=by
 unfold Addr.add;split<;>simp_all
theorem X2 {t:TypeId}{ti:Bool×Nat}(ht:DJ P t=some ti){b o:Nat}{x:List AV}{off:Nat}(hx:Q1 F w os b o x)(h:Nj ti.1 ti.2 x off K):
  Yields P F w os (loadVar t ⟨b,o+off,none⟩) K:=by
 obtain⟨d,i,hu,hi,e1,e2⟩:=LG ht;unfold Nj at h;have hsz:(sizeOf t).run P w=.ok i.size w:=by simp[sizeOf,typeInfo,hi]
 have hag:=Nr (w:=w) hu;rw[<- e1]at hag;split at h
 ·rename_i hagg;obtain⟨hl,hk⟩:=h;rw[hagg]at hag;have :∀j,j<ti.2->∃u,w.cell? ((⟨b,o+off,none⟩:Addr).add j)=some u/\∀c,x[off+j]?=some c->Ae F w os c u:=λj hj=>by
   have hlt:off+j<x.length:=by omega
   obtain⟨u,hu1,_,hu2⟩:=hx (off+j) x[off+j] (uQ hlt);refine⟨u,by rw[DM,<- hu1,wZ],λc hc=>?_⟩;rw[uQ hlt,uO]at hc;exact hc▸hu2
  have hch:∃f:Nat->Value,∀j,j<ti.2->w.cell? ((⟨b,o+off,none⟩:Addr).add j)=some (f j)/\∀c,x[off+j]?=some c->Ae F w os c (f j):=
   ⟨λj=>(w.cell? ((⟨b,o+off,none⟩:Addr).add j)).getD undef,λj hj=>by
    obtain⟨u,hu1,hu2⟩:=this j hj;simp only[hu1,wq];exact⟨uM,hu2⟩⟩
  obtain⟨f,hf⟩:=hch;refine⟨_,.agg ((List.range ti.2).map f).toArray,hk,?_,?_⟩
  ·have hlc:=run_loadCells (P:=P) w ⟨b,o+off,none⟩ ti.2 f (λj hj=>(hf j hj).1);simp[loadVar,hag,hsz,<- e2,hlc]
  ·simp only[Ae];refine⟨_,rfl,DZ (by simp;omega) λj c u hc hu=>?_⟩;simp only[vN,vZ]at hc;split at hc
   ·rename_i hj;simp only[uP,wY hj,vY,uO]at hu;subst hu;exact (hf j hj).2 c hc
   ·cases hc
 ·rename_i hagg;obtain⟨c,hc,hk⟩:=BL h;obtain⟨u,hu1,_,hu2⟩:=hx off c hc;simp only[yZ]at hagg;rw[hagg]at hag;exact⟨c,u,hk,by simp[loadVar,hag,hu1],hu2⟩
theorem Rel.XZ {id:Nat}{o:Own}(hr:Rel F os s a w)(ho:os[id]?=some o){b:Nat}(hb:o.Ea=some b){i:Nat}{x:List AV}(hx:o.row.xs[i]?=some x):
  Q1 F w os b (i*o.row.size) x:=by
 have zp:=hr.rows id o ho;obtain⟨_,cur,AAF,hsz,hlen,_,AAE⟩:=zp.some b hb;intro j c hc;obtain⟨u,hu1,hu2⟩:=AAE i x hx j c hc;refine⟨u,?_,(zp.lens x (uL hx)).2 c (uL hc),hu2⟩;rw[wm w b _ cur _ _ AAF];exact hu1
theorem OD {b o:Nat}{x:List AV}(h:FU F w x b o):Q1 F w os b o x:=λj c hc=>by
 obtain⟨u,h1,h2,h3⟩:=QM h j c hc;exact⟨u,h1,DL h2,XD os h3⟩
theorem cy {t:TypeId}{v:AV}{u:Value}(hr:Rel F os s a w)(h:TA P s.st t v K)(hv:Ae F w os v u):Yields P F w os (Instr.loadAt t u) K:=by
 obtain⟨ti,ht,h⟩:=BL h;cases v with
 | ptr id g i off=>
  obtain⟨row,zh,hg,h0⟩:=BL h;obtain⟨x,hx,h1⟩:=BL h0;obtain⟨o,ho,rfl⟩:=hr.row zh;simp only[Ae]at hv;obtain⟨o',ho',_,_,hv⟩:=hv;rw[ho]at ho';cases ho';obtain⟨_,_,b,hb,rfl⟩:=hv hg;simpa [Instr.loadAt,Instr.sureAddr,Yields] using X2 ht (hr.XZ ho hb hx) h1
 | Bj x off=>
  simp only[Ae]at hv;obtain⟨b,o,rfl,hb,hc⟩:=hv;simpa [Instr.loadAt,Instr.sureAddr,Yields] using X2 ht (OD hc) h
 | _=>exact h.elim
theorem aZ {t:TypeId}{f:Nat}{v:AV}{u:Value}(hr:Rel F os s a w)(h:OY P t v f s.st K)(hv:Ae F w os v u):Yields P F w os (Instr.fieldAt t u f) K:=by
 obtain⟨o,ho,h⟩:=BL h;unfold G7 at ho;split at ho<;>try (cases ho;done)
 rename_i fs hu;split at ho<;>try (cases ho;done)
 rename_i g hg;split at ho<;>try (cases ho;done)
 rename_i i hi;split at ho
 ·cases ho
 rename_i hz;simp only[uO]at ho;have hrun:∀b off,(Instr.fieldAt t (.pointer (some ⟨b,off,none⟩)) f).run P w=.ok (.pointer (some ⟨b,off+o,none⟩)) w:=λb off=>by
  simp[Instr.fieldAt,vn hu,hg,Instr.sureAddr,fieldPlace,sizeOf,typeInfo,hi,hz,DM,ho]
 cases v with
 | ptr id gg i off=>
  obtain⟨row,zh,hg,hle,hk⟩:=BL h;obtain⟨ow,how,rfl⟩:=hr.row zh;have hv':=hv;simp only[Ae]at hv;obtain⟨o',ho',hge,_,hv⟩:=hv;rw[how]at ho';cases ho';obtain⟨h1,h2,b,hb,rfl⟩:=hv hg;refine⟨_,_,hk,hrun _ _,?_⟩;simp only[Ae];exact⟨ow,how,hge,⟨_,rfl⟩,λ_=>⟨h1,hle,b,hb,by rw[wZ]⟩⟩
 | Bj x off=>
  simp only[Ae]at hv;obtain⟨b,o',rfl,hb,hc⟩:=hv;exact⟨_,_,h,hrun _ _,by simp only[Ae];exact⟨b,o',by rw[wZ],hb,hc⟩⟩
 | _=>exact h.elim
theorem J3 {t:TypeId}{ei:jl}(h:Ck P t=some ei):∃i z,P.underlying t=some (.slice ei.e)/\P.info? ei.e=some i/\i.zero=some z/\z.cells.size=i.size/\0<i.size/\ei.size=i.size/\ei.bytes=i.bytes/\
  ei.zero=z.cells.toList.map NO/\∀c∈ei.zero,c.leaf=true:=by
 unfold Ck at h;split at h<;>try (cases h;done)
 rename_i e hu;split at h<;>try (cases h;done)
 rename_i i hi;split at h<;>try (cases h;done)
 rename_i z hz;split at h<;>try (cases h;done)
 rename_i hc;simp only[uO]at h;subst h;exact⟨i,z,hu,hi,hz,hc.1,hc.2.1,rfl,rfl,rfl,λc hm=>uS.1 hc.2.2 c hm⟩
theorem aD {t:TypeId}{x i:AV}{ux ui:Value}(hr:Rel F os s a w)(h:Mi P s.st t x i K)(hx:Ae F w os x ux)(hi:Ae F w os i ui):Yields P F w os (Instr.indexAt t ux ui) K:=by
 obtain⟨ei,he,h⟩:=BL h;obtain⟨inf,z,hu,hinf,_,_,hpos,hsz,_⟩:=J3 he;have hs:(sizeOf ei.e).run P w=.ok ei.size w:=by simp[sizeOf,typeInfo,hinf,hsz]
 have hrun:∀b o n c k (j:Int),0<=j->j<(n:Nat)->(Instr.indexAt t (.slice (some ⟨b,o,none⟩) n c) (.int k j)).run P w=.ok (.pointer (some ⟨b,o+j.toNat*ei.size,none⟩)) w:=λb o n c k j h0 h1=>by
  have hn:¬ (n<=1/\False):=by simp
  simp[Instr.indexAt,asIntOf,vn hu,h0,h1,hs,DM]
 cases x with
 | own id g n=>
  cases i with
  | int k j=>
   obtain⟨h0,h1,h⟩:=h;obtain⟨row,zh,hg,hrs,hk⟩:=BL h;obtain⟨ow,how,rfl⟩:=hr.row zh;simp only[Ae]at hx hi;subst hi;obtain⟨o',ho',hge,_,hv⟩:=hx;rw[how]at ho';cases ho';obtain⟨hl,hv⟩:=hv hg;rcases hv with ⟨hb,_⟩|⟨b,hb,rfl⟩
   ·have:=(hr.rows id ow how).none hb;simp[this.1]at hl;omega
   ·refine⟨_,_,hk,hrun _ _ _ _ _ _ h0 h1,?_⟩;simp only[Ae];exact⟨ow,how,hge,⟨_,rfl⟩,λ_=>⟨by omega,ue _,b,hb,by rw[hrs,vg];simp⟩⟩
  | _=>exact h.elim
 | sl xs=>
  cases i with
  | int k j=>
   obtain⟨h0,h⟩:=h;obtain⟨y,hy,hyl,hk⟩:=BL h;simp only[Ae]at hx hi;subst hi;obtain⟨ad,cap,rfl,_,hne⟩:=hx;have hlt:j.toNat<xs.length:=(uK.1 hy).1;obtain⟨b,o,size,rfl,hb,hss,hrows⟩:=hne (by intro e;rw[e]at hlt;simp at hlt);refine⟨_,_,hk,hrun _ _ _ _ _ _ h0 (by omega),?_⟩;have Ga:size=ei.size:=by rw[<- hyl];exact (hss y (uL hy)).symm
   subst Ga;simp only[Ae];exact⟨b,o+j.toNat*ei.size,rfl,hb,NI hss hrows _ _ hy⟩
  | _=>exact h.elim
 | _=>exact h.elim
def Cn (P:Program)(t:TypeId):Bool:=
 match P.underlying t with
 | some (.slice _)=>true
 | _=>false
theorem nP {t ty:TypeId}{x:AV}{ux:Value}(hr:Rel F os s a w)(ht:Cn P t=true)(h:kW s.st x K)(hx:Ae F w os x ux):Yields P F w os (Builtin.len_ #[t] ty #[ux]) K:=by
 unfold Cn at ht;split at ht
 case h_2=>cases ht
 rename_i e hu;have hrun:∀ad n c,(Builtin.len_ #[t] ty #[.slice ad n c]).run P w=.ok (.int .i64 n) w:=λad n c=>by
  simp[Builtin.len_,vn hu,goInt]
 cases x with
 | own id g n=>
  obtain⟨row,zh,hg,hk⟩:=BL h;obtain⟨ow,how,rfl⟩:=hr.row zh;simp only[Ae]at hx;obtain⟨o',ho',hge,_,hv⟩:=hx;rw[how]at ho';cases ho';obtain⟨hl,hv⟩:=hv hg;rcases hv with ⟨_,ad,rfl⟩|⟨b,_,rfl⟩
  ·exact .int hk (hrun _ _ _)
  ·exact .int hk (hrun _ _ _)
 | sl xs=>
  simp only[Ae]at hx;obtain⟨ad,cap,rfl,_,_⟩:=hx;exact .int h (hrun _ _ _)
 | zc=>
  simp only[Ae]at hx;obtain⟨ad,rfl⟩:=hx;exact .int h (hrun _ _ _)
 | _=>exact h.elim
theorem eO {x:AV}{ux:Value}{i:Nat}(h:Tr x i K)(hx:Ae F w os x ux):Yields P F w os (Instr.extract ux i) K:=by
 cases x with
 | CW vs=>
  obtain⟨y,hy,hk⟩:=BL h;simp only[Ae]at hx;obtain⟨us,rfl,hl⟩:=hx;obtain⟨u,hu,hru⟩:=Bo hl i y hy;exact⟨y,u,hk,by simp[Instr.extract,hu],hru⟩
 | _=>exact h.elim
theorem iX {t:TypeId}{f:Nat}{x:AV}{ux:Value}(h:QA P t x f K)(hx:Ae F w os x ux):Yields P F w os (Instr.field t ux f) K:=by
 unfold QA at h;split at h
 ·rename_i cs fs hu;obtain⟨g,hg,h⟩:=BL h;obtain⟨ti,ht,h⟩:=BL h;simp only[Ae]at hx;obtain⟨us,rfl,hl⟩:=hx;obtain⟨d,i,hud,hi,e1,e2⟩:=LG ht;have hag:=Nr (w:=w) hud;rw[<- e1]at hag;have hlen:=BR hl;unfold Nj at h;split at h
  ·rename_i hagg;rw[hagg]at hag;refine⟨_,.agg (us.toArray.extract g.offset (g.offset+ti.2)),h.2,?_,?_⟩
   ·simp[Instr.field,vn hu,hg,asAgg,part,hag,sizeOf,typeInfo,hi,e2]
   ·simp only[Ae];refine⟨(us.drop g.offset).take ti.2,by simp,DZ (by simp;omega) λj c u hc hu'=>?_⟩;simp only[vN,vZ]at hc hu';split at hc
    ·rename_i hj;rw[uX hj]at hu';obtain⟨u2,hu2,hr2⟩:=Bo hl _ _ hc;rw[hu2]at hu';cases hu';exact hr2
    ·cases hc
  ·rename_i hagg;simp only[yZ]at hagg;rw[hagg]at hag;obtain⟨c,hc,hk⟩:=BL h;obtain⟨u,hu',hru⟩:=Bo hl _ _ hc;exact⟨c,u,hk,by simp[Instr.field,vn hu,hg,asAgg,part,hag,hu'],hru⟩
 ·exact h.elim
end Go.Abs
