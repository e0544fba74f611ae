import Derived.Test.YtccficmcdkcpnaaGreatAbsB
set_option linter.all false
namespace Go.Abs
open Go
def Wz:TypeDesc->Bool
 | .struct _|.array _ _=>true
 | _=>false
def De (P:Program)(t:TypeId):Option (Bool×Nat):=
 match P.underlying t,P.info? t with
 | some d,some i=>some (Wz d,i.size)
 | _,_=>none
structure fI where
 e:TypeId
 size:Nat
 bytes:Nat
 zero:List AV
def DR (P:Program)(t:TypeId):Option fI:=
 match P.underlying t with
 | some (.slice e)=>match P.info? e with
  | some i=>match i.zero with
   | some z=>if z.cells.size=i.size/\0<i.size/\(z.cells.toList.map OX).all AV.leaf then some ⟨e,i.size,i.bytes,z.cells.toList.map OX⟩ else none
   | none=>none
  | none=>none
 | _=>none
def HH (P:Program)(s:TypeId)(f:Nat):Option Nat:=
 match P.underlying s with
 | some (.struct fs)=>match fs[f]? with
  | some g=>match P.info? g.type with
   | some i=>if i.size=0 then none else some g.offset
   | none=>none
  | none=>none
 | _=>none
def Gb {α:Type}(o:Option α)(K:α->Prop):Prop:=
 match o with
 | some a=>K a
 | none=>False
theorem An {α:Type}{o:Option α}{K:α->Prop}(a:α)(h:o=some a)(hk:K a):Gb o K:=by rw[h];exact hk
theorem BN {α:Type}{o:Option α}{K:α->Prop}(h:Gb o K):∃a,o=some a/\K a:=by
 cases o with
 | none=>exact h.elim
 | some a=>exact⟨a,rfl,h⟩
def Rw (c a b:AV)(K:AV->Prop):Prop:=
 match c,a,b with
 | .bool t,.bool p,.bool q=>K (.bool (if t then p else q))
 | .bool t,x,y=>(t=true->K x)/\(t=false->K y)
 | _,_,_=>False
def Zs (st:List Row)(x:AV)(K:AV->Prop):Prop:=
 match x with
 | .ptr id g i off=>Gb st[id]? λrow=>row.gen=g/\K (.ptr id g i off)
 | .CT x off=>K (.CT x off)
 | _=>False
def bx (op:BinOp)(k:IntKind)(a b:Int)(K:AV->Prop):Prop:=
 match op with
 | .add=>K (.int k (k.wrap (a+b)))
 | .sub=>K (.int k (k.wrap (a-b)))
 | .mul=>K (.int k (k.wrap (a*b)))
 | .quo=>b≠0/\K (.int k (k.wrap (a.tdiv b)))
 | .rem=>b≠0/\K (.int k (a.tmod b))
 | .eql=>K (.bool (a==b))
 | .neq=>K (.bool (a != b))
 | .lss=>K (.bool (decide (a<b)))
 | .leq=>K (.bool (decide (a<=b)))
 | .gtr=>K (.bool (decide (a > b)))
 | .geq=>K (.bool (decide (a ≥ b)))
 | .xor=>K (.int k (k.wrap (BitVec.ofInt k.bits a ^^^ BitVec.ofInt k.bits b).toNat))
 | _=>False
def P4 (P:Program)(t:TypeId):Bool:=
 match P.underlying t with
 | some .bool=>true
 | _=>false
def XC (P:Program)(t:TypeId)(op:BinOp)(x y:AV)(K:AV->Prop):Prop:=
 match x,y with
 | .int k a,.int k' b=>k=k'/\bx op k a b K
 | .bool a,.bool b=>P4 P t=true/\match op with
  | .eql=>K (.bool (a==b))
  | .neq=>K (.bool (a != b))
  | _=>False
 | _,_=>False
def iE (op:UnOp)(x:AV)(K:AV->Prop):Prop:=
 match op,x with
 | .not,.bool b=>K (.bool (!b))
 | .neg,.int k n=>K (.int k (k.wrap (-n)))
 | _,_=>False
def ND (agg:Bool)(size:Nat)(x:List AV)(off:Nat)(K:AV->Prop):Prop:=
 if agg then off+size<=x.length/\K (.agg ((x.drop off).take size)) else Gb x[off]? K
def SA (P:Program)(st:List Row)(t:TypeId)(v:AV)(K:AV->Prop):Prop:=
 Gb (De P t) λti=>match v with
  | .ptr id g i off=>Gb st[id]? λrow=>row.gen=g/\Gb row.xs[i]? λx=>ND ti.1 ti.2 x off K
  | .CT x off=>ND ti.1 ti.2 x off K
  | _=>False
def Nh (P:Program)(s:TypeId)(v:AV)(f:Nat)(st:List Row)(K:AV->Prop):Prop:=
 Gb (HH P s f) λo=>match v with
  | .ptr id g i off=>Gb st[id]? λrow=>row.gen=g/\off+o<=row.size/\K (.ptr id g i (off+o))
  | .CT x off=>K (.CT x (off+o))
  | _=>False
def MD (P:Program)(st:List Row)(t:TypeId)(x i:AV)(K:AV->Prop):Prop:=
 Gb (DR P t) λei=>match x,i with
  | .own id g n,.int _ j=>0<=j/\j<n/\Gb st[id]? λrow=>row.gen=g/\row.size=ei.size/\K (.ptr id g (row.xs.length-n+j.toNat) 0)
  | .sl xs,.int _ j=>0<=j/\Gb xs[j.toNat]? λy=>y.length=ei.size/\K (.CT y 0)
  | _,_=>False
def fh (st:List Row)(x:AV)(K:AV->Prop):Prop:=
 match x with
 | .own id g n=>Gb st[id]? λrow=>row.gen=g/\K (.int .i64 n)
 | .sl xs=>K (.int .i64 xs.length)
 | .zc=>K (.int .i64 0)
 | _=>False
def PJ (P:Program)(t:TypeId)(x:AV)(f:Nat)(K:AV->Prop):Prop:=
 match x,P.underlying t with
 | .agg cs,some (.struct fs)=>Gb fs[f]? λg=>Gb (De P g.type) λti=>ND ti.1 ti.2 cs g.offset K
 | _,_=>False
def Sm (x:AV)(i:Nat)(K:AV->Prop):Prop:=
 match x with
 | .Dv vs=>Gb vs[i]? K
 | _=>False
theorem CJ {F:Nat->Prop}{w:World}{os:List Own}:∀{xs:List AV} {us:List Value},Bw F w os xs us->∀(i:Nat) (x:AV),xs[i]?=some x->∃u,us[i]?=some u/\Ac F w os x u
 | [],_,_,i,x,hx=>by simp at hx
 | y::r,us,h,i,x,hx=>by
  simp only[Bw]at h;obtain⟨u,yO,rfl,h1,h2⟩:=h;cases i with
  | zero=>simp only[qg,pz]at hx;subst hx;exact⟨u,rfl,h1⟩
  | succ i=>simp only[qq]at hx⊢;exact CJ h2 i x hx
theorem BW {F:Nat->Prop}{w:World}{os:List Own}:∀{xs:List AV} {us:List Value},Bw F w os xs us->us.length=xs.length
 | [],us,h=>by simp only[Bw]at h;simp[h]
 | y::r,us,h=>by
  simp only[Bw]at h;obtain⟨u,yO,rfl,h1,h2⟩:=h;simp[BW h2]
theorem Df {F:Nat->Prop}{w:World}{os:List Own}:∀{xs:List AV} {us:List Value},us.length=xs.length->(∀(i:Nat) x u,xs[i]?=some x->us[i]?=some u->Ac F w os x u)->Bw F w os xs us
 | [],us,h,_=>by simp only[Bw];exact qV (by simpa using h)
 | y::r,[],h,_=>by simp at h
 | y::r,u::us,h,hi=>by
  simp only[Bw];exact⟨u,us,rfl,hi 0 y u rfl rfl,Df (by simpa using h) λi x u hx hu=>hi (i+1) x u (by simpa using hx) (by simpa using hu)⟩
theorem Pr {F:Nat->Prop}{w:World}:∀{xs:List AV} {b o:Nat},F3 F w xs b o->∀(i:Nat) x,xs[i]?=some x->∃u,w.cell? ⟨b,o+i,none⟩=some u/\x.leaf=true/\Ac F w [] x u
 | [],_,_,_,i,x,hx=>by simp at hx
 | y::r,b,o,h,i,x,hx=>by
  simp only[F3]at h;cases i with
  | zero=>simp only[qg,pz]at hx;subst hx;exact h.1
  | succ i=>
   simp only[qq]at hx;have:=Pr h.2 i x hx;rwa [show o+1+i=o+(i+1) by omega]at this
theorem LG {F:Nat->Prop}{w:World}:∀{xs:List AV} {b o:Nat},(∀(i:Nat) x,xs[i]?=some x->∃u,w.cell? ⟨b,o+i,none⟩=some u/\x.leaf=true/\Ac F w [] x u)->F3 F w xs b o
 | [],_,_,_=>by simp[F3]
 | y::r,b,o,h=>by
  simp only[F3];refine⟨h 0 y rfl,LG λi x hx=>?_⟩;have:=h (i+1) x (by simpa using hx);rwa [show o+(i+1)=o+1+i by omega]at this
theorem Mb {F:Nat->Prop}{w:World}{size:Nat}:∀{xs:List (List AV)} {b o:Nat},(∀x∈xs,x.length=size)->Ih F w xs b o->∀(i:Nat) x,xs[i]?=some x->F3 F w x b (o+i*size)
 | [],_,_,_,_,i,x,hx=>by simp at hx
 | y::r,b,o,hs,h,i,x,hx=>by
  simp only[Ih]at h;cases i with
  | zero=>simp only[qg,pz]at hx;subst hx;simpa using h.1
  | succ i=>
   simp only[qq]at hx;have:=Mb (λx hx=>hs x (by simp[hx])) h.2 i x hx;rw[hs y (by simp)]at this;rwa [show o+size+i*size=o+(i+1)*size by rw[qn];omega]at this
theorem L8 {F:Nat->Prop}{w:World}{size:Nat}:∀{xs:List (List AV)} {b o:Nat},(∀x∈xs,x.length=size)->(∀(i:Nat) x,xs[i]?=some x->F3 F w x b (o+i*size))->Ih F w xs b o
 | [],_,_,_,_=>by simp[Ih]
 | y::r,b,o,hs,h=>by
  simp only[Ih];refine⟨by simpa using h 0 y rfl,L8 (λx hx=>hs x (by simp[hx])) λi x hx=>?_⟩;have:=h (i+1) x (by simpa using hx);rw[hs y (by simp)];rwa [show o+(i+1)*size=o+size+i*size by rw[qn];omega]at this
theorem Zm {F:Nat->Prop}{w:World}(os:List Own){x:AV}{u:Value}(h:Ac F w [] x u):Ac F w os x u:=
 Ds (λ_ h=>h) (λ_ _=>rfl) [] os (by simp) x u h
theorem RA {F:Nat->Prop}{w:World}{os:List Own}{x:AV}{u:Value}(hl:x.leaf=true)(h:Ac F w os x u):u.oneCell'=true:=by
 cases x<;>simp only[AV.leaf,py]at hl<;>simp only[Ac]at h
 case int=>subst h;rfl
 case bool=>subst h;rfl
 case str=>subst h;rfl
 case zc=>obtain⟨a,rfl⟩:=h;rfl
 case R3=>subst h;rfl
 case Rl=>subst h;rfl
 case ex=>obtain⟨rfl,h⟩:=h;exact h
 case bd=>obtain⟨us,rfl,_⟩:=h;rfl
 case sl=>obtain⟨a,cap,rfl,_⟩:=h;rfl
 case own=>obtain⟨o,_,_,⟨a,l,c,rfl⟩,_⟩:=h;rfl
 case ptr=>obtain⟨o,_,_,⟨a,rfl⟩,_⟩:=h;rfl
 case CT=>obtain⟨b,o,rfl,_⟩:=h;rfl
 case fn=>obtain⟨us,rfl,_⟩:=h;rfl
theorem ZL {F:Nat->Prop}{w:World}{os:List Own}{x:AV}{u:Value}(hl:x.kept=true)(h:Ac F w os x u):u.oneCell'=true:=by
 cases x with
 | dv=>simp only[Ac]at h;obtain⟨a,l,c,rfl⟩:=h;rfl
 | _=>exact RA (by simpa [AV.kept] using hl) h
def Yields (P:Program)(F:Nat->Prop)(w:World)(os:List Own)(zO:Sem Value)(K:AV->Prop):Prop:=
 ∃x u,K x/\zO.run P w=.ok u w/\Ac F w os x u
variable {P : Program} {F : Nat -> Prop} {os : List Own} {s : St} {a : Act} {w : World} {K : AV -> Prop}
theorem Yields.int {k:IntKind}{n:Int}{zO:Sem Value}(h:K (.int k n))(hr:zO.run P w=.ok (.int k n) w):Yields P F w os zO K:=⟨_,_,h,hr,by simp[Ac]⟩
theorem Yields.bool {b:Bool}{zO:Sem Value}(h:K (.bool b))(hr:zO.run P w=.ok (.bool b) w):Yields P F w os zO K:=⟨_,_,h,hr,by simp[Ac]⟩
theorem jN {c x y:AV}{uc ux uy:Value}(h:Rw c x y K)(hc:Ac F w os c uc)(hx:Ac F w os x ux)(hy:Ac F w os y uy):
  Yields P F w os (do pure (if ← asBool uc then ux else uy)) K:=by
 cases c<;>simp only[Rw]at h;rename_i t;simp only[Ac]at hc;subst hc;have gen:(t=true->K x)/\(t=false->K y)->Yields P F w os (do pure (if ← asBool (.bool t) then ux else uy)) K:=λg=>by
  cases t
  ·exact⟨y,uy,g.2 rfl,by simp[asBool],hy⟩
  ·exact⟨x,ux,g.1 rfl,by simp[asBool],hx⟩
 refine gen ?_;split at h
 ·rename_i h1;cases h1;constructor
  ·intro e;simpa [e] using h
  ·intro e;simpa [e] using h
 ·rename_i h1 _;cases h1;exact h
 ·exact h.elim
theorem kU {x:AV}{u:Value}(hr:Rel F os s a w)(h:Zs s.st x K)(hx:Ac F w os x u):∃v,K v/\(∃ad,u=.pointer (some ad))/\Ac F w os v u:=by
 cases x<;>simp only[Zs]at h
 case ptr id g i off=>
  obtain⟨row,uj,hg,hk⟩:=BN h;refine⟨_,hk,?_,hx⟩;simp only[Ac]at hx;obtain⟨o,ho,_,_,h2⟩:=hx;have:row=o.row:=by
   have:=hr.st;rw[<- this,qA,ho]at uj;simpa using uj.symm
  subst this;obtain⟨_,_,b,_,rfl⟩:=h2 hg;exact⟨_,rfl⟩
 case CT y off=>
  refine⟨_,h,?_,hx⟩;simp only[Ac]at hx;obtain⟨b,o,rfl,_⟩:=hx;exact⟨_,rfl⟩
theorem kO {op:BinOp}{t:TypeId}{k:IntKind}{x y:Int}(h:bx op k x y K):Yields P F w os (binOp op t (.int k x) (.int k y)) K:=by
 cases op<;>simp only[bx]at h
 case quo=>exact .int h.2 (by simp[binOp,Op.intDiv,h.1])
 case rem=>exact .int h.2 (by simp[binOp,Op.intDiv,h.1])
 case add=>exact .int h (by simp[binOp,Op.intArith])
 case sub=>exact .int h (by simp[binOp,Op.intArith])
 case mul=>exact .int h (by simp[binOp,Op.intArith])
 case xor=>exact .int h (by simp[binOp,Op.intBits])
 all_goals exact .bool h (by simp[binOp,Op.intCmp])
theorem run_equal_bool {t:TypeId}(hu:P.underlying t=some .bool)(a b:Bool):(Op.equal t (.bool a) (.bool b)).run P w=.ok (a==b) w:=by
 have hd:∀d,(Op.equalIn (d+1) t (.bool a) (.bool b)).run P w=.ok (a==b) w:=λd=>by
  simp only[Op.equalIn,qs,rD hu,qp,rH]
 have:Op.maxDepth=9999+1:=rfl;unfold Op.equal;rw[this];exact hd 9999
theorem kb {op:BinOp}{t:TypeId}{x y:AV}{ux uy:Value}{ox oy:Operand}(h:XC P t op x y K)(hx:Ac F w os x ux)(hy:Ac F w os y uy):
  Yields P F w os (do eqGuard op t ox oy ux uy;binOp op t ux uy) K:=by
 have hlift:∀ux uy,(∀b,ux≠.nilIface/\ux≠.agg b)->Yields P F w os (binOp op t ux uy) K->Yields P F w os (do eqGuard op t ox oy ux uy;binOp op t ux uy) K:=by
  rintro ux uy vZ ⟨v,u,h1,h2,h3⟩;refine⟨v,u,h1,?_,h3⟩;have hg:(eqGuard op t ox oy ux uy).run P w=.ok () w:=by
   unfold eqGuard;cases op<;>simp<;>(cases ux<;>first|exact absurd rfl (vZ #[]).1|exact absurd rfl (vZ _).2|simp)
  simp[hg,h2]
 unfold XC at h;split at h
 ·obtain⟨rfl,h⟩:=h;simp only[Ac]at hx hy;subst hx;subst hy;exact hlift _ _ (by simp) (kO h)
 ·obtain⟨hb,h⟩:=h;simp only[Ac]at hx hy;subst hx;subst hy;have hu:P.underlying t=some .bool:=by
   unfold P4 at hb;split at hb
   ·assumption
   ·cases hb
  refine hlift _ _ (by simp) ?_;split at h
  ·exact .bool h (by simp[binOp,run_equal_bool hu])
  ·rename_i p q _;exact .bool h (by simp only[binOp,qs,run_equal_bool hu,qp,rH];cases p<;>cases q<;>rfl)
  ·exact h.elim
 ·exact h.elim
theorem mI {op:UnOp}{x:AV}{ux:Value}(h:iE op x K)(hx:Ac F w os x ux):Yields P F w os (Op.unary op ux) K:=by
 unfold iE at h;split at h
 ·simp only[Ac]at hx;subst hx;exact .bool h (by simp[Op.unary])
 ·simp only[Ac]at hx;subst hx;exact .int h (by simp[Op.unary,Op.intArith])
 ·exact h.elim
theorem Rel.row {id:Nat}{row:Row}(hr:Rel F os s a w)(h:s.st[id]?=some row):∃o,os[id]?=some o/\o.row=row:=by
 rw[<- hr.st,qA]at h;cases ho:os[id]? with
 | none=>rw[ho]at h;cases h
 | some o=>rw[ho]at h;exact⟨o,rfl,by simpa using h⟩
def Oh (F:Nat->Prop)(w:World)(os:List Own)(b o:Nat)(x:List AV):Prop:=
 ∀(j:Nat) c,x[j]?=some c->∃u,w.cell? ⟨b,o+j,none⟩=some u/\c.kept=true/\Ac F w os c u
theorem Kd {t:TypeId}{ti:Bool×Nat}(h:De P t=some ti):∃d i,P.underlying t=some d/\P.info? t=some i/\ti.1=Wz d/\ti.2=i.size:=by
 unfold De at h;split at h
 ·rename_i d i hd hi;simp only[pz]at h;subst h;exact⟨d,i,hd,hi,rfl,rfl⟩
 ·cases h
theorem Mp {t:TypeId}{d:TypeDesc}(hu:P.underlying t=some d):(isAgg t).run P w=.ok (Wz d) w:=by
 unfold isAgg;rw[qs,rD hu w];cases d<;>simp[Wz]
theorem Db (b o i:Nat):(⟨b,o,none⟩:Addr).add i=⟨b,o+i,none⟩:=by
 unfold Addr.add;split<;>simp_all
theorem WH {t:TypeId}{ti:Bool×Nat}(ht:De P t=some ti){b o:Nat}{x:List AV}{off:Nat}(hx:Oh F w os b o x)(h:ND ti.1 ti.2 x off K):
  Yields P F w os (loadVar t ⟨b,o+off,none⟩) K:=by
 obtain⟨d,i,hu,hi,e1,e2⟩:=Kd ht;unfold ND at h;have vY:(sizeOf t).run P w=.ok i.size w:=by simp[sizeOf,typeInfo,hi]
 have yC:=Mp (w:=w) hu;rw[<- e1]at yC;split at h
 ·rename_i zA;obtain⟨hl,hk⟩:=h;rw[zA]at yC;have :∀j,j<ti.2->∃u,w.cell? ((⟨b,o+off,none⟩:Addr).add j)=some u/\∀c,x[off+j]?=some c->Ac F w os c u:=λj hj=>by
   have vS:off+j<x.length:=by omega
   obtain⟨u,hu1,_,xg⟩:=hx (off+j) x[off+j] (qD vS);refine⟨u,by rw[Db,<- hu1,rF],λc hc=>?_⟩;rw[qD vS,pz]at hc;exact hc▸xg
  have hch:∃f:Nat->Value,∀j,j<ti.2->w.cell? ((⟨b,o+off,none⟩:Addr).add j)=some (f j)/\∀c,x[off+j]?=some c->Ac F w os c (f j):=
   ⟨λj=>(w.cell? ((⟨b,o+off,none⟩:Addr).add j)).getD undef,λj hj=>by
    obtain⟨u,hu1,xg⟩:=this j hj;simp only[hu1,sN];exact⟨pw,xg⟩⟩
  obtain⟨f,hf⟩:=hch;refine⟨_,.agg ((List.range ti.2).map f).toArray,hk,?_,?_⟩
  ·have hlc:=run_loadCells (P:=P) w ⟨b,o+off,none⟩ ti.2 f (λj hj=>(hf j hj).1);simp[loadVar,yC,vY,<- e2,hlc]
  ·simp only[Ac];refine⟨_,rfl,Df (by simp;omega) λj c u hc hu=>?_⟩;simp only[ql,qy]at hc;split at hc
   ·rename_i hj;simp only[qA,sH hj,qx,pz]at hu;subst hu;exact (hf j hj).2 c hc
   ·cases hc
 ·rename_i zA;obtain⟨c,hc,hk⟩:=BN h;obtain⟨u,hu1,_,xg⟩:=hx off c hc;simp only[te]at zA;rw[zA]at yC;exact⟨c,u,hk,by simp[loadVar,yC,hu1],xg⟩
theorem Rel.Si {id:Nat}{o:Own}(hr:Rel F os s a w)(ho:os[id]?=some o){b:Nat}(hb:o.GB=some b){i:Nat}{x:List AV}(hx:o.row.xs[i]?=some x):
  Oh F w os b (i*o.row.size) x:=by
 have vF:=hr.rows id o ho;obtain⟨_,cur,vU,vY,hlen,_,vR⟩:=vF.some b hb;intro j c hc;obtain⟨u,hu1,xg⟩:=vR i x hx j c hc;refine⟨u,?_,(vF.lens x (pt hx)).2 c (pt hc),xg⟩;rw[sb w b _ cur _ _ vU];exact hu1
theorem NN {b o:Nat}{x:List AV}(h:F3 F w x b o):Oh F w os b o x:=λj c hc=>by
 obtain⟨u,h1,h2,h3⟩:=Pr h j c hc;exact⟨u,h1,Du h2,Zm os h3⟩
theorem ZO {t:TypeId}{v:AV}{u:Value}(hr:Rel F os s a w)(h:SA P s.st t v K)(hv:Ac F w os v u):Yields P F w os (Instr.loadAt t u) K:=by
 obtain⟨ti,ht,h⟩:=BN h;cases v with
 | ptr id g i off=>
  obtain⟨row,uj,hg,h0⟩:=BN h;obtain⟨x,hx,h1⟩:=BN h0;obtain⟨o,ho,rfl⟩:=hr.row uj;simp only[Ac]at hv;obtain⟨o',vc,_,_,hv⟩:=hv;rw[ho]at vc;cases vc;obtain⟨_,_,b,hb,rfl⟩:=hv hg;simpa [Instr.loadAt,Instr.sureAddr,Yields] using WH ht (hr.Si ho hb hx) h1
 | CT x off=>
  simp only[Ac]at hv;obtain⟨b,o,rfl,hb,hc⟩:=hv;simpa [Instr.loadAt,Instr.sureAddr,Yields] using WH ht (NN hc) h
 | _=>exact h.elim
theorem XU {t:TypeId}{f:Nat}{v:AV}{u:Value}(hr:Rel F os s a w)(h:Nh P t v f s.st K)(hv:Ac F w os v u):Yields P F w os (Instr.fieldAt t u f) K:=by
 obtain⟨o,ho,h⟩:=BN h;unfold HH at ho;split at ho<;>try (cases ho;done)
 rename_i fs hu;split at ho<;>try (cases ho;done)
 rename_i g hg;split at ho<;>try (cases ho;done)
 rename_i i hi;split at ho
 ·cases ho
 rename_i hz;simp only[pz]at ho;have vT:∀b off,(Instr.fieldAt t (.pointer (some ⟨b,off,none⟩)) f).run P w=.ok (.pointer (some ⟨b,off+o,none⟩)) w:=λb off=>by
  simp[Instr.fieldAt,rD hu,hg,Instr.sureAddr,fieldPlace,sizeOf,typeInfo,hi,hz,Db,ho]
 cases v with
 | ptr id gg i off=>
  obtain⟨row,uj,hg,hle,hk⟩:=BN h;obtain⟨ow,how,rfl⟩:=hr.row uj;have hv':=hv;simp only[Ac]at hv;obtain⟨o',vc,yn,_,hv⟩:=hv;rw[how]at vc;cases vc;obtain⟨h1,h2,b,hb,rfl⟩:=hv hg;refine⟨_,_,hk,vT _ _,?_⟩;simp only[Ac];exact⟨ow,how,yn,⟨_,rfl⟩,λ_=>⟨h1,hle,b,hb,by rw[rF]⟩⟩
 | CT x off=>
  simp only[Ac]at hv;obtain⟨b,o',rfl,hb,hc⟩:=hv;exact⟨_,_,h,vT _ _,by simp only[Ac];exact⟨b,o',by rw[rF],hb,hc⟩⟩
 | _=>exact h.elim
theorem Ii {t:TypeId}{ei:fI}(h:DR P t=some ei):∃i z,P.underlying t=some (.slice ei.e)/\P.info? ei.e=some i/\i.zero=some z/\z.cells.size=i.size/\0<i.size/\ei.size=i.size/\ei.bytes=i.bytes/\
  ei.zero=z.cells.toList.map OX/\∀c∈ei.zero,c.leaf=true:=by
 unfold DR at h;split at h<;>try (cases h;done)
 rename_i e hu;split at h<;>try (cases h;done)
 rename_i i hi;split at h<;>try (cases h;done)
 rename_i z hz;split at h<;>try (cases h;done)
 rename_i hc;simp only[pz]at h;subst h;exact⟨i,z,hu,hi,hz,hc.1,hc.2.1,rfl,rfl,rfl,λc hm=>qC.1 hc.2.2 c hm⟩
theorem XT {t:TypeId}{x i:AV}{ux ui:Value}(hr:Rel F os s a w)(h:MD P s.st t x i K)(hx:Ac F w os x ux)(hi:Ac F w os i ui):Yields P F w os (Instr.indexAt t ux ui) K:=by
 obtain⟨ei,he,h⟩:=BN h;obtain⟨inf,z,hu,hinf,_,_,ve,vY,_⟩:=Ii he;have hs:(sizeOf ei.e).run P w=.ok ei.size w:=by simp[sizeOf,typeInfo,hinf,vY]
 have vT:∀b o n c k (j:Int),0<=j->j<(n:Nat)->(Instr.indexAt t (.slice (some ⟨b,o,none⟩) n c) (.int k j)).run P w=.ok (.pointer (some ⟨b,o+j.toNat*ei.size,none⟩)) w:=λb o n c k j h0 h1=>by
  have hn:¬ (n<=1/\False):=by simp
  simp[Instr.indexAt,asIntOf,rD hu,h0,h1,hs,Db]
 cases x with
 | own id g n=>
  cases i with
  | int k j=>
   obtain⟨h0,h1,h⟩:=h;obtain⟨row,uj,hg,hrs,hk⟩:=BN h;obtain⟨ow,how,rfl⟩:=hr.row uj;simp only[Ac]at hx hi;subst hi;obtain⟨o',vc,yn,_,hv⟩:=hx;rw[how]at vc;cases vc;obtain⟨hl,hv⟩:=hv hg;rcases hv with ⟨hb,_⟩|⟨b,hb,rfl⟩
   ·have:=(hr.rows id ow how).none hb;simp[this.1]at hl;omega
   ·refine⟨_,_,hk,vT _ _ _ _ _ _ h0 h1,?_⟩;simp only[Ac];exact⟨ow,how,yn,⟨_,rfl⟩,λ_=>⟨by omega,qd _,b,hb,by rw[hrs,qn];simp⟩⟩
  | _=>exact h.elim
 | sl xs=>
  cases i with
  | int k j=>
   obtain⟨h0,h⟩:=h;obtain⟨y,hy,hyl,hk⟩:=BN h;simp only[Ac]at hx hi;subst hi;obtain⟨ad,cap,rfl,_,vZ⟩:=hx;have vS:j.toNat<xs.length:=(px.1 hy).1;obtain⟨b,o,size,rfl,hb,hss,wV⟩:=vZ (by intro e;rw[e]at vS;simp at vS);refine⟨_,_,hk,vT _ _ _ _ _ _ h0 (by omega),?_⟩;have Hm:size=ei.size:=by rw[<- hyl];exact (hss y (pt hy)).symm
   subst Hm;simp only[Ac];exact⟨b,o+j.toNat*ei.size,rfl,hb,Mb hss wV _ _ hy⟩
  | _=>exact h.elim
 | _=>exact h.elim
def DB (P:Program)(t:TypeId):Bool:=
 match P.underlying t with
 | some (.slice _)=>true
 | _=>false
theorem kY {t ty:TypeId}{x:AV}{ux:Value}(hr:Rel F os s a w)(ht:DB P t=true)(h:fh s.st x K)(hx:Ac F w os x ux):Yields P F w os (Builtin.len_ #[t] ty #[ux]) K:=by
 unfold DB at ht;split at ht
 case h_2=>cases ht
 rename_i e hu;have vT:∀ad n c,(Builtin.len_ #[t] ty #[.slice ad n c]).run P w=.ok (.int .i64 n) w:=λad n c=>by
  simp[Builtin.len_,rD hu,goInt]
 cases x with
 | own id g n=>
  obtain⟨row,uj,hg,hk⟩:=BN h;obtain⟨ow,how,rfl⟩:=hr.row uj;simp only[Ac]at hx;obtain⟨o',vc,yn,_,hv⟩:=hx;rw[how]at vc;cases vc;obtain⟨hl,hv⟩:=hv hg;rcases hv with ⟨_,ad,rfl⟩|⟨b,_,rfl⟩
  ·exact .int hk (vT _ _ _)
  ·exact .int hk (vT _ _ _)
 | sl xs=>
  simp only[Ac]at hx;obtain⟨ad,cap,rfl,_,_⟩:=hx;exact .int h (vT _ _ _)
 | zc=>
  simp only[Ac]at hx;obtain⟨ad,rfl⟩:=hx;exact .int h (vT _ _ _)
 | _=>exact h.elim
theorem bS {x:AV}{ux:Value}{i:Nat}(h:Sm x i K)(hx:Ac F w os x ux):Yields P F w os (Instr.extract ux i) K:=by
 cases x with
 | Dv vs=>
  obtain⟨y,hy,hk⟩:=BN h;simp only[Ac]at hx;obtain⟨us,rfl,hl⟩:=hx;obtain⟨u,hu,hru⟩:=CJ hl i y hy;exact⟨y,u,hk,by simp[Instr.extract,hu],hru⟩
 | _=>exact h.elim
theorem eQ {t:TypeId}{f:Nat}{x:AV}{ux:Value}(h:PJ P t x f K)(hx:Ac F w os x ux):Yields P F w os (Instr.field t ux f) K:=by
 unfold PJ at h;split at h
 ·rename_i cs fs hu;obtain⟨g,hg,h⟩:=BN h;obtain⟨ti,ht,h⟩:=BN h;simp only[Ac]at hx;obtain⟨us,rfl,hl⟩:=hx;obtain⟨d,i,hud,hi,e1,e2⟩:=Kd ht;have yC:=Mp (w:=w) hud;rw[<- e1]at yC;have hlen:=BW hl;unfold ND at h;split at h
  ·rename_i zA;rw[zA]at yC;refine⟨_,.agg (us.toArray.extract g.offset (g.offset+ti.2)),h.2,?_,?_⟩
   ·simp[Instr.field,rD hu,hg,asAgg,part,yC,sizeOf,typeInfo,hi,e2]
   ·simp only[Ac];refine⟨(us.drop g.offset).take ti.2,by simp,Df (by simp;omega) λj c u hc xB=>?_⟩;simp only[ql,qy]at hc xB;split at hc
    ·rename_i hj;rw[qF hj]at xB;obtain⟨u2,xg,hr2⟩:=CJ hl _ _ hc;rw[xg]at xB;cases xB;exact hr2
    ·cases hc
  ·rename_i zA;simp only[te]at zA;rw[zA]at yC;obtain⟨c,hc,hk⟩:=BN h;obtain⟨u,xB,hru⟩:=CJ hl _ _ hc;exact⟨c,u,hk,by simp[Instr.field,rD hu,hg,asAgg,part,yC,xB],hru⟩
 ·exact h.elim
end Go.Abs
