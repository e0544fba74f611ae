import Derived.Test.YtihdgoiebmfapaaGreatAbsB
set_option linter.all false
namespace Go.Abs
open Go
def Ua:TypeDesc->Bool
 | .struct _|.array _ _=>true
 | _=>false
def D7 (P:Program)(t:TypeId):Option (Bool×Nat):=
 match P.underlying t,P.info? t with
 | some d,some i=>some (Ua d,i.size)
 | _,_=>none
structure aa where
 e:TypeId
 size:Nat
 bytes:Nat
 zero:List AV
def D2 (P:Program)(t:TypeId):Option aa:=
 match P.underlying t with
 | some (.slice e)=>match P.info? e with
  | some i=>match i.zero with
   | some z=>if z.cells.size=i.size/\0<i.size/\(z.cells.toList.map MF).all AV.leaf then some ⟨e,i.size,i.bytes,z.cells.toList.map MF⟩ else none
   | none=>none
  | none=>none
 | _=>none
def Hd (P:Program)(s:TypeId)(f:Nat):Option Nat:=
 match P.underlying s with
 | some (.struct fs)=>match fs[f]? with
  | some g=>match P.info? g.type with
   | some i=>if i.size=0 then none else some g.offset
   | none=>none
  | none=>none
 | _=>none
def Ff {α:Type}(o:Option α)(K:α->Prop):Prop:=
 match o with
 | some a=>K a
 | none=>False
theorem Ap {α:Type}{o:Option α}{K:α->Prop}(a:α)(h:o=some a)(hk:K a):Ff o K:=by rw[h];exact hk
theorem BN {α:Type}{o:Option α}{K:α->Prop}(h:Ff o K):∃a,o=some a/\K a:=by
 cases o with
 | none=>exact h.elim
 | some a=>exact⟨a,rfl,h⟩
def Pj (c a b:AV)(K:AV->Prop):Prop:=
 match c,a,b with
 | .bool t,.bool p,.bool q=>K (.bool (if t then p else q))
 | .bool t,x,y=>(t=true->K x)/\(t=false->K y)
 | _,_,_=>False
def W7 (st:List Row)(x:AV)(K:AV->Prop):Prop:=
 match x with
 | .ptr id g i off=>Ff st[id]? λrow=>row.gen=g/\K (.ptr id g i off)
 | .Bh x off=>K (.Bh x off)
 | _=>False
def Yx (op:BinOp)(k:IntKind)(a b:Int)(K:AV->Prop):Prop:=
 match op with
 | .add=>K (.int k (k.wrap (a+b)))
 | .sub=>K (.int k (k.wrap (a-b)))
 | .mul=>K (.int k (k.wrap (a*b)))
 | .quo=>b≠0/\K (.int k (k.wrap (a.tdiv b)))
 | .rem=>b≠0/\K (.int k (a.tmod b))
 | .eql=>K (.bool (a==b))
 | .neq=>K (.bool (a != b))
 | .lss=>K (.bool (decide (a<b)))
 | .leq=>K (.bool (decide (a<=b)))
 | .gtr=>K (.bool (decide (a > b)))
 | .geq=>K (.bool (decide (a ≥ b)))
 | .xor=>K (.int k (k.wrap (BitVec.ofInt k.bits a ^^^ BitVec.ofInt k.bits b).toNat))
 | _=>False
def Nu (P:Program)(t:TypeId):Bool:=
 match P.underlying t with
 | some .bool=>true
 | _=>false
def Um (P:Program)(t:TypeId)(op:BinOp)(x y:AV)(K:AV->Prop):Prop:=
 match x,y with
 | .int k a,.int k' b=>k=k'/\Yx op k a b K
 | .bool a,.bool b=>Nu P t=true/\match op with
  | .eql=>K (.bool (a==b))
  | .neq=>K (.bool (a != b))
  | _=>False
 | _,_=>False
def bj (op:UnOp)(x:AV)(K:AV->Prop):Prop:=
 match op,x with
 | .not,.bool b=>K (.bool (!b))
 | .neg,.int k n=>K (.int k (k.wrap (-n)))
 | _,_=>False
def Kk (agg:Bool)(size:Nat)(x:List AV)(off:Nat)(K:AV->Prop):Prop:=
 if agg then off+size<=x.length/\K (.agg ((x.drop off).take size)) else Ff x[off]? K
def PV (P:Program)(st:List Row)(t:TypeId)(v:AV)(K:AV->Prop):Prop:=
 Ff (D7 P t) λti=>match v with
  | .ptr id g i off=>Ff st[id]? λrow=>row.gen=g/\Ff row.xs[i]? λx=>Kk ti.1 ti.2 x off K
  | .Bh x off=>Kk ti.1 ti.2 x off K
  | _=>False
def LI (P:Program)(s:TypeId)(v:AV)(f:Nat)(st:List Row)(K:AV->Prop):Prop:=
 Ff (Hd P s f) λo=>match v with
  | .ptr id g i off=>Ff st[id]? λrow=>row.gen=g/\off+o<=row.size/\K (.ptr id g i (off+o))
  | .Bh x off=>K (.Bh x (off+o))
  | _=>False
def JB (P:Program)(st:List Row)(t:TypeId)(x i:AV)(K:AV->Prop):Prop:=
 Ff (D2 P t) λei=>match x,i with
  | .own id g n,.int _ j=>0<=j/\j<n/\Ff st[id]? λrow=>row.gen=g/\row.size=ei.size/\K (.ptr id g (row.xs.length-n+j.toNat) 0)
  | .sl xs,.int _ j=>0<=j/\Ff xs[j.toNat]? λy=>y.length=ei.size/\K (.Bh y 0)
  | _,_=>False
def bI (st:List Row)(x:AV)(K:AV->Prop):Prop:=
 match x with
 | .own id g n=>Ff st[id]? λrow=>row.gen=g/\K (.int .i64 n)
 | .sl xs=>K (.int .i64 xs.length)
 | .zc=>K (.int .i64 0)
 | _=>False
def Ml (P:Program)(t:TypeId)(x:AV)(f:Nat)(K:AV->Prop):Prop:=
 match x,P.underlying t with
 | .agg cs,some (.struct fs)=>Ff fs[f]? λg=>Ff (D7 P g.type) λti=>Kk ti.1 ti.2 cs g.offset K
 | _,_=>False
def Pq (x:AV)(i:Nat)(K:AV->Prop):Prop:=
 match x with
 | .Dp vs=>Ff vs[i]? K
 | _=>False
theorem CN {F:Nat->Prop}{w:World}{os:List Own}:∀{xs:List AV} {us:List Value},Br F w os xs us->∀(i:Nat) (x:AV),xs[i]?=some x->∃u,us[i]?=some u/\Ae F w os x u
 | [],_,_,i,x,hx=>by simp at hx
 | y::r,us,h,i,x,hx=>by
  simp only[Br]at h;obtain⟨u,rN,rfl,h1,h2⟩:=h;cases i with
  | zero=>simp only[kK,jh]at hx;subst hx;exact⟨u,rfl,h1⟩
  | succ i=>simp only[kT]at hx⊢;exact CN h2 i x hx
theorem BY {F:Nat->Prop}{w:World}{os:List Own}:∀{xs:List AV} {us:List Value},Br F w os xs us->us.length=xs.length
 | [],us,h=>by simp only[Br]at h;simp[h]
 | y::r,us,h=>by
  simp only[Br]at h;obtain⟨u,rN,rfl,h1,h2⟩:=h;simp[BY h2]
theorem DZ {F:Nat->Prop}{w:World}{os:List Own}:∀{xs:List AV} {us:List Value},us.length=xs.length->(∀(i:Nat) x u,xs[i]?=some x->us[i]?=some u->Ae F w os x u)->Br F w os xs us
 | [],us,h,_=>by simp only[Br];exact ka (by simpa using h)
 | y::r,[],h,_=>by simp at h
 | y::r,u::us,h,hi=>by
  simp only[Br];exact⟨u,us,rfl,hi 0 y u rfl rfl,DZ (by simpa using h) λi x u hx hu=>hi (i+1) x u (by simpa using hx) (by simpa using hu)⟩
theorem Jl {F:Nat->Prop}{w:World}:∀{xs:List AV} {b o:Nat},FF F w xs b o->∀(i:Nat) x,xs[i]?=some x->∃u,w.cell? ⟨b,o+i,none⟩=some u/\x.leaf=true/\Ae F w [] x u
 | [],_,_,_,i,x,hx=>by simp at hx
 | y::r,b,o,h,i,x,hx=>by
  simp only[FF]at h;cases i with
  | zero=>simp only[kK,jh]at hx;subst hx;exact h.1
  | succ i=>
   simp only[kT]at hx;have:=Jl h.2 i x hx;rwa [show o+1+i=o+(i+1) by omega]at this
theorem KU {F:Nat->Prop}{w:World}:∀{xs:List AV} {b o:Nat},(∀(i:Nat) x,xs[i]?=some x->∃u,w.cell? ⟨b,o+i,none⟩=some u/\x.leaf=true/\Ae F w [] x u)->FF F w xs b o
 | [],_,_,_=>by simp[FF]
 | y::r,b,o,h=>by
  simp only[FF];refine⟨h 0 y rfl,KU λi x hx=>?_⟩;have:=h (i+1) x (by simpa using hx);rwa [show o+(i+1)=o+1+i by omega]at this
theorem IH {F:Nat->Prop}{w:World}{size:Nat}:∀{xs:List (List AV)} {b o:Nat},(∀x∈xs,x.length=size)->HK F w xs b o->∀(i:Nat) x,xs[i]?=some x->FF F w x b (o+i*size)
 | [],_,_,_,_,i,x,hx=>by simp at hx
 | y::r,b,o,hs,h,i,x,hx=>by
  simp only[HK]at h;cases i with
  | zero=>simp only[kK,jh]at hx;subst hx;simpa using h.1
  | succ i=>
   simp only[kT]at hx;have:=IH (λx hx=>hs x (by simp[hx])) h.2 i x hx;rw[hs y (by simp)]at this;rwa [show o+size+i*size=o+(i+1)*size by rw[kP];omega]at this
theorem K0 {F:Nat->Prop}{w:World}{size:Nat}:∀{xs:List (List AV)} {b o:Nat},(∀x∈xs,x.length=size)->(∀(i:Nat) x,xs[i]?=some x->FF F w x b (o+i*size))->HK F w xs b o
 | [],_,_,_,_=>by simp[HK]
 | y::r,b,o,hs,h=>by
  simp only[HK];refine⟨by simpa using h 0 y rfl,K0 (λx hx=>hs x (by simp[hx])) λi x hx=>?_⟩;have:=h (i+1) x (by simpa using hx);rw[hs y (by simp)];rwa [show o+(i+1)*size=o+size+i*size by rw[kP];omega]at this
theorem Wr {F:Nat->Prop}{w:World}(os:List Own){x:AV}{u:Value}(h:Ae F w [] x u):Ae F w os x u:=
 DU (λ_ h=>h) (λ_ _=>rfl) [] os (by simp) x u h
theorem OA {F:Nat->Prop}{w:World}{os:List Own}{x:AV}{u:Value}(hl:x.leaf=true)(h:Ae F w os x u):u.oneCell'=true:=by
 cases x<;>simp only[AV.leaf,jk]at hl<;>simp only[Ae]at h
 case int=>subst h;rfl
 case bool=>subst h;rfl
 case str=>subst h;rfl
 case zc=>obtain⟨a,rfl⟩:=h;rfl
 case Qm=>subst h;rfl
 case Qb=>subst h;rfl
 case sl=>obtain⟨a,cap,rfl,_⟩:=h;rfl
 case own=>obtain⟨o,_,_,⟨a,l,c,rfl⟩,_⟩:=h;rfl
 case ptr=>obtain⟨o,_,_,⟨a,rfl⟩,_⟩:=h;rfl
 case Bh=>obtain⟨b,o,rfl,_⟩:=h;rfl
 case fn=>obtain⟨us,rfl,_⟩:=h;rfl
theorem WM {F:Nat->Prop}{w:World}{os:List Own}{x:AV}{u:Value}(hl:x.kept=true)(h:Ae F w os x u):u.oneCell'=true:=by
 cases x with
 | dv=>simp only[Ae]at h;obtain⟨a,l,c,rfl⟩:=h;rfl
 | _=>exact OA (by simpa [AV.kept] using hl) h
def Yields (P:Program)(F:Nat->Prop)(w:World)(os:List Own)(sV:Sem Value)(K:AV->Prop):Prop:=
 ∃x u,K x/\sV.run P w=.ok u w/\Ae F w os x u
variable {P : Program} {F : Nat -> Prop} {os : List Own} {s : St} {a : Act} {w : World} {K : AV -> Prop}
theorem Yields.int {k:IntKind}{n:Int}{sV:Sem Value}(h:K (.int k n))(hr:sV.run P w=.ok (.int k n) w):Yields P F w os sV K:=⟨_,_,h,hr,by simp[Ae]⟩
theorem Yields.bool {b:Bool}{sV:Sem Value}(h:K (.bool b))(hr:sV.run P w=.ok (.bool b) w):Yields P F w os sV K:=⟨_,_,h,hr,by simp[Ae]⟩
theorem bf {c x y:AV}{uc ux uy:Value}(h:Pj c x y K)(hc:Ae F w os c uc)(hx:Ae F w os x ux)(hy:Ae F w os y uy):
  Yields P F w os (do pure (if ← asBool uc then ux else uy)) K:=by
 cases c<;>simp only[Pj]at h;rename_i t;simp only[Ae]at hc;subst hc;have gen:(t=true->K x)/\(t=false->K y)->Yields P F w os (do pure (if ← asBool (.bool t) then ux else uy)) K:=λg=>by
  cases t
  ·exact⟨y,uy,g.2 rfl,by simp[asBool],hy⟩
  ·exact⟨x,ux,g.1 rfl,by simp[asBool],hx⟩
 refine gen ?_;split at h
 ·rename_i h1;cases h1;constructor
  ·intro e;simpa [e] using h
  ·intro e;simpa [e] using h
 ·rename_i h1 _;cases h1;exact h
 ·exact h.elim
theorem dK {x:AV}{u:Value}(hr:Rel F os s a w)(h:W7 s.st x K)(hx:Ae F w os x u):∃v,K v/\(∃ad,u=.pointer (some ad))/\Ae F w os v u:=by
 cases x<;>simp only[W7]at h
 case ptr id g i off=>
  obtain⟨row,oY,hg,hk⟩:=BN h;refine⟨_,hk,?_,hx⟩;simp only[Ae]at hx;obtain⟨o,ho,_,_,h2⟩:=hx;have:row=o.row:=by
   have:=hr.st;rw[<- this,ji,ho]at oY;simpa using oY.symm
  subst this;obtain⟨_,_,b,_,rfl⟩:=h2 hg;exact⟨_,rfl⟩
 case Bh y off=>
  refine⟨_,h,?_,hx⟩;simp only[Ae]at hx;obtain⟨b,o,rfl,_⟩:=hx;exact⟨_,rfl⟩
theorem eJ {op:BinOp}{t:TypeId}{k:IntKind}{x y:Int}(h:Yx op k x y K):Yields P F w os (binOp op t (.int k x) (.int k y)) K:=by
 cases op<;>simp only[Yx]at h
 case quo=>exact .int h.2 (by simp[binOp,Op.intDiv,h.1])
 case rem=>exact .int h.2 (by simp[binOp,Op.intDiv,h.1])
 case add=>exact .int h (by simp[binOp,Op.intArith])
 case sub=>exact .int h (by simp[binOp,Op.intArith])
 case mul=>exact .int h (by simp[binOp,Op.intArith])
 case xor=>exact .int h (by simp[binOp,Op.intBits])
 all_goals exact .bool h (by simp[binOp,Op.intCmp])
theorem run_equal_bool {t:TypeId}(hu:P.underlying t=some .bool)(a b:Bool):(Op.equal t (.bool a) (.bool b)).run P w=.ok (a==b) w:=by
 have hd:∀d,(Op.equalIn (d+1) t (.bool a) (.bool b)).run P w=.ok (a==b) w:=λd=>by
  simp only[Op.equalIn,kX,kg hu,kV,ku]
 have:Op.maxDepth=9999+1:=rfl;unfold Op.equal;rw[this];exact hd 9999
theorem eT {op:BinOp}{t:TypeId}{x y:AV}{ux uy:Value}{ox oy:Operand}(h:Um P t op x y K)(hx:Ae F w os x ux)(hy:Ae F w os y uy):
  Yields P F w os (do eqGuard op t ox oy ux uy;binOp op t ux uy) K:=by
 have wM:∀ux uy,(∀b,ux≠.nilIface/\ux≠.agg b)->Yields P F w os (binOp op t ux uy) K->Yields P F w os (do eqGuard op t ox oy ux uy;binOp op t ux uy) K:=by
  rintro ux uy pN ⟨v,u,h1,h2,h3⟩;refine⟨v,u,h1,?_,h3⟩;have hg:(eqGuard op t ox oy ux uy).run P w=.ok () w:=by
   unfold eqGuard;cases op<;>simp<;>(cases ux<;>first|exact absurd rfl (pN #[]).1|exact absurd rfl (pN _).2|simp)
  simp[hg,h2]
 unfold Um at h;split at h
 ·obtain⟨rfl,h⟩:=h;simp only[Ae]at hx hy;subst hx;subst hy;exact wM _ _ (by simp) (eJ h)
 ·obtain⟨hb,h⟩:=h;simp only[Ae]at hx hy;subst hx;subst hy;have hu:P.underlying t=some .bool:=by
   unfold Nu at hb;split at hb
   ·assumption
   ·cases hb
  refine wM _ _ (by simp) ?_;split at h
  ·exact .bool h (by simp[binOp,run_equal_bool hu])
  ·rename_i p q _;exact .bool h (by simp only[binOp,kX,run_equal_bool hu,kV,ku];cases p<;>cases q<;>rfl)
  ·exact h.elim
 ·exact h.elim
theorem er {op:UnOp}{x:AV}{ux:Value}(h:bj op x K)(hx:Ae F w os x ux):Yields P F w os (Op.unary op ux) K:=by
 unfold bj at h;split at h
 ·simp only[Ae]at hx;subst hx;exact .bool h (by simp[Op.unary])
 ·simp only[Ae]at hx;subst hx;exact .int h (by simp[Op.unary,Op.intArith])
 ·exact h.elim
theorem Rel.row {id:Nat}{row:Row}(hr:Rel F os s a w)(h:s.st[id]?=some row):∃o,os[id]?=some o/\o.row=row:=by
 rw[<- hr.st,ji]at h;cases ho:os[id]? with
 | none=>rw[ho]at h;cases h
 | some o=>rw[ho]at h;exact⟨o,rfl,by simpa using h⟩
def L7 (F:Nat->Prop)(w:World)(os:List Own)(b o:Nat)(x:List AV):Prop:=
 ∀(j:Nat) c,x[j]?=some c->∃u,w.cell? ⟨b,o+j,none⟩=some u/\c.kept=true/\Ae F w os c u
theorem I5 {t:TypeId}{ti:Bool×Nat}(h:D7 P t=some ti):∃d i,P.underlying t=some d/\P.info? t=some i/\ti.1=Ua d/\ti.2=i.size:=by
 unfold D7 at h;split at h
 ·rename_i d i hd hi;simp only[jh]at h;subst h;exact⟨d,i,hd,hi,rfl,rfl⟩
 ·cases h
theorem Kf {t:TypeId}{d:TypeDesc}(hu:P.underlying t=some d):(isAgg t).run P w=.ok (Ua d) w:=by
 unfold isAgg;rw[kX,kg hu w];cases d<;>simp[Ua]
theorem DI (b o i:Nat):(⟨b,o,none⟩:Addr).add i=⟨b,o+i,none⟩:=by
 unfold Addr.add;split<;>simp_all
theorem TV {t:TypeId}{ti:Bool×Nat}(ht:D7 P t=some ti){b o:Nat}{x:List AV}{off:Nat}(hx:L7 F w os b o x)(h:Kk ti.1 ti.2 x off K):
  Yields P F w os (loadVar t ⟨b,o+off,none⟩) K:=by
 obtain⟨d,i,hu,hi,e1,e2⟩:=I5 ht;unfold Kk at h;have pL:(sizeOf t).run P w=.ok i.size w:=by simp[sizeOf,typeInfo,hi]
 have rR:=Kf (w:=w) hu;rw[<- e1]at rR;split at h
 ·rename_i sE;obtain⟨hl,hk⟩:=h;rw[sE]at rR;have :∀j,j<ti.2->∃u,w.cell? ((⟨b,o+off,none⟩:Addr).add j)=some u/\∀c,x[off+j]?=some c->Ae F w os c u:=λj hj=>by
   have pG:off+j<x.length:=by omega
   obtain⟨u,hu1,_,qz⟩:=hx (off+j) x[off+j] (jl pG);refine⟨u,by rw[DI,<- hu1,lS],λc hc=>?_⟩;rw[jl pG,jh]at hc;exact hc▸qz
  have yX:∃f:Nat->Value,∀j,j<ti.2->w.cell? ((⟨b,o+off,none⟩:Addr).add j)=some (f j)/\∀c,x[off+j]?=some c->Ae F w os c (f j):=
   ⟨λj=>(w.cell? ((⟨b,o+off,none⟩:Addr).add j)).getD undef,λj hj=>by
    obtain⟨u,hu1,qz⟩:=this j hj;simp only[hu1,lg];exact⟨jf,qz⟩⟩
  obtain⟨f,hf⟩:=yX;refine⟨_,.agg ((List.range ti.2).map f).toArray,hk,?_,?_⟩
  ·have vW:=run_loadCells (P:=P) w ⟨b,o+off,none⟩ ti.2 f (λj hj=>(hf j hj).1);simp[loadVar,rR,pL,<- e2,vW]
  ·simp only[Ae];refine⟨_,rfl,DZ (by simp;omega) λj c u hc hu=>?_⟩;simp only[kL,kW]at hc;split at hc
   ·rename_i hj;simp only[ji,lN hj,kb,jh]at hu;subst hu;exact (hf j hj).2 c hc
   ·cases hc
 ·rename_i sE;obtain⟨c,hc,hk⟩:=BN h;obtain⟨u,hu1,_,qz⟩:=hx off c hc;simp only[nW]at sE;rw[sE]at rR;exact⟨c,u,hk,by simp[loadVar,rR,hu1],qz⟩
theorem Rel.Np {id:Nat}{o:Own}(hr:Rel F os s a w)(ho:os[id]?=some o){b:Nat}(hb:o.Fe=some b){i:Nat}{x:List AV}(hx:o.row.xs[i]?=some x):
  L7 F w os b (i*o.row.size) x:=by
 have ob:=hr.rows id o ho;obtain⟨_,cur,pF,pL,hlen,_,pH⟩:=ob.some b hb;intro j c hc;obtain⟨u,hu1,qz⟩:=pH i x hx j c hc;refine⟨u,?_,(ob.lens x (je hx)).2 c (je hc),qz⟩;rw[ml w b _ cur _ _ pF];exact hu1
theorem Kw {b o:Nat}{x:List AV}(h:FF F w x b o):L7 F w os b o x:=λj c hc=>by
 obtain⟨u,h1,h2,h3⟩:=Jl h j c hc;exact⟨u,h1,Dz h2,Wr os h3⟩
theorem XM {t:TypeId}{v:AV}{u:Value}(hr:Rel F os s a w)(h:PV P s.st t v K)(hv:Ae F w os v u):Yields P F w os (Instr.loadAt t u) K:=by
 obtain⟨ti,ht,h⟩:=BN h;cases v with
 | ptr id g i off=>
  obtain⟨row,oY,hg,h0⟩:=BN h;obtain⟨x,hx,h1⟩:=BN h0;obtain⟨o,ho,rfl⟩:=hr.row oY;simp only[Ae]at hv;obtain⟨o',pQ,_,_,hv⟩:=hv;rw[ho]at pQ;cases pQ;obtain⟨_,_,b,hb,rfl⟩:=hv hg;simpa [Instr.loadAt,Instr.sureAddr,Yields] using TV ht (hr.Np ho hb hx) h1
 | Bh x off=>
  simp only[Ae]at hv;obtain⟨b,o,rfl,hb,hc⟩:=hv;simpa [Instr.loadAt,Instr.sureAddr,Yields] using TV ht (Kw hc) h
 | _=>exact h.elim
theorem Vi {t:TypeId}{f:Nat}{v:AV}{u:Value}(hr:Rel F os s a w)(h:LI P t v f s.st K)(hv:Ae F w os v u):Yields P F w os (Instr.fieldAt t u f) K:=by
 obtain⟨o,ho,h⟩:=BN h;unfold Hd at ho;split at ho<;>try (cases ho;done)
 rename_i fs hu;split at ho<;>try (cases ho;done)
 rename_i g hg;split at ho<;>try (cases ho;done)
 rename_i i hi;split at ho
 ·cases ho
 rename_i hz;simp only[jh]at ho;have pK:∀b off,(Instr.fieldAt t (.pointer (some ⟨b,off,none⟩)) f).run P w=.ok (.pointer (some ⟨b,off+o,none⟩)) w:=λb off=>by
  simp[Instr.fieldAt,kg hu,hg,Instr.sureAddr,fieldPlace,sizeOf,typeInfo,hi,hz,DI,ho]
 cases v with
 | ptr id gg i off=>
  obtain⟨row,oY,hg,hle,hk⟩:=BN h;obtain⟨ow,how,rfl⟩:=hr.row oY;have hv':=hv;simp only[Ae]at hv;obtain⟨o',pQ,rz,_,hv⟩:=hv;rw[how]at pQ;cases pQ;obtain⟨h1,h2,b,hb,rfl⟩:=hv hg;refine⟨_,_,hk,pK _ _,?_⟩;simp only[Ae];exact⟨ow,how,rz,⟨_,rfl⟩,λ_=>⟨h1,hle,b,hb,by rw[lS]⟩⟩
 | Bh x off=>
  simp only[Ae]at hv;obtain⟨b,o',rfl,hb,hc⟩:=hv;exact⟨_,_,h,pK _ _,by simp only[Ae];exact⟨b,o',by rw[lS],hb,hc⟩⟩
 | _=>exact h.elim
theorem H8 {t:TypeId}{ei:aa}(h:D2 P t=some ei):∃i z,P.underlying t=some (.slice ei.e)/\P.info? ei.e=some i/\i.zero=some z/\z.cells.size=i.size/\0<i.size/\ei.size=i.size/\ei.bytes=i.bytes/\
  ei.zero=z.cells.toList.map MF/\∀c∈ei.zero,c.leaf=true:=by
 unfold D2 at h;split at h<;>try (cases h;done)
 rename_i e hu;split at h<;>try (cases h;done)
 rename_i i hi;split at h<;>try (cases h;done)
 rename_i z hz;split at h<;>try (cases h;done)
 rename_i hc;simp only[jh]at h;subst h;exact⟨i,z,hu,hi,hz,hc.1,hc.2.1,rfl,rfl,rfl,λc hm=>jq.1 hc.2.2 c hm⟩
theorem VK {t:TypeId}{x i:AV}{ux ui:Value}(hr:Rel F os s a w)(h:JB P s.st t x i K)(hx:Ae F w os x ux)(hi:Ae F w os i ui):Yields P F w os (Instr.indexAt t ux ui) K:=by
 obtain⟨ei,he,h⟩:=BN h;obtain⟨inf,z,hu,hinf,_,_,pZ,pL,_⟩:=H8 he;have hs:(sizeOf ei.e).run P w=.ok ei.size w:=by simp[sizeOf,typeInfo,hinf,pL]
 have pK:∀b o n c k (j:Int),0<=j->j<(n:Nat)->(Instr.indexAt t (.slice (some ⟨b,o,none⟩) n c) (.int k j)).run P w=.ok (.pointer (some ⟨b,o+j.toNat*ei.size,none⟩)) w:=λb o n c k j h0 h1=>by
  have hn:¬ (n<=1/\False):=by simp
  simp[Instr.indexAt,asIntOf,kg hu,h0,h1,hs,DI]
 cases x with
 | own id g n=>
  cases i with
  | int k j=>
   obtain⟨h0,h1,h⟩:=h;obtain⟨row,oY,hg,hrs,hk⟩:=BN h;obtain⟨ow,how,rfl⟩:=hr.row oY;simp only[Ae]at hx hi;subst hi;obtain⟨o',pQ,rz,_,hv⟩:=hx;rw[how]at pQ;cases pQ;obtain⟨hl,hv⟩:=hv hg;rcases hv with ⟨hb,_⟩|⟨b,hb,rfl⟩
   ·have:=(hr.rows id ow how).none hb;simp[this.1]at hl;omega
   ·refine⟨_,_,hk,pK _ _ _ _ _ _ h0 h1,?_⟩;simp only[Ae];exact⟨ow,how,rz,⟨_,rfl⟩,λ_=>⟨by omega,kE _,b,hb,by rw[hrs,kP];simp⟩⟩
  | _=>exact h.elim
 | sl xs=>
  cases i with
  | int k j=>
   obtain⟨h0,h⟩:=h;obtain⟨y,hy,hyl,hk⟩:=BN h;simp only[Ae]at hx hi;subst hi;obtain⟨ad,cap,rfl,_,pN⟩:=hx;have pG:j.toNat<xs.length:=(jg.1 hy).1;obtain⟨b,o,size,rfl,hb,hss,qJ⟩:=pN (by intro e;rw[e]at pG;simp at pG);refine⟨_,_,hk,pK _ _ _ _ _ _ h0 (by omega),?_⟩;have Gh:size=ei.size:=by rw[<- hyl];exact (hss y (je hy)).symm
   subst Gh;simp only[Ae];exact⟨b,o+j.toNat*ei.size,rfl,hb,IH hss qJ _ _ hy⟩
  | _=>exact h.elim
 | _=>exact h.elim
def DT (P:Program)(t:TypeId):Bool:=
 match P.underlying t with
 | some (.slice _)=>true
 | _=>false
theorem dR {t ty:TypeId}{x:AV}{ux:Value}(hr:Rel F os s a w)(ht:DT P t=true)(h:bI s.st x K)(hx:Ae F w os x ux):Yields P F w os (Builtin.len_ #[t] ty #[ux]) K:=by
 unfold DT at ht;split at ht
 case h_2=>cases ht
 rename_i e hu;have pK:∀ad n c,(Builtin.len_ #[t] ty #[.slice ad n c]).run P w=.ok (.int .i64 n) w:=λad n c=>by
  simp[Builtin.len_,kg hu,goInt]
 cases x with
 | own id g n=>
  obtain⟨row,oY,hg,hk⟩:=BN h;obtain⟨ow,how,rfl⟩:=hr.row oY;simp only[Ae]at hx;obtain⟨o',pQ,rz,_,hv⟩:=hx;rw[how]at pQ;cases pQ;obtain⟨hl,hv⟩:=hv hg;rcases hv with ⟨_,ad,rfl⟩|⟨b,_,rfl⟩
  ·exact .int hk (pK _ _ _)
  ·exact .int hk (pK _ _ _)
 | sl xs=>
  simp only[Ae]at hx;obtain⟨ad,cap,rfl,_,_⟩:=hx;exact .int h (pK _ _ _)
 | zc=>
  simp only[Ae]at hx;obtain⟨ad,rfl⟩:=hx;exact .int h (pK _ _ _)
 | _=>exact h.elim
theorem XX {x:AV}{ux:Value}{i:Nat}(h:Pq x i K)(hx:Ae F w os x ux):Yields P F w os (Instr.extract ux i) K:=by
 cases x with
 | Dp vs=>
  obtain⟨y,hy,hk⟩:=BN h;simp only[Ae]at hx;obtain⟨us,rfl,hl⟩:=hx;obtain⟨u,hu,hru⟩:=CN hl i y hy;exact⟨y,u,hk,by simp[Instr.extract,hu],hru⟩
 | _=>exact h.elim
theorem Z4 {t:TypeId}{f:Nat}{x:AV}{ux:Value}(h:Ml P t x f K)(hx:Ae F w os x ux):Yields P F w os (Instr.field t ux f) K:=by
 unfold Ml at h;split at h
 ·rename_i cs fs hu;obtain⟨g,hg,h⟩:=BN h;obtain⟨ti,ht,h⟩:=BN h;simp only[Ae]at hx;obtain⟨us,rfl,hl⟩:=hx;obtain⟨d,i,hud,hi,e1,e2⟩:=I5 ht;have rR:=Kf (w:=w) hud;rw[<- e1]at rR;have hlen:=BY hl;unfold Kk at h;split at h
  ·rename_i sE;rw[sE]at rR;refine⟨_,.agg (us.toArray.extract g.offset (g.offset+ti.2)),h.2,?_,?_⟩
   ·simp[Instr.field,kg hu,hg,asAgg,part,rR,sizeOf,typeInfo,hi,e2]
   ·simp only[Ae];refine⟨(us.drop g.offset).take ti.2,by simp,DZ (by simp;omega) λj c u hc qV=>?_⟩;simp only[kL,kW]at hc qV;split at hc
    ·rename_i hj;rw[jm hj]at qV;obtain⟨u2,qz,hr2⟩:=CN hl _ _ hc;rw[qz]at qV;cases qV;exact hr2
    ·cases hc
  ·rename_i sE;simp only[nW]at sE;rw[sE]at rR;obtain⟨c,hc,hk⟩:=BN h;obtain⟨u,qV,hru⟩:=CN hl _ _ hc;exact⟨c,u,hk,by simp[Instr.field,kg hu,hg,asAgg,part,rR,qV],hru⟩
 ·exact h.elim
end Go.Abs
