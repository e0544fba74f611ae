import Derived.Test.YtihdgoiebmfapaaGreatAbsB
set_option linter.all false
namespace Go.Abs
open Go
def Wu:TypeDesc->Bool
 |.struct _|.array _ _=>true
 |_=>false
def Dc (P:Program)(t:TypeId):Option (Bool×Nat):=
 match P.underlying t,P.info? t with
 |some d,some i=>some (Wu d,i.size)
 |_,_=>none
structure eP where
 e:TypeId
 size:Nat
 bytes:Nat
 zero:List AV
def DB (P:Program)(t:TypeId):Option eP:=
 match P.underlying t with
 |some (.slice e)=>match P.info? e with
  |some i=>match i.zero with
   |some z=>if z.cells.size=i.size/\0<i.size/\(z.cells.toList.map Nj).all AV.leaf then some ⟨e,i.size,i.bytes,z.cells.toList.map Nj⟩ else none
   |none=>none
  |none=>none
 |_=>none
def IH (P:Program)(s:TypeId)(f:Nat):Option Nat:=
 match P.underlying s with
 |some (.struct fs)=>match fs[f]? with
  |some g=>match P.info? g.type with
   |some i=>if i.size=0 then none else some g.offset
   |none=>none
  |none=>none
 |_=>none
def GK {α:Type}(o:Option α)(K:α->Prop):Prop:=
 match o with
 |some a=>K a
 |none=>False
theorem Ak {α:Type}{o:Option α}{K:α->Prop}(a:α)(h:o=some a)(hk:K a):GK o K:=by rw[h];exact hk
theorem BN {α:Type}{o:Option α}{K:α->Prop}(h:GK o K):∃a,o=some a/\K a:=by
 cases o with
 |none=>exact h.elim
 |some a=>exact⟨a,rfl,h⟩
def QI (c a b:AV)(K:AV->Prop):Prop:=
 match c,a,b with
 |.bool t,.bool p,.bool q=>K (.bool (if t then p else q))
 |.bool t,x,y=>(t=true->K x)/\(t=false->K y)
 |_,_,_=>False
def ZW (st:List Row)(x:AV)(K:AV->Prop):Prop:=
 match x with
 |.ptr id g i off=>GK st[id]? λrow=>row.gen=g/\K (.ptr id g i off)
 |.C9 x off=>K (.C9 x off)
 |_=>False
def cP (op:BinOp)(k:IntKind)(a b:Int)(K:AV->Prop):Prop:=
 match op with
 |.add=>K (.int k (k.wrap (a+b)))
 |.sub=>K (.int k (k.wrap (a-b)))
 |.mul=>K (.int k (k.wrap (a*b)))
 |.quo=>b≠0/\K (.int k (k.wrap (a.tdiv b)))
 |.rem=>b≠0/\K (.int k (a.tmod b))
 |.eql=>K (.bool (a==b))
 |.neq=>K (.bool (a != b))
 |.lss=>K (.bool (decide (a<b)))
 |.leq=>K (.bool (decide (a<=b)))
 |.gtr=>K (.bool (decide (a > b)))
 |.geq=>K (.bool (decide (a ≥ b)))
 |.xor=>K (.int k (k.wrap (BitVec.ofInt k.bits a ^^^ BitVec.ofInt k.bits b).toNat))
 |_=>False
def Oo (P:Program)(t:TypeId):Bool:=
 match P.underlying t with
 |some .bool=>true
 |_=>false
def XY (P:Program)(t:TypeId)(op:BinOp)(x y:AV)(K:AV->Prop):Prop:=
 match x,y with
 |.int k a,.int k' b=>k=k'/\cP op k a b K
 |.bool a,.bool b=>Oo P t=true/\match op with
  |.eql=>K (.bool (a==b))
  |.neq=>K (.bool (a != b))
  |_=>False
 |_,_=>False
def gu (op:UnOp)(x:AV)(K:AV->Prop):Prop:=
 match op,x with
 |.not,.bool b=>K (.bool (!b))
 |.neg,.int k n=>K (.int k (k.wrap (-n)))
 |_,_=>False
def L6 (agg:Bool)(size:Nat)(x:List AV)(off:Nat)(K:AV->Prop):Prop:=
 if agg then off+size<=x.length/\K (.agg ((x.drop off).take size)) else GK x[off]? K
def QS (P:Program)(st:List Row)(t:TypeId)(v:AV)(K:AV->Prop):Prop:=
 GK (Dc P t) λti=>match v with
  |.ptr id g i off=>GK st[id]? λrow=>row.gen=g/\GK row.xs[i]? λx=>L6 ti.1 ti.2 x off K
  |.C9 x off=>L6 ti.1 ti.2 x off K
  |_=>False
def MM (P:Program)(s:TypeId)(v:AV)(f:Nat)(st:List Row)(K:AV->Prop):Prop:=
 GK (IH P s f) λo=>match v with
  |.ptr id g i off=>GK st[id]? λrow=>row.gen=g/\off+o<=row.size/\K (.ptr id g i (off+o))
  |.C9 x off=>K (.C9 x (off+o))
  |_=>False
def It (P:Program)(st:List Row)(t:TypeId)(x i:AV)(K:AV->Prop):Prop:=
 GK (DB P t) λei=>match x,i with
  |.own id g n,.int _ j=>0<=j/\j<n/\GK st[id]? λrow=>row.gen=g/\row.size=ei.size/\K (.ptr id g (row.xs.length-n+j.toNat) 0)
  |.sl xs,.int _ j=>0<=j/\GK xs[j.toNat]? λy=>y.length=ei.size/\K (.C9 y 0)
  |_,_=>False
def fu (st:List Row)(x:AV)(K:AV->Prop):Prop:=
 match x with
 |.own id g n=>GK st[id]? λrow=>row.gen=g/\K (.int .i64 n)
 |.sl xs=>K (.int .i64 xs.length)
 |.zc=>K (.int .i64 0)
 |_=>False
def N9 (P:Program)(t:TypeId)(x:AV)(f:Nat)(K:AV->Prop):Prop:=
 match x,P.underlying t with
 |.agg cs,some (.struct fs)=>GK fs[f]? λg=>GK (Dc P g.type) λti=>L6 ti.1 ti.2 cs g.offset K
 |_,_=>False
def RH (x:AV)(i:Nat)(K:AV->Prop):Prop:=
 match x with
 |.C8 vs=>GK vs[i]? K
 |_=>False
theorem CH {F:Nat->Prop}{w:World}{os:List Own}:∀{xs:List AV} {us:List Value},Br F w os xs us->∀(i:Nat) (x:AV),xs[i]?=some x->∃u,us[i]?=some u/\Ab F w os x u
 | [],_,_,i,x,hx=>by simp at hx
 |y::r,us,h,i,x,hx=>by
  simp only[Br]at h;obtain⟨u,xR,rfl,h1,h2⟩:=h;cases i with
  |zero=>simp only[ph,pC]at hx;subst hx;exact⟨u,rfl,h1⟩
  |succ i=>simp only[py]at hx⊢;exact CH h2 i x hx
theorem BX {F:Nat->Prop}{w:World}{os:List Own}:∀{xs:List AV} {us:List Value},Br F w os xs us->us.length=xs.length
 | [],us,h=>by simp only[Br]at h;simp[h]
 |y::r,us,h=>by
  simp only[Br]at h;obtain⟨u,xR,rfl,h1,h2⟩:=h;simp[BX h2]
theorem Db {F:Nat->Prop}{w:World}{os:List Own}:∀{xs:List AV} {us:List Value},us.length=xs.length->(∀(i:Nat) x u,xs[i]?=some x->us[i]?=some u->Ab F w os x u)->Br F w os xs us
 | [],us,h,_=>by simp only[Br];exact qM (by simpa using h)
 |y::r,[],h,_=>by simp at h
 |y::r,u::us,h,hi=>by
  simp only[Br];exact⟨u,us,rfl,hi 0 y u rfl rfl,Db (by simpa using h) λi x u hx hu=>hi (i+1) x u (by simpa using hx) (by simpa using hu)⟩
theorem KZ {F:Nat->Prop}{w:World}:∀{xs:List AV} {b o:Nat},Fj F w xs b o->∀(i:Nat) x,xs[i]?=some x->∃u,w.cell? ⟨b,o+i,none⟩=some u/\x.leaf=true/\Ab F w [] x u
 | [],_,_,_,i,x,hx=>by simp at hx
 |y::r,b,o,h,i,x,hx=>by
  simp only[Fj]at h;cases i with
  |zero=>simp only[ph,pC]at hx;subst hx;exact h.1
  |succ i=>
   simp only[py]at hx;have:=KZ h.2 i x hx;rwa [show o+1+i=o+(i+1) by omega]at this
theorem Lj {F:Nat->Prop}{w:World}:∀{xs:List AV} {b o:Nat},(∀(i:Nat) x,xs[i]?=some x->∃u,w.cell? ⟨b,o+i,none⟩=some u/\x.leaf=true/\Ab F w [] x u)->Fj F w xs b o
 | [],_,_,_=>by simp[Fj]
 |y::r,b,o,h=>by
  simp only[Fj];refine⟨h 0 y rfl,Lj λi x hx=>?_⟩;have:=h (i+1) x (by simpa using hx);rwa [show o+(i+1)=o+1+i by omega]at this
theorem Iv {F:Nat->Prop}{w:World}{size:Nat}:∀{xs:List (List AV)} {b o:Nat},(∀x∈xs,x.length=size)->H9 F w xs b o->∀(i:Nat) x,xs[i]?=some x->Fj F w x b (o+i*size)
 | [],_,_,_,_,i,x,hx=>by simp at hx
 |y::r,b,o,hs,h,i,x,hx=>by
  simp only[H9]at h;cases i with
  |zero=>simp only[ph,pC]at hx;subst hx;simpa using h.1
  |succ i=>
   simp only[py]at hx;have:=Iv (λx hx=>hs x (by simp[hx])) h.2 i x hx;rw[hs y (by simp)]at this;rwa [show o+size+i*size=o+(i+1)*size by rw[pt];omega]at this
theorem MP {F:Nat->Prop}{w:World}{size:Nat}:∀{xs:List (List AV)} {b o:Nat},(∀x∈xs,x.length=size)->(∀(i:Nat) x,xs[i]?=some x->Fj F w x b (o+i*size))->H9 F w xs b o
 | [],_,_,_,_=>by simp[H9]
 |y::r,b,o,hs,h=>by
  simp only[H9];refine⟨by simpa using h 0 y rfl,MP (λx hx=>hs x (by simp[hx])) λi x hx=>?_⟩;have:=h (i+1) x (by simpa using hx);rw[hs y (by simp)];rwa [show o+(i+1)*size=o+size+i*size by rw[pt];omega]at this
theorem ZK {F:Nat->Prop}{w:World}(os:List Own){x:AV}{u:Value}(h:Ab F w [] x u):Ab F w os x u:=
 DW (λ_ h=>h) (λ_ _=>rfl) [] os (by simp) x u h
theorem O9 {F:Nat->Prop}{w:World}{os:List Own}{x:AV}{u:Value}(hl:x.leaf=true)(h:Ab F w os x u):u.oneCell'=true:=by
 cases x<;>simp only[AV.leaf,pD]at hl<;>simp only[Ab]at h
 case int=>subst h;rfl
 case bool=>subst h;rfl
 case str=>subst h;rfl
 case zc=>obtain⟨a,rfl⟩:=h;rfl
 case SL=>subst h;rfl
 case SE=>subst h;rfl
 case sl=>obtain⟨a,cap,rfl,_⟩:=h;rfl
 case own=>obtain⟨o,_,_,⟨a,l,c,rfl⟩,_⟩:=h;rfl
 case ptr=>obtain⟨o,_,_,⟨a,rfl⟩,_⟩:=h;rfl
 case C9=>obtain⟨b,o,rfl,_⟩:=h;rfl
 case fn=>obtain⟨us,rfl,_⟩:=h;rfl
theorem Yv {F:Nat->Prop}{w:World}{os:List Own}{x:AV}{u:Value}(hl:x.kept=true)(h:Ab F w os x u):u.oneCell'=true:=by
 cases x with
 |dv=>simp only[Ab]at h;obtain⟨a,l,c,rfl⟩:=h;rfl
 |_=>exact O9 (by simpa [AV.kept] using hl) h
def Yields (P:Program)(F:Nat->Prop)(w:World)(os:List Own)(yc:Sem Value)(K:AV->Prop):Prop:=
 ∃x u,K x/\yc.run P w=.ok u w/\Ab F w os x u
variable {P : Program} {F : Nat -> Prop} {os : List Own} {s : St} {a : Act} {w : World} {K : AV -> Prop}
theorem Yields.int {k:IntKind}{n:Int}{yc:Sem Value}(h:K (.int k n))(hr:yc.run P w=.ok (.int k n) w):Yields P F w os yc K:=⟨_,_,h,hr,by simp[Ab]⟩
theorem Yields.bool {b:Bool}{yc:Sem Value}(h:K (.bool b))(hr:yc.run P w=.ok (.bool b) w):Yields P F w os yc K:=⟨_,_,h,hr,by simp[Ab]⟩
theorem gb {c x y:AV}{uc ux uy:Value}(h:QI c x y K)(hc:Ab F w os c uc)(hx:Ab F w os x ux)(hy:Ab F w os y uy):
  Yields P F w os (do pure (if ← asBool uc then ux else uy)) K:=by
 cases c<;>simp only[QI]at h;rename_i t;simp only[Ab]at hc;subst hc;have gen:(t=true->K x)/\(t=false->K y)->Yields P F w os (do pure (if ← asBool (.bool t) then ux else uy)) K:=λg=>by
  cases t
  .exact⟨y,uy,g.2 rfl,by simp[asBool],hy⟩
  .exact⟨x,ux,g.1 rfl,by simp[asBool],hx⟩
 refine gen ?_;split at h
 .rename_i h1;cases h1;constructor
  .intro e;simpa [e] using h
  .intro e;simpa [e] using h
 .rename_i h1 _;cases h1;exact h
 .exact h.elim
theorem kR {x:AV}{u:Value}(hr:Rel F os s a w)(h:ZW s.st x K)(hx:Ab F w os x u):∃v,K v/\(∃ad,u=.pointer (some ad))/\Ab F w os v u:=by
 cases x<;>simp only[ZW]at h
 case ptr id g i off=>
  obtain⟨row,tv,hg,hk⟩:=BN h;refine⟨_,hk,?_,hx⟩;simp only[Ab]at hx;obtain⟨o,ho,_,_,h2⟩:=hx;have:row=o.row:=by
   have:=hr.st;rw[<- this,pB,ho]at tv;simpa using tv.symm
  subst this;obtain⟨_,_,b,_,rfl⟩:=h2 hg;exact⟨_,rfl⟩
 case C9 y off=>
  refine⟨_,h,?_,hx⟩;simp only[Ab]at hx;obtain⟨b,o,rfl,_⟩:=hx;exact⟨_,rfl⟩
theorem kB {op:BinOp}{t:TypeId}{k:IntKind}{x y:Int}(h:cP op k x y K):Yields P F w os (binOp op t (.int k x) (.int k y)) K:=by
 cases op<;>simp only[cP]at h
 case quo=>exact .int h.2 (by simp[binOp,Op.intDiv,h.1])
 case rem=>exact .int h.2 (by simp[binOp,Op.intDiv,h.1])
 case add=>exact .int h (by simp[binOp,Op.intArith])
 case sub=>exact .int h (by simp[binOp,Op.intArith])
 case mul=>exact .int h (by simp[binOp,Op.intArith])
 case xor=>exact .int h (by simp[binOp,Op.intBits])
 all_goals exact .bool h (by simp[binOp,Op.intCmp])
theorem run_equal_bool {t:TypeId}(hu:P.underlying t=some .bool)(a b:Bool):(Op.equal t (.bool a) (.bool b)).run P w=.ok (a==b) w:=by
 have hd:∀d,(Op.equalIn (d+1) t (.bool a) (.bool b)).run P w=.ok (a==b) w:=λd=>by
  simp only[Op.equalIn,qG,qQ hu,qD,qV]
 have:Op.maxDepth=9999+1:=rfl;unfold Op.equal;rw[this];exact hd 9999
theorem jI {op:BinOp}{t:TypeId}{x y:AV}{ux uy:Value}{ox oy:Operand}(h:XY P t op x y K)(hx:Ab F w os x ux)(hy:Ab F w os y uy):
  Yields P F w os (do eqGuard op t ox oy ux uy;binOp op t ux uy) K:=by
 have hlift:∀ux uy,(∀b,ux≠.nilIface/\ux≠.agg b)->Yields P F w os (binOp op t ux uy) K->Yields P F w os (do eqGuard op t ox oy ux uy;binOp op t ux uy) K:=by
  rintro ux uy uq ⟨v,u,h1,h2,h3⟩;refine⟨v,u,h1,?_,h3⟩;have hg:(eqGuard op t ox oy ux uy).run P w=.ok () w:=by
   unfold eqGuard;cases op<;>simp<;>(cases ux<;>first|exact absurd rfl (uq #[]).1|exact absurd rfl (uq _).2|simp)
  simp[hg,h2]
 unfold XY at h;split at h
 .obtain⟨rfl,h⟩:=h;simp only[Ab]at hx hy;subst hx;subst hy;exact hlift _ _ (by simp) (kB h)
 .obtain⟨hb,h⟩:=h;simp only[Ab]at hx hy;subst hx;subst hy;have hu:P.underlying t=some .bool:=by
   unfold Oo at hb;split at hb
   .assumption
   .cases hb
  refine hlift _ _ (by simp) ?_;split at h
  .exact .bool h (by simp[binOp,run_equal_bool hu])
  .rename_i p q _;exact .bool h (by simp only[binOp,qG,run_equal_bool hu,qD,qV];cases p<;>cases q<;>rfl)
  .exact h.elim
 .exact h.elim
theorem lK {op:UnOp}{x:AV}{ux:Value}(h:gu op x K)(hx:Ab F w os x ux):Yields P F w os (Op.unary op ux) K:=by
 unfold gu at h;split at h
 .simp only[Ab]at hx;subst hx;exact .bool h (by simp[Op.unary])
 .simp only[Ab]at hx;subst hx;exact .int h (by simp[Op.unary,Op.intArith])
 .exact h.elim
theorem Rel.row {id:Nat}{row:Row}(hr:Rel F os s a w)(h:s.st[id]?=some row):∃o,os[id]?=some o/\o.row=row:=by
 rw[<- hr.st,pB]at h;cases ho:os[id]? with
 |none=>rw[ho]at h;cases h
 |some o=>rw[ho]at h;exact⟨o,rfl,by simpa using h⟩
def Nh (F:Nat->Prop)(w:World)(os:List Own)(b o:Nat)(x:List AV):Prop:=
 ∀(j:Nat) c,x[j]?=some c->∃u,w.cell? ⟨b,o+j,none⟩=some u/\c.kept=true/\Ab F w os c u
theorem Js {t:TypeId}{ti:Bool×Nat}(h:Dc P t=some ti):∃d i,P.underlying t=some d/\P.info? t=some i/\ti.1=Wu d/\ti.2=i.size:=by
 unfold Dc at h;split at h
 .rename_i d i hd hi;simp only[pC]at h;subst h;exact⟨d,i,hd,hi,rfl,rfl⟩
 .cases h
theorem Lr {t:TypeId}{d:TypeDesc}(hu:P.underlying t=some d):(isAgg t).run P w=.ok (Wu d) w:=by
 unfold isAgg;rw[qG,qQ hu w];cases d<;>simp[Wu]
theorem Ce (b o i:Nat):(⟨b,o,none⟩:Addr).add i=⟨b,o+i,none⟩:=by
 unfold Addr.add;split<;>simp_all
theorem Vj {t:TypeId}{ti:Bool×Nat}(ht:Dc P t=some ti){b o:Nat}{x:List AV}{off:Nat}(hx:Nh F w os b o x)(h:L6 ti.1 ti.2 x off K):
  Yields P F w os (loadVar t ⟨b,o+off,none⟩) K:=by
 obtain⟨d,i,hu,hi,e1,e2⟩:=Js ht;unfold L6 at h;have ue:(sizeOf t).run P w=.ok i.size w:=by simp[sizeOf,typeInfo,hi]
 have xW:=Lr (w:=w) hu;rw[<- e1]at xW;split at h
 .rename_i yN;obtain⟨hl,hk⟩:=h;rw[yN]at xW;have :∀j,j<ti.2->∃u,w.cell? ((⟨b,o+off,none⟩:Addr).add j)=some u/\∀c,x[off+j]?=some c->Ab F w os c u:=λj hj=>by
   have uU:off+j<x.length:=by omega
   obtain⟨u,hu1,_,xB⟩:=hx (off+j) x[off+j] (pF uU);refine⟨u,by rw[Ce,<- hu1,qd],λc hc=>?_⟩;rw[pF uU,pC]at hc;exact hc▸xB
  have hch:∃f:Nat->Value,∀j,j<ti.2->w.cell? ((⟨b,o+off,none⟩:Addr).add j)=some (f j)/\∀c,x[off+j]?=some c->Ab F w os c (f j):=
   ⟨λj=>(w.cell? ((⟨b,o+off,none⟩:Addr).add j)).getD undef,λj hj=>by
    obtain⟨u,hu1,xB⟩:=this j hj;simp only[hu1,rK];exact⟨oz,xB⟩⟩
  obtain⟨f,hf⟩:=hch;refine⟨_,.agg ((List.range ti.2).map f).toArray,hk,?_,?_⟩
  .have hlc:=run_loadCells (P:=P) w ⟨b,o+off,none⟩ ti.2 f (λj hj=>(hf j hj).1);simp[loadVar,xW,ue,<- e2,hlc]
  .simp only[Ab];refine⟨_,rfl,Db (by simp;omega) λj c u hc hu=>?_⟩;simp only[pn,qH]at hc;split at hc
   .rename_i hj;simp only[pB,rR hj,qF,pC]at hu;subst hu;exact (hf j hj).2 c hc
   .cases hc
 .rename_i yN;obtain⟨c,hc,hk⟩:=BN h;obtain⟨u,hu1,_,xB⟩:=hx off c hc;simp only[tC]at yN;rw[yN]at xW;exact⟨c,u,hk,by simp[loadVar,xW,hu1],xB⟩
theorem Rel.Oz {id:Nat}{o:Own}(hr:Rel F os s a w)(ho:os[id]?=some o){b:Nat}(hb:o.GA=some b){i:Nat}{x:List AV}(hx:o.row.xs[i]?=some x):
  Nh F w os b (i*o.row.size) x:=by
 have tz:=hr.rows id o ho;obtain⟨_,cur,uO,ue,hlen,_,uK⟩:=tz.some b hb;intro j c hc;obtain⟨u,hu1,xB⟩:=uK i x hx j c hc;refine⟨u,?_,(tz.lens x (ov hx)).2 c (ov hc),xB⟩;rw[rj w b _ cur _ _ uO];exact hu1
theorem L7 {b o:Nat}{x:List AV}(h:Fj F w x b o):Nh F w os b o x:=λj c hc=>by
 obtain⟨u,h1,h2,h3⟩:=KZ h j c hc;exact⟨u,h1,Dg h2,ZK os h3⟩
theorem Zo {t:TypeId}{v:AV}{u:Value}(hr:Rel F os s a w)(h:QS P s.st t v K)(hv:Ab F w os v u):Yields P F w os (Instr.loadAt t u) K:=by
 obtain⟨ti,ht,h⟩:=BN h;cases v with
 |ptr id g i off=>
  obtain⟨row,tv,hg,h0⟩:=BN h;obtain⟨x,hx,h1⟩:=BN h0;obtain⟨o,ho,rfl⟩:=hr.row tv;simp only[Ab]at hv;obtain⟨o',uw,_,_,hv⟩:=hv;rw[ho]at uw;cases uw;obtain⟨_,_,b,hb,rfl⟩:=hv hg;simpa [Instr.loadAt,Instr.sureAddr,Yields] using Vj ht (hr.Oz ho hb hx) h1
 |C9 x off=>
  simp only[Ab]at hv;obtain⟨b,o,rfl,hb,hc⟩:=hv;simpa [Instr.loadAt,Instr.sureAddr,Yields] using Vj ht (L7 hc) h
 |_=>exact h.elim
theorem YJ {t:TypeId}{f:Nat}{v:AV}{u:Value}(hr:Rel F os s a w)(h:MM P t v f s.st K)(hv:Ab F w os v u):Yields P F w os (Instr.fieldAt t u f) K:=by
 obtain⟨o,ho,h⟩:=BN h;unfold IH at ho;split at ho<;>try (cases ho;done)
 rename_i fs hu;split at ho<;>try (cases ho;done)
 rename_i g hg;split at ho<;>try (cases ho;done)
 rename_i i hi;split at ho
 .cases ho
 rename_i hz;simp only[pC]at ho;have uP:∀b off,(Instr.fieldAt t (.pointer (some ⟨b,off,none⟩)) f).run P w=.ok (.pointer (some ⟨b,off+o,none⟩)) w:=λb off=>by
  simp[Instr.fieldAt,qQ hu,hg,Instr.sureAddr,fieldPlace,sizeOf,typeInfo,hi,hz,Ce,ho]
 cases v with
 |ptr id gg i off=>
  obtain⟨row,tv,hg,hle,hk⟩:=BN h;obtain⟨ow,how,rfl⟩:=hr.row tv;have hv':=hv;simp only[Ab]at hv;obtain⟨o',uw,xX,_,hv⟩:=hv;rw[how]at uw;cases uw;obtain⟨h1,h2,b,hb,rfl⟩:=hv hg;refine⟨_,_,hk,uP _ _,?_⟩;simp only[Ab];exact⟨ow,how,xX,⟨_,rfl⟩,λ_=>⟨h1,hle,b,hb,by rw[qd]⟩⟩
 |C9 x off=>
  simp only[Ab]at hv;obtain⟨b,o',rfl,hb,hc⟩:=hv;exact⟨_,_,h,uP _ _,by simp only[Ab];exact⟨b,o',by rw[qd],hb,hc⟩⟩
 |_=>exact h.elim
theorem HP {t:TypeId}{ei:eP}(h:DB P t=some ei):∃i z,P.underlying t=some (.slice ei.e)/\P.info? ei.e=some i/\i.zero=some z/\z.cells.size=i.size/\0<i.size/\ei.size=i.size/\ei.bytes=i.bytes/\
  ei.zero=z.cells.toList.map Nj/\∀c∈ei.zero,c.leaf=true:=by
 unfold DB at h;split at h<;>try (cases h;done)
 rename_i e hu;split at h<;>try (cases h;done)
 rename_i i hi;split at h<;>try (cases h;done)
 rename_i z hz;split at h<;>try (cases h;done)
 rename_i hc;simp only[pC]at h;subst h;exact⟨i,z,hu,hi,hz,hc.1,hc.2.1,rfl,rfl,rfl,λc hm=>pG.1 hc.2.2 c hm⟩
theorem XW {t:TypeId}{x i:AV}{ux ui:Value}(hr:Rel F os s a w)(h:It P s.st t x i K)(hx:Ab F w os x ux)(hi:Ab F w os i ui):Yields P F w os (Instr.indexAt t ux ui) K:=by
 obtain⟨ei,he,h⟩:=BN h;obtain⟨inf,z,hu,hinf,_,_,uz,ue,_⟩:=HP he;have hs:(sizeOf ei.e).run P w=.ok ei.size w:=by simp[sizeOf,typeInfo,hinf,ue]
 have uP:∀b o n c k (j:Int),0<=j->j<(n:Nat)->(Instr.indexAt t (.slice (some ⟨b,o,none⟩) n c) (.int k j)).run P w=.ok (.pointer (some ⟨b,o+j.toNat*ei.size,none⟩)) w:=λb o n c k j h0 h1=>by
  have hn:¬ (n<=1/\False):=by simp
  simp[Instr.indexAt,asIntOf,qQ hu,h0,h1,hs,Ce]
 cases x with
 |own id g n=>
  cases i with
  |int k j=>
   obtain⟨h0,h1,h⟩:=h;obtain⟨row,tv,hg,hrs,hk⟩:=BN h;obtain⟨ow,how,rfl⟩:=hr.row tv;simp only[Ab]at hx hi;subst hi;obtain⟨o',uw,xX,_,hv⟩:=hx;rw[how]at uw;cases uw;obtain⟨hl,hv⟩:=hv hg;rcases hv with ⟨hb,_⟩|⟨b,hb,rfl⟩
   .have:=(hr.rows id ow how).none hb;simp[this.1]at hl;omega
   .refine⟨_,_,hk,uP _ _ _ _ _ _ h0 h1,?_⟩;simp only[Ab];exact⟨ow,how,xX,⟨_,rfl⟩,λ_=>⟨by omega,pT _,b,hb,by rw[hrs,pt];simp⟩⟩
  |_=>exact h.elim
 |sl xs=>
  cases i with
  |int k j=>
   obtain⟨h0,h⟩:=h;obtain⟨y,hy,hyl,hk⟩:=BN h;simp only[Ab]at hx hi;subst hi;obtain⟨ad,cap,rfl,_,uq⟩:=hx;have uU:j.toNat<xs.length:=(pA.1 hy).1;obtain⟨b,o,size,rfl,hb,hss,vn⟩:=uq (by intro e;rw[e]at uU;simp at uU);refine⟨_,_,hk,uP _ _ _ _ _ _ h0 (by omega),?_⟩;have E8:size=ei.size:=by rw[<- hyl];exact (hss y (ov hy)).symm
   subst E8;simp only[Ab];exact⟨b,o+j.toNat*ei.size,rfl,hb,Iv hss vn _ _ hy⟩
  |_=>exact h.elim
 |_=>exact h.elim
def DG (P:Program)(t:TypeId):Bool:=
 match P.underlying t with
 |some (.slice _)=>true
 |_=>false
theorem jf {t ty:TypeId}{x:AV}{ux:Value}(hr:Rel F os s a w)(ht:DG P t=true)(h:fu s.st x K)(hx:Ab F w os x ux):Yields P F w os (Builtin.len_ #[t] ty #[ux]) K:=by
 unfold DG at ht;split at ht
 case h_2=>cases ht
 rename_i e hu;have uP:∀ad n c,(Builtin.len_ #[t] ty #[.slice ad n c]).run P w=.ok (.int .i64 n) w:=λad n c=>by
  simp[Builtin.len_,qQ hu,goInt]
 cases x with
 |own id g n=>
  obtain⟨row,tv,hg,hk⟩:=BN h;obtain⟨ow,how,rfl⟩:=hr.row tv;simp only[Ab]at hx;obtain⟨o',uw,xX,_,hv⟩:=hx;rw[how]at uw;cases uw;obtain⟨hl,hv⟩:=hv hg;rcases hv with ⟨_,ad,rfl⟩|⟨b,_,rfl⟩
  .exact .int hk (uP _ _ _)
  .exact .int hk (uP _ _ _)
 |sl xs=>
  simp only[Ab]at hx;obtain⟨ad,cap,rfl,_,_⟩:=hx;exact .int h (uP _ _ _)
 |zc=>
  simp only[Ab]at hx;obtain⟨ad,rfl⟩:=hx;exact .int h (uP _ _ _)
 |_=>exact h.elim
theorem aw {x:AV}{ux:Value}{i:Nat}(h:RH x i K)(hx:Ab F w os x ux):Yields P F w os (Instr.extract ux i) K:=by
 cases x with
 |C8 vs=>
  obtain⟨y,hy,hk⟩:=BN h;simp only[Ab]at hx;obtain⟨us,rfl,hl⟩:=hx;obtain⟨u,hu,hru⟩:=CH hl i y hy;exact⟨y,u,hk,by simp[Instr.extract,hu],hru⟩
 |_=>exact h.elim
theorem eY {t:TypeId}{f:Nat}{x:AV}{ux:Value}(h:N9 P t x f K)(hx:Ab F w os x ux):Yields P F w os (Instr.field t ux f) K:=by
 unfold N9 at h;split at h
 .rename_i cs fs hu;obtain⟨g,hg,h⟩:=BN h;obtain⟨ti,ht,h⟩:=BN h;simp only[Ab]at hx;obtain⟨us,rfl,hl⟩:=hx;obtain⟨d,i,hud,hi,e1,e2⟩:=Js ht;have xW:=Lr (w:=w) hud;rw[<- e1]at xW;have hlen:=BX hl;unfold L6 at h;split at h
  .rename_i yN;rw[yN]at xW;refine⟨_,.agg (us.toArray.extract g.offset (g.offset+ti.2)),h.2,?_,?_⟩
   .simp[Instr.field,qQ hu,hg,asAgg,part,xW,sizeOf,typeInfo,hi,e2]
   .simp only[Ab];refine⟨(us.drop g.offset).take ti.2,by simp,Db (by simp;omega) λj c u hc vo=>?_⟩;simp only[pn,qH]at hc vo;split at hc
    .rename_i hj;rw[pI hj]at vo;obtain⟨u2,xB,hr2⟩:=CH hl _ _ hc;rw[xB]at vo;cases vo;exact hr2
    .cases hc
  .rename_i yN;simp only[tC]at yN;rw[yN]at xW;obtain⟨c,hc,hk⟩:=BN h;obtain⟨u,vo,hru⟩:=CH hl _ _ hc;exact⟨c,u,hk,by simp[Instr.field,qQ hu,hg,asAgg,part,xW,vo],hru⟩
 .exact h.elim
end Go.Abs
