import Derived.Test.YtihdgoiebmfapaaGreatAbsB
set_option linter.all false
namespace Go.Abs
open Go
def TI:TypeDesc->Bool
 | .struct _|.array _ _=>true
 | _=>false
def EN (P:Program)(t:TypeId):Option (Bool×Nat):=
 match P.underlying t,P.info? t with
 | some d,some i=>some (TI d,i.size)
 | _,_=>none
structure YB where
 e:TypeId
 size:Nat
 bytes:Nat
 zero:List AV
def Dt (P:Program)(t:TypeId):Option YB:=
 match P.underlying t with
 | some (.slice e)=>match P.info? e with
  | some i=>match i.zero with
   | some z=>if z.cells.size=i.size/\0<i.size/\(z.cells.toList.map Lt).all AV.leaf then some ⟨e,i.size,i.bytes,z.cells.toList.map Lt⟩ else none
   | none=>none
  | none=>none
 | _=>none
def HM (P:Program)(s:TypeId)(f:Nat):Option Nat:=
 match P.underlying s with
 | some (.struct fs)=>match fs[f]? with
  | some g=>match P.info? g.type with
   | some i=>if i.size=0 then none else some g.offset
   | none=>none
  | none=>none
 | _=>none
def Fb {α:Type}(o:Option α)(K:α->Prop):Prop:=
 match o with
 | some a=>K a
 | none=>False
theorem Am {α:Type}{o:Option α}{K:α->Prop}(a:α)(h:o=some a)(hk:K a):Fb o K:=by rw[h];exact hk
theorem BK {α:Type}{o:Option α}{K:α->Prop}(h:Fb o K):∃a,o=some a/\K a:=by
 cases o with
 | none=>exact h.elim
 | some a=>exact⟨a,rfl,h⟩
def OW (c a b:AV)(K:AV->Prop):Prop:=
 match c,a,b with
 | .bool t,.bool p,.bool q=>K (.bool (if t then p else q))
 | .bool t,x,y=>(t=true->K x)/\(t=false->K y)
 | _,_,_=>False
def Vm (st:List Row)(x:AV)(K:AV->Prop):Prop:=
 match x with
 | .ptr id g i off=>Fb st[id]? λrow=>row.gen=g/\K (.ptr id g i off)
 | .Bc x off=>K (.Bc x off)
 | _=>False
def XI (op:BinOp)(k:IntKind)(a b:Int)(K:AV->Prop):Prop:=
 match op with
 | .add=>K (.int k (k.wrap (a+b)))
 | .sub=>K (.int k (k.wrap (a-b)))
 | .mul=>K (.int k (k.wrap (a*b)))
 | .quo=>b≠0/\K (.int k (k.wrap (a.tdiv b)))
 | .rem=>b≠0/\K (.int k (a.tmod b))
 | .eql=>K (.bool (a==b))
 | .neq=>K (.bool (a != b))
 | .lss=>K (.bool (decide (a<b)))
 | .leq=>K (.bool (decide (a<=b)))
 | .gtr=>K (.bool (decide (a > b)))
 | .geq=>K (.bool (decide (a ≥ b)))
 | .xor=>K (.int k (k.wrap (BitVec.ofInt k.bits a ^^^ BitVec.ofInt k.bits b).toNat))
 | _=>False
def NL (P:Program)(t:TypeId):Bool:=
 match P.underlying t with
 | some .bool=>true
 | _=>false
def UL (P:Program)(t:TypeId)(op:BinOp)(x y:AV)(K:AV->Prop):Prop:=
 match x,y with
 | .int k a,.int k' b=>k=k'/\XI op k a b K
 | .bool a,.bool b=>NL P t=true/\match op with
  | .eql=>K (.bool (a==b))
  | .neq=>K (.bool (a != b))
  | _=>False
 | _,_=>False
def Zz (op:UnOp)(x:AV)(K:AV->Prop):Prop:=
 match op,x with
 | .not,.bool b=>K (.bool (!b))
 | .neg,.int k n=>K (.int k (k.wrap (-n)))
 | _,_=>False
def KU (agg:Bool)(size:Nat)(x:List AV)(off:Nat)(K:AV->Prop):Prop:=
 if agg then off+size<=x.length/\K (.agg ((x.drop off).take size)) else Fb x[off]? K
def Ot (P:Program)(st:List Row)(t:TypeId)(v:AV)(K:AV->Prop):Prop:=
 Fb (EN P t) λti=>match v with
  | .ptr id g i off=>Fb st[id]? λrow=>row.gen=g/\Fb row.xs[i]? λx=>KU ti.1 ti.2 x off K
  | .Bc x off=>KU ti.1 ti.2 x off K
  | _=>False
def Kr (P:Program)(s:TypeId)(v:AV)(f:Nat)(st:List Row)(K:AV->Prop):Prop:=
 Fb (HM P s f) λo=>match v with
  | .ptr id g i off=>Fb st[id]? λrow=>row.gen=g/\off+o<=row.size/\K (.ptr id g i (off+o))
  | .Bc x off=>K (.Bc x (off+o))
  | _=>False
def Hr (P:Program)(st:List Row)(t:TypeId)(x i:AV)(K:AV->Prop):Prop:=
 Fb (Dt P t) λei=>match x,i with
  | .own id g n,.int _ j=>0<=j/\j<n/\Fb st[id]? λrow=>row.gen=g/\row.size=ei.size/\K (.ptr id g (row.xs.length-n+j.toNat) 0)
  | .sl xs,.int _ j=>0<=j/\Fb xs[j.toNat]? λy=>y.length=ei.size/\K (.Bc y 0)
  | _,_=>False
def ZC (st:List Row)(x:AV)(K:AV->Prop):Prop:=
 match x with
 | .own id g n=>Fb st[id]? λrow=>row.gen=g/\K (.int .i64 n)
 | .sl xs=>K (.int .i64 xs.length)
 | .zc=>K (.int .i64 0)
 | _=>False
def MG (P:Program)(t:TypeId)(x:AV)(f:Nat)(K:AV->Prop):Prop:=
 match x,P.underlying t with
 | .agg cs,some (.struct fs)=>Fb fs[f]? λg=>Fb (EN P g.type) λti=>KU ti.1 ti.2 cs g.offset K
 | _,_=>False
def PJ (x:AV)(i:Nat)(K:AV->Prop):Prop:=
 match x with
 | .Dm vs=>Fb vs[i]? K
 | _=>False
theorem CJ {F:Nat->Prop}{w:World}{os:List Own}:∀{xs:List AV} {us:List Value},Br F w os xs us->∀(i:Nat) (x:AV),xs[i]?=some x->∃u,us[i]?=some u/\Ae F w os x u
 | [],_,_,i,x,hx=>by simp at hx
 | y::r,us,h,i,x,hx=>by
  simp only[Br]at h;obtain⟨u,oN,rfl,h1,h2⟩:=h;cases i with
  | zero=>simp only[gQ,ff]at hx;subst hx;exact⟨u,rfl,h1⟩
  | succ i=>simp only[gZ]at hx⊢;exact CJ h2 i x hx
theorem BW {F:Nat->Prop}{w:World}{os:List Own}:∀{xs:List AV} {us:List Value},Br F w os xs us->us.length=xs.length
 | [],us,h=>by simp only[Br]at h;simp[h]
 | y::r,us,h=>by
  simp only[Br]at h;obtain⟨u,oN,rfl,h1,h2⟩:=h;simp[BW h2]
theorem DV {F:Nat->Prop}{w:World}{os:List Own}:∀{xs:List AV} {us:List Value},us.length=xs.length->(∀(i:Nat) x u,xs[i]?=some x->us[i]?=some u->Ae F w os x u)->Br F w os xs us
 | [],us,h,_=>by simp only[Br];exact gY (by simpa using h)
 | y::r,[],h,_=>by simp at h
 | y::r,u::us,h,hi=>by
  simp only[Br];exact⟨u,us,rfl,hi 0 y u rfl rfl,DV (by simpa using h) λi x u hx hu=>hi (i+1) x u (by simpa using hx) (by simpa using hu)⟩
theorem Mi {F:Nat->Prop}{w:World}:∀{xs:List AV} {b o:Nat},E6 F w xs b o->∀(i:Nat) x,xs[i]?=some x->∃u,w.cell? ⟨b,o+i,none⟩=some u/\x.leaf=true/\Ae F w [] x u
 | [],_,_,_,i,x,hx=>by simp at hx
 | y::r,b,o,h,i,x,hx=>by
  simp only[E6]at h;cases i with
  | zero=>simp only[gQ,ff]at hx;subst hx;exact h.1
  | succ i=>
   simp only[gZ]at hx;have:=Mi h.2 i x hx;rwa [show o+1+i=o+(i+1) by omega]at this
theorem Jy {F:Nat->Prop}{w:World}:∀{xs:List AV} {b o:Nat},(∀(i:Nat) x,xs[i]?=some x->∃u,w.cell? ⟨b,o+i,none⟩=some u/\x.leaf=true/\Ae F w [] x u)->E6 F w xs b o
 | [],_,_,_=>by simp[E6]
 | y::r,b,o,h=>by
  simp only[E6];refine⟨h 0 y rfl,Jy λi x hx=>?_⟩;have:=h (i+1) x (by simpa using hx);rwa [show o+(i+1)=o+1+i by omega]at this
theorem Jz {F:Nat->Prop}{w:World}{size:Nat}:∀{xs:List (List AV)} {b o:Nat},(∀x∈xs,x.length=size)->HA F w xs b o->∀(i:Nat) x,xs[i]?=some x->E6 F w x b (o+i*size)
 | [],_,_,_,_,i,x,hx=>by simp at hx
 | y::r,b,o,hs,h,i,x,hx=>by
  simp only[HA]at h;cases i with
  | zero=>simp only[gQ,ff]at hx;subst hx;simpa using h.1
  | succ i=>
   simp only[gZ]at hx;have:=Jz (λx hx=>hs x (by simp[hx])) h.2 i x hx;rw[hs y (by simp)]at this;rwa [show o+size+i*size=o+(i+1)*size by rw[gU];omega]at this
theorem Ko {F:Nat->Prop}{w:World}{size:Nat}:∀{xs:List (List AV)} {b o:Nat},(∀x∈xs,x.length=size)->(∀(i:Nat) x,xs[i]?=some x->E6 F w x b (o+i*size))->HA F w xs b o
 | [],_,_,_,_=>by simp[HA]
 | y::r,b,o,hs,h=>by
  simp only[HA];refine⟨by simpa using h 0 y rfl,Ko (λx hx=>hs x (by simp[hx])) λi x hx=>?_⟩;have:=h (i+1) x (by simpa using hx);rw[hs y (by simp)];rwa [show o+(i+1)*size=o+size+i*size by rw[gU];omega]at this
theorem Zq {F:Nat->Prop}{w:World}(os:List Own){x:AV}{u:Value}(h:Ae F w [] x u):Ae F w os x u:=
 Dc (λ_ h=>h) (λ_ _=>rfl) [] os (by simp) x u h
theorem NV {F:Nat->Prop}{w:World}{os:List Own}{x:AV}{u:Value}(hl:x.leaf=true)(h:Ae F w os x u):u.oneCell'=true:=by
 cases x<;>simp only[AV.leaf,fh]at hl<;>simp only[Ae]at h
 case int=>subst h;rfl
 case bool=>subst h;rfl
 case str=>subst h;rfl
 case zc=>obtain⟨a,rfl⟩:=h;rfl
 case P2=>subst h;rfl
 case Px=>subst h;rfl
 case sl=>obtain⟨a,cap,rfl,_⟩:=h;rfl
 case own=>obtain⟨o,_,_,⟨a,l,c,rfl⟩,_⟩:=h;rfl
 case ptr=>obtain⟨o,_,_,⟨a,rfl⟩,_⟩:=h;rfl
 case Bc=>obtain⟨b,o,rfl,_⟩:=h;rfl
 case fn=>obtain⟨us,rfl,_⟩:=h;rfl
theorem U7 {F:Nat->Prop}{w:World}{os:List Own}{x:AV}{u:Value}(hl:x.kept=true)(h:Ae F w os x u):u.oneCell'=true:=by
 cases x with
 | dv=>simp only[Ae]at h;obtain⟨a,l,c,rfl⟩:=h;rfl
 | _=>exact NV (by simpa [AV.kept] using hl) h
def Yields (P:Program)(F:Nat->Prop)(w:World)(os:List Own)(pI:Sem Value)(K:AV->Prop):Prop:=
 ∃x u,K x/\pI.run P w=.ok u w/\Ae F w os x u
variable {P : Program} {F : Nat -> Prop} {os : List Own} {s : St} {a : Act} {w : World} {K : AV -> Prop}
theorem Yields.int {k:IntKind}{n:Int}{pI:Sem Value}(h:K (.int k n))(hr:pI.run P w=.ok (.int k n) w):Yields P F w os pI K:=⟨_,_,h,hr,by simp[Ae]⟩
theorem Yields.bool {b:Bool}{pI:Sem Value}(h:K (.bool b))(hr:pI.run P w=.ok (.bool b) w):Yields P F w os pI K:=⟨_,_,h,hr,by simp[Ae]⟩
theorem ZZ {c x y:AV}{uc ux uy:Value}(h:OW c x y K)(hc:Ae F w os c uc)(hx:Ae F w os x ux)(hy:Ae F w os y uy):
  Yields P F w os (do pure (if ← asBool uc then ux else uy)) K:=by
 cases c<;>simp only[OW]at h;rename_i t;simp only[Ae]at hc;subst hc;have gen:(t=true->K x)/\(t=false->K y)->Yields P F w os (do pure (if ← asBool (.bool t) then ux else uy)) K:=λg=>by
  cases t
  ·exact⟨y,uy,g.2 rfl,by simp[asBool],hy⟩
  ·exact⟨x,ux,g.1 rfl,by simp[asBool],hx⟩
 refine gen ?_;split at h
 ·rename_i h1;cases h1;constructor
  ·intro e;simpa [e] using h
  ·intro e;simpa [e] using h
 ·rename_i h1 _;cases h1;exact h
 ·exact h.elim
theorem ah {x:AV}{u:Value}(hr:Rel F os s a w)(h:Vm s.st x K)(hx:Ae F w os x u):∃v,K v/\(∃ad,u=.pointer (some ad))/\Ae F w os v u:=by
 cases x<;>simp only[Vm]at h
 case ptr id g i off=>
  obtain⟨row,lQ,hg,hk⟩:=BK h;refine⟨_,hk,?_,hx⟩;simp only[Ae]at hx;obtain⟨o,ho,_,_,h2⟩:=hx;have:row=o.row:=by
   have:=hr.st;rw[<- this,fg,ho]at lQ;simpa using lQ.symm
  subst this;obtain⟨_,_,b,_,rfl⟩:=h2 hg;exact⟨_,rfl⟩
 case Bc y off=>
  refine⟨_,h,?_,hx⟩;simp only[Ae]at hx;obtain⟨b,o,rfl,_⟩:=hx;exact⟨_,rfl⟩
theorem bR {op:BinOp}{t:TypeId}{k:IntKind}{x y:Int}(h:XI op k x y K):Yields P F w os (binOp op t (.int k x) (.int k y)) K:=by
 cases op<;>simp only[XI]at h
 case quo=>exact .int h.2 (by simp[binOp,Op.intDiv,h.1])
 case rem=>exact .int h.2 (by simp[binOp,Op.intDiv,h.1])
 case add=>exact .int h (by simp[binOp,Op.intArith])
 case sub=>exact .int h (by simp[binOp,Op.intArith])
 case mul=>exact .int h (by simp[binOp,Op.intArith])
 case xor=>exact .int h (by simp[binOp,Op.intBits])
 all_goals exact .bool h (by simp[binOp,Op.intCmp])
theorem run_equal_bool {t:TypeId}(hu:P.underlying t=some .bool)(a b:Bool):(Op.equal t (.bool a) (.bool b)).run P w=.ok (a==b) w:=by
 have hd:∀d,(Op.equalIn (d+1) t (.bool a) (.bool b)).run P w=.ok (a==b) w:=λd=>by
  simp only[Op.equalIn,gr,gy hu,gl,hY]
 have:Op.maxDepth=9999+1:=rfl;unfold Op.equal;rw[this];exact hd 9999
theorem bc {op:BinOp}{t:TypeId}{x y:AV}{ux uy:Value}{ox oy:Operand}(h:UL P t op x y K)(hx:Ae F w os x ux)(hy:Ae F w os y uy):
  Yields P F w os (do eqGuard op t ox oy ux uy;binOp op t ux uy) K:=by
 have sK:∀ux uy,(∀b,ux≠.nilIface/\ux≠.agg b)->Yields P F w os (binOp op t ux uy) K->Yields P F w os (do eqGuard op t ox oy ux uy;binOp op t ux uy) K:=by
  rintro ux uy lv ⟨v,u,h1,h2,h3⟩;refine⟨v,u,h1,?_,h3⟩;have hg:(eqGuard op t ox oy ux uy).run P w=.ok () w:=by
   unfold eqGuard;cases op<;>simp<;>(cases ux<;>first|exact absurd rfl (lv #[]).1|exact absurd rfl (lv _).2|simp)
  simp[hg,h2]
 unfold UL at h;split at h
 ·obtain⟨rfl,h⟩:=h;simp only[Ae]at hx hy;subst hx;subst hy;exact sK _ _ (by simp) (bR h)
 ·obtain⟨hb,h⟩:=h;simp only[Ae]at hx hy;subst hx;subst hy;have hu:P.underlying t=some .bool:=by
   unfold NL at hb;split at hb
   ·assumption
   ·cases hb
  refine sK _ _ (by simp) ?_;split at h
  ·exact .bool h (by simp[binOp,run_equal_bool hu])
  ·rename_i p q _;exact .bool h (by simp only[binOp,gr,run_equal_bool hu,gl,hY];cases p<;>cases q<;>rfl)
  ·exact h.elim
 ·exact h.elim
theorem cE {op:UnOp}{x:AV}{ux:Value}(h:Zz op x K)(hx:Ae F w os x ux):Yields P F w os (Op.unary op ux) K:=by
 unfold Zz at h;split at h
 ·simp only[Ae]at hx;subst hx;exact .bool h (by simp[Op.unary])
 ·simp only[Ae]at hx;subst hx;exact .int h (by simp[Op.unary,Op.intArith])
 ·exact h.elim
theorem Rel.row {id:Nat}{row:Row}(hr:Rel F os s a w)(h:s.st[id]?=some row):∃o,os[id]?=some o/\o.row=row:=by
 rw[<- hr.st,fg]at h;cases ho:os[id]? with
 | none=>rw[ho]at h;cases h
 | some o=>rw[ho]at h;exact⟨o,rfl,by simpa using h⟩
def Ln (F:Nat->Prop)(w:World)(os:List Own)(b o:Nat)(x:List AV):Prop:=
 ∀(j:Nat) c,x[j]?=some c->∃u,w.cell? ⟨b,o+j,none⟩=some u/\c.kept=true/\Ae F w os c u
theorem Io {t:TypeId}{ti:Bool×Nat}(h:EN P t=some ti):∃d i,P.underlying t=some d/\P.info? t=some i/\ti.1=TI d/\ti.2=i.size:=by
 unfold EN at h;split at h
 ·rename_i d i hd hi;simp only[ff]at h;subst h;exact⟨d,i,hd,hi,rfl,rfl⟩
 ·cases h
theorem KM {t:TypeId}{d:TypeDesc}(hu:P.underlying t=some d):(isAgg t).run P w=.ok (TI d) w:=by
 unfold isAgg;rw[gr,gy hu w];cases d<;>simp[TI]
theorem Cy (b o i:Nat):(⟨b,o,none⟩:Addr).add i=⟨b,o+i,none⟩:=by
 unfold Addr.add;split<;>simp_all
theorem SQ {t:TypeId}{ti:Bool×Nat}(ht:EN P t=some ti){b o:Nat}{x:List AV}{off:Nat}(hx:Ln F w os b o x)(h:KU ti.1 ti.2 x off K):
  Yields P F w os (loadVar t ⟨b,o+off,none⟩) K:=by
 obtain⟨d,i,hu,hi,e1,e2⟩:=Io ht;unfold KU at h;have lr:(sizeOf t).run P w=.ok i.size w:=by simp[sizeOf,typeInfo,hi]
 have oB:=KM (w:=w) hu;rw[<- e1]at oB;split at h
 ·rename_i og;obtain⟨hl,hk⟩:=h;rw[og]at oB;have :∀j,j<ti.2->∃u,w.cell? ((⟨b,o+off,none⟩:Addr).add j)=some u/\∀c,x[off+j]?=some c->Ae F w os c u:=λj hj=>by
   have lh:off+j<x.length:=by omega
   obtain⟨u,hu1,_,nt⟩:=hx (off+j) x[off+j] (fm lh);refine⟨u,by rw[Cy,<- hu1,iO],λc hc=>?_⟩;rw[fm lh,ff]at hc;exact hc▸nt
  have uN:∃f:Nat->Value,∀j,j<ti.2->w.cell? ((⟨b,o+off,none⟩:Addr).add j)=some (f j)/\∀c,x[off+j]?=some c->Ae F w os c (f j):=
   ⟨λj=>(w.cell? ((⟨b,o+off,none⟩:Addr).add j)).getD undef,λj hj=>by
    obtain⟨u,hu1,nt⟩:=this j hj;simp only[hu1,jA];exact⟨fa,nt⟩⟩
  obtain⟨f,hf⟩:=uN;refine⟨_,.agg ((List.range ti.2).map f).toArray,hk,?_,?_⟩
  ·have qm:=run_loadCells (P:=P) w ⟨b,o+off,none⟩ ti.2 f (λj hj=>(hf j hj).1);simp[loadVar,oB,lr,<- e2,qm]
  ·simp only[Ae];refine⟨_,rfl,DV (by simp;omega) λj c u hc hu=>?_⟩;simp only[gR,gh]at hc;split at hc
   ·rename_i hj;simp only[fg,ix hj,gu,ff]at hu;subst hu;exact (hf j hj).2 c hc
   ·cases hc
 ·rename_i og;obtain⟨c,hc,hk⟩:=BK h;obtain⟨u,hu1,_,nt⟩:=hx off c hc;simp only[kI]at og;rw[og]at oB;exact⟨c,u,hk,by simp[loadVar,oB,hu1],nt⟩
theorem Rel.PQ {id:Nat}{o:Own}(hr:Rel F os s a w)(ho:os[id]?=some o){b:Nat}(hb:o.Fa=some b){i:Nat}{x:List AV}(hx:o.row.xs[i]?=some x):
  Ln F w os b (i*o.row.size) x:=by
 have lU:=hr.rows id o ho;obtain⟨_,cur,lj,lr,hlen,_,lk⟩:=lU.some b hb;intro j c hc;obtain⟨u,hu1,nt⟩:=lk i x hx j c hc;refine⟨u,?_,(lU.lens x (fc hx)).2 c (fc hc),nt⟩;rw[jf w b _ cur _ _ lj];exact hu1
theorem Kb {b o:Nat}{x:List AV}(h:E6 F w x b o):Ln F w os b o x:=λj c hc=>by
 obtain⟨u,h1,h2,h3⟩:=Mi h j c hc;exact⟨u,h1,Dr h2,Zq os h3⟩
theorem Vr {t:TypeId}{v:AV}{u:Value}(hr:Rel F os s a w)(h:Ot P s.st t v K)(hv:Ae F w os v u):Yields P F w os (Instr.loadAt t u) K:=by
 obtain⟨ti,ht,h⟩:=BK h;cases v with
 | ptr id g i off=>
  obtain⟨row,lQ,hg,h0⟩:=BK h;obtain⟨x,hx,h1⟩:=BK h0;obtain⟨o,ho,rfl⟩:=hr.row lQ;simp only[Ae]at hv;obtain⟨o',lz,_,_,hv⟩:=hv;rw[ho]at lz;cases lz;obtain⟨_,_,b,hb,rfl⟩:=hv hg;simpa [Instr.loadAt,Instr.sureAddr,Yields] using SQ ht (hr.PQ ho hb hx) h1
 | Bc x off=>
  simp only[Ae]at hv;obtain⟨b,o,rfl,hb,hc⟩:=hv;simpa [Instr.loadAt,Instr.sureAddr,Yields] using SQ ht (Kb hc) h
 | _=>exact h.elim
theorem Tw {t:TypeId}{f:Nat}{v:AV}{u:Value}(hr:Rel F os s a w)(h:Kr P t v f s.st K)(hv:Ae F w os v u):Yields P F w os (Instr.fieldAt t u f) K:=by
 obtain⟨o,ho,h⟩:=BK h;unfold HM at ho;split at ho<;>try (cases ho;done)
 rename_i fs hu;split at ho<;>try (cases ho;done)
 rename_i g hg;split at ho<;>try (cases ho;done)
 rename_i i hi;split at ho
 ·cases ho
 rename_i hz;simp only[ff]at ho;have ln:∀b off,(Instr.fieldAt t (.pointer (some ⟨b,off,none⟩)) f).run P w=.ok (.pointer (some ⟨b,off+o,none⟩)) w:=λb off=>by
  simp[Instr.fieldAt,gy hu,hg,Instr.sureAddr,fieldPlace,sizeOf,typeInfo,hi,hz,Cy,ho]
 cases v with
 | ptr id gg i off=>
  obtain⟨row,lQ,hg,hle,hk⟩:=BK h;obtain⟨ow,how,rfl⟩:=hr.row lQ;have hv':=hv;simp only[Ae]at hv;obtain⟨o',lz,ob,_,hv⟩:=hv;rw[how]at lz;cases lz;obtain⟨h1,h2,b,hb,rfl⟩:=hv hg;refine⟨_,_,hk,ln _ _,?_⟩;simp only[Ae];exact⟨ow,how,ob,⟨_,rfl⟩,λ_=>⟨h1,hle,b,hb,by rw[iO]⟩⟩
 | Bc x off=>
  simp only[Ae]at hv;obtain⟨b,o',rfl,hb,hc⟩:=hv;exact⟨_,_,h,ln _ _,by simp only[Ae];exact⟨b,o',by rw[iO],hb,hc⟩⟩
 | _=>exact h.elim
theorem Ht {t:TypeId}{ei:YB}(h:Dt P t=some ei):∃i z,P.underlying t=some (.slice ei.e)/\P.info? ei.e=some i/\i.zero=some z/\z.cells.size=i.size/\0<i.size/\ei.size=i.size/\ei.bytes=i.bytes/\
  ei.zero=z.cells.toList.map Lt/\∀c∈ei.zero,c.leaf=true:=by
 unfold Dt at h;split at h<;>try (cases h;done)
 rename_i e hu;split at h<;>try (cases h;done)
 rename_i i hi;split at h<;>try (cases h;done)
 rename_i z hz;split at h<;>try (cases h;done)
 rename_i hc;simp only[ff]at h;subst h;exact⟨i,z,hu,hi,hz,hc.1,hc.2.1,rfl,rfl,rfl,λc hm=>fk.1 hc.2.2 c hm⟩
theorem UR {t:TypeId}{x i:AV}{ux ui:Value}(hr:Rel F os s a w)(h:Hr P s.st t x i K)(hx:Ae F w os x ux)(hi:Ae F w os i ui):Yields P F w os (Instr.indexAt t ux ui) K:=by
 obtain⟨ei,he,h⟩:=BK h;obtain⟨inf,z,hu,hinf,_,_,mH,lr,_⟩:=Ht he;have hs:(sizeOf ei.e).run P w=.ok ei.size w:=by simp[sizeOf,typeInfo,hinf,lr]
 have ln:∀b o n c k (j:Int),0<=j->j<(n:Nat)->(Instr.indexAt t (.slice (some ⟨b,o,none⟩) n c) (.int k j)).run P w=.ok (.pointer (some ⟨b,o+j.toNat*ei.size,none⟩)) w:=λb o n c k j h0 h1=>by
  have hn:¬ (n<=1/\False):=by simp
  simp[Instr.indexAt,asIntOf,gy hu,h0,h1,hs,Cy]
 cases x with
 | own id g n=>
  cases i with
  | int k j=>
   obtain⟨h0,h1,h⟩:=h;obtain⟨row,lQ,hg,hrs,hk⟩:=BK h;obtain⟨ow,how,rfl⟩:=hr.row lQ;simp only[Ae]at hx hi;subst hi;obtain⟨o',lz,ob,_,hv⟩:=hx;rw[how]at lz;cases lz;obtain⟨hl,hv⟩:=hv hg;rcases hv with ⟨hb,_⟩|⟨b,hb,rfl⟩
   ·have:=(hr.rows id ow how).none hb;simp[this.1]at hl;omega
   ·refine⟨_,_,hk,ln _ _ _ _ _ _ h0 h1,?_⟩;simp only[Ae];exact⟨ow,how,ob,⟨_,rfl⟩,λ_=>⟨by omega,gK _,b,hb,by rw[hrs,gU];simp⟩⟩
  | _=>exact h.elim
 | sl xs=>
  cases i with
  | int k j=>
   obtain⟨h0,h⟩:=h;obtain⟨y,hy,hyl,hk⟩:=BK h;simp only[Ae]at hx hi;subst hi;obtain⟨ad,cap,rfl,_,lv⟩:=hx;have lh:j.toNat<xs.length:=(fe.1 hy).1;obtain⟨b,o,size,rfl,hb,hss,mg⟩:=lv (by intro e;rw[e]at lh;simp at lh);refine⟨_,_,hk,ln _ _ _ _ _ _ h0 (by omega),?_⟩;have GW:size=ei.size:=by rw[<- hyl];exact (hss y (fc hy)).symm
   subst GW;simp only[Ae];exact⟨b,o+j.toNat*ei.size,rfl,hb,Jz hss mg _ _ hy⟩
  | _=>exact h.elim
 | _=>exact h.elim
def DI (P:Program)(t:TypeId):Bool:=
 match P.underlying t with
 | some (.slice _)=>true
 | _=>false
theorem af {t ty:TypeId}{x:AV}{ux:Value}(hr:Rel F os s a w)(ht:DI P t=true)(h:ZC s.st x K)(hx:Ae F w os x ux):Yields P F w os (Builtin.len_ #[t] ty #[ux]) K:=by
 unfold DI at ht;split at ht
 case h_2=>cases ht
 rename_i e hu;have ln:∀ad n c,(Builtin.len_ #[t] ty #[.slice ad n c]).run P w=.ok (.int .i64 n) w:=λad n c=>by
  simp[Builtin.len_,gy hu,goInt]
 cases x with
 | own id g n=>
  obtain⟨row,lQ,hg,hk⟩:=BK h;obtain⟨ow,how,rfl⟩:=hr.row lQ;simp only[Ae]at hx;obtain⟨o',lz,ob,_,hv⟩:=hx;rw[how]at lz;cases lz;obtain⟨hl,hv⟩:=hv hg;rcases hv with ⟨_,ad,rfl⟩|⟨b,_,rfl⟩
  ·exact .int hk (ln _ _ _)
  ·exact .int hk (ln _ _ _)
 | sl xs=>
  simp only[Ae]at hx;obtain⟨ad,cap,rfl,_,_⟩:=hx;exact .int h (ln _ _ _)
 | zc=>
  simp only[Ae]at hx;obtain⟨ad,rfl⟩:=hx;exact .int h (ln _ _ _)
 | _=>exact h.elim
theorem WK {x:AV}{ux:Value}{i:Nat}(h:PJ x i K)(hx:Ae F w os x ux):Yields P F w os (Instr.extract ux i) K:=by
 cases x with
 | Dm vs=>
  obtain⟨y,hy,hk⟩:=BK h;simp only[Ae]at hx;obtain⟨us,rfl,hl⟩:=hx;obtain⟨u,hu,hru⟩:=CJ hl i y hy;exact⟨y,u,hk,by simp[Instr.extract,hu],hru⟩
 | _=>exact h.elim
theorem YS {t:TypeId}{f:Nat}{x:AV}{ux:Value}(h:MG P t x f K)(hx:Ae F w os x ux):Yields P F w os (Instr.field t ux f) K:=by
 unfold MG at h;split at h
 ·rename_i cs fs hu;obtain⟨g,hg,h⟩:=BK h;obtain⟨ti,ht,h⟩:=BK h;simp only[Ae]at hx;obtain⟨us,rfl,hl⟩:=hx;obtain⟨d,i,hud,hi,e1,e2⟩:=Io ht;have oB:=KM (w:=w) hud;rw[<- e1]at oB;have hlen:=BW hl;unfold KU at h;split at h
  ·rename_i og;rw[og]at oB;refine⟨_,.agg (us.toArray.extract g.offset (g.offset+ti.2)),h.2,?_,?_⟩
   ·simp[Instr.field,gy hu,hg,asAgg,part,oB,sizeOf,typeInfo,hi,e2]
   ·simp only[Ae];refine⟨(us.drop g.offset).take ti.2,by simp,DV (by simp;omega) λj c u hc nC=>?_⟩;simp only[gR,gh]at hc nC;split at hc
    ·rename_i hj;rw[fq hj]at nC;obtain⟨u2,nt,hr2⟩:=CJ hl _ _ hc;rw[nt]at nC;cases nC;exact hr2
    ·cases hc
  ·rename_i og;simp only[kI]at og;rw[og]at oB;obtain⟨c,hc,hk⟩:=BK h;obtain⟨u,nC,hru⟩:=CJ hl _ _ hc;exact⟨c,u,hk,by simp[Instr.field,gy hu,hg,asAgg,part,oB,nC],hru⟩
 ·exact h.elim
end Go.Abs
