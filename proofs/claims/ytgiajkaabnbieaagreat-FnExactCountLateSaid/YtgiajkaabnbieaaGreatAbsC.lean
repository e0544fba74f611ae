import Derived.Test.YtgiajkaabnbieaaGreatAbsB
set_option linter.all false
namespace Go.Abs
open Go
def VG:TypeDesc->Bool
 | .struct _|.array _ _=>true
 | _=>false
def DS (P:Program)(t:TypeId):Option (Bool×Nat):=
 match P.underlying t,P.info? t with
 | some d,some i=>some (VG d,i.size)
 | _,_=>none
structure bI where
 e:TypeId
 size:Nat
 bytes:Nat
 zero:List AV
def Cj (P:Program)(t:TypeId):Option bI:=
 match P.underlying t with
 | some (.slice e)=>match P.info? e with
  | some i=>match i.zero with
   | some z=>if z.cells.size=i.size/\0<i.size/\(z.cells.toList.map Kt).all AV.leaf then some ⟨e,i.size,i.bytes,z.cells.toList.map Kt⟩ else none
   | none=>none
  | none=>none
 | _=>none
def Hm (P:Program)(s:TypeId)(f:Nat):Option Nat:=
 match P.underlying s with
 | some (.struct fs)=>match fs[f]? with
  | some g=>match P.info? g.type with
   | some i=>if i.size=0 then none else some g.offset
   | none=>none
  | none=>none
 | _=>none
def Fk {α:Type}(o:Option α)(K:α->Prop):Prop:=
 match o with
 | some a=>K a
 | none=>False
theorem Ak {α:Type}{o:Option α}{K:α->Prop}(a:α)(h:o=some a)(hk:K a):Fk o K:=by rw[h];exact hk
theorem Ax {α:Type}{o:Option α}{K:α->Prop}(h:Fk o K):∃a,o=some a/\K a:=by
 cases o with
 | none=>exact h.elim
 | some a=>exact⟨a,rfl,h⟩
def QA (c a b:AV)(K:AV->Prop):Prop:=
 match c,a,b with
 | .bool t,.bool p,.bool q=>K (.bool (if t then p else q))
 | .bool t,x,y=>(t=true->K x)/\(t=false->K y)
 | _,_,_=>False
def Xt (st:List Row)(x:AV)(K:AV->Prop):Prop:=
 match x with
 | .ptr id g i off=>Fk st[id]? λrow=>row.gen=g/\K (.ptr id g i off)
 | .Bt x off=>K (.Bt x off)
 | _=>False
def aF (op:BinOp)(k:IntKind)(a b:Int)(K:AV->Prop):Prop:=
 match op with
 | .add=>K (.int k (k.wrap (a+b)))
 | .sub=>K (.int k (k.wrap (a-b)))
 | .mul=>K (.int k (k.wrap (a*b)))
 | .quo=>b≠0/\K (.int k (k.wrap (a.tdiv b)))
 | .rem=>b≠0/\K (.int k (a.tmod b))
 | .eql=>K (.bool (a==b))
 | .neq=>K (.bool (a != b))
 | .lss=>K (.bool (decide (a<b)))
 | .leq=>K (.bool (decide (a<=b)))
 | .gtr=>K (.bool (decide (a > b)))
 | .geq=>K (.bool (decide (a ≥ b)))
 | .xor=>K (.int k (k.wrap (BitVec.ofInt k.bits a ^^^ BitVec.ofInt k.bits b).toNat))
 | _=>False
def ON (P:Program)(t:TypeId):Bool:=
 match P.underlying t with
 | some .bool=>true
 | _=>false
def WV (P:Program)(t:TypeId)(op:BinOp)(x y:AV)(K:AV->Prop):Prop:=
 match x,y with
 | .int k a,.int k' b=>k=k'/\aF op k a b K
 | .bool a,.bool b=>ON P t=true/\match op with
  | .eql=>K (.bool (a==b))
  | .neq=>K (.bool (a != b))
  | _=>False
 | _,_=>False
def ee (op:UnOp)(x:AV)(K:AV->Prop):Prop:=
 match op,x with
 | .not,.bool b=>K (.bool (!b))
 | .neg,.int k n=>K (.int k (k.wrap (-n)))
 | _,_=>False
def Ld (agg:Bool)(size:Nat)(x:List AV)(off:Nat)(K:AV->Prop):Prop:=
 if agg then off+size<=x.length/\K (.agg ((x.drop off).take size)) else Fk x[off]? K
def P4 (P:Program)(st:List Row)(t:TypeId)(v:AV)(K:AV->Prop):Prop:=
 Fk (DS P t) λti=>match v with
  | .ptr id g i off=>Fk st[id]? λrow=>row.gen=g/\Fk row.xs[i]? λx=>Ld ti.1 ti.2 x off K
  | .Bt x off=>Ld ti.1 ti.2 x off K
  | _=>False
def L5 (P:Program)(s:TypeId)(v:AV)(f:Nat)(st:List Row)(K:AV->Prop):Prop:=
 Fk (Hm P s f) λo=>match v with
  | .ptr id g i off=>Fk st[id]? λrow=>row.gen=g/\off+o<=row.size/\K (.ptr id g i (off+o))
  | .Bt x off=>K (.Bt x (off+o))
  | _=>False
def KP (P:Program)(st:List Row)(t:TypeId)(x i:AV)(K:AV->Prop):Prop:=
 Fk (Cj P t) λei=>match x,i with
  | .own id g n,.int _ j=>0<=j/\j<n/\Fk st[id]? λrow=>row.gen=g/\row.size=ei.size/\K (.ptr id g (row.xs.length-n+j.toNat) 0)
  | .sl xs,.int _ j=>0<=j/\Fk xs[j.toNat]? λy=>y.length=ei.size/\K (.Bt y 0)
  | _,_=>False
def cR (st:List Row)(x:AV)(K:AV->Prop):Prop:=
 match x with
 | .own id g n=>Fk st[id]? λrow=>row.gen=g/\K (.int .i64 n)
 | .sl xs=>K (.int .i64 xs.length)
 | .zc=>K (.int .i64 0)
 | _=>False
def Nj (P:Program)(t:TypeId)(x:AV)(f:Nat)(K:AV->Prop):Prop:=
 match x,P.underlying t with
 | .agg cs,some (.struct fs)=>Fk fs[f]? λg=>Fk (DS P g.type) λti=>Ld ti.1 ti.2 cs g.offset K
 | _,_=>False
def Qd (x:AV)(i:Nat)(K:AV->Prop):Prop:=
 match x with
 | .DX vs=>Fk vs[i]? K
 | _=>False
theorem CD {F:Nat->Prop}{w:World}{os:List Own}:∀{xs:List AV} {us:List Value},Ba F w os xs us->∀(i:Nat) (x:AV),xs[i]?=some x->∃u,us[i]?=some u/\Ae F w os x u
 | [],_,_,i,x,hx=>by simp at hx
 | y::r,us,h,i,x,hx=>by
  simp only[Ba]at h;obtain⟨u,tq,rfl,h1,h2⟩:=h;cases i with
  | zero=>simp only[me,mE]at hx;subst hx;exact⟨u,rfl,h1⟩
  | succ i=>simp only[mz]at hx⊢;exact CD h2 i x hx
theorem BJ {F:Nat->Prop}{w:World}{os:List Own}:∀{xs:List AV} {us:List Value},Ba F w os xs us->us.length=xs.length
 | [],us,h=>by simp only[Ba]at h;simp[h]
 | y::r,us,h=>by
  simp only[Ba]at h;obtain⟨u,tq,rfl,h1,h2⟩:=h;simp[BJ h2]
theorem Ds {F:Nat->Prop}{w:World}{os:List Own}:∀{xs:List AV} {us:List Value},us.length=xs.length->(∀(i:Nat) x u,xs[i]?=some x->us[i]?=some u->Ae F w os x u)->Ba F w os xs us
 | [],us,h,_=>by simp only[Ba];exact mh (by simpa using h)
 | y::r,[],h,_=>by simp at h
 | y::r,u::us,h,hi=>by
  simp only[Ba];exact⟨u,us,rfl,hi 0 y u rfl rfl,Ds (by simpa using h) λi x u hx hu=>hi (i+1) x u (by simpa using hx) (by simpa using hu)⟩
theorem OA {F:Nat->Prop}{w:World}:∀{xs:List AV} {b o:Nat},Ew F w xs b o->∀(i:Nat) x,xs[i]?=some x->∃u,w.cell? ⟨b,o+i,none⟩=some u/\x.leaf=true/\Ae F w [] x u
 | [],_,_,_,i,x,hx=>by simp at hx
 | y::r,b,o,h,i,x,hx=>by
  simp only[Ew]at h;cases i with
  | zero=>simp only[me,mE]at hx;subst hx;exact h.1
  | succ i=>
   simp only[mz]at hx;have:=OA h.2 i x hx;rwa [show o+1+i=o+(i+1) by omega]at this
theorem Ii {F:Nat->Prop}{w:World}:∀{xs:List AV} {b o:Nat},(∀(i:Nat) x,xs[i]?=some x->∃u,w.cell? ⟨b,o+i,none⟩=some u/\x.leaf=true/\Ae F w [] x u)->Ew F w xs b o
 | [],_,_,_=>by simp[Ew]
 | y::r,b,o,h=>by
  simp only[Ew];refine⟨h 0 y rfl,Ii λi x hx=>?_⟩;have:=h (i+1) x (by simpa using hx);rwa [show o+(i+1)=o+1+i by omega]at this
theorem Kn {F:Nat->Prop}{w:World}{size:Nat}:∀{xs:List (List AV)} {b o:Nat},(∀x∈xs,x.length=size)->Gj F w xs b o->∀(i:Nat) x,xs[i]?=some x->Ew F w x b (o+i*size)
 | [],_,_,_,_,i,x,hx=>by simp at hx
 | y::r,b,o,hs,h,i,x,hx=>by
  simp only[Gj]at h;cases i with
  | zero=>simp only[me,mE]at hx;subst hx;simpa using h.1
  | succ i=>
   simp only[mz]at hx;have:=Kn (λx hx=>hs x (by simp[hx])) h.2 i x hx;rw[hs y (by simp)]at this;rwa [show o+size+i*size=o+(i+1)*size by rw[nJ];omega]at this
theorem Jc {F:Nat->Prop}{w:World}{size:Nat}:∀{xs:List (List AV)} {b o:Nat},(∀x∈xs,x.length=size)->(∀(i:Nat) x,xs[i]?=some x->Ew F w x b (o+i*size))->Gj F w xs b o
 | [],_,_,_,_=>by simp[Gj]
 | y::r,b,o,hs,h=>by
  simp only[Gj];refine⟨by simpa using h 0 y rfl,Jc (λx hx=>hs x (by simp[hx])) λi x hx=>?_⟩;have:=h (i+1) x (by simpa using hx);rw[hs y (by simp)];rwa [show o+(i+1)*size=o+size+i*size by rw[nJ];omega]at this
theorem eV {F:Nat->Prop}{w:World}(os:List Own){x:AV}{u:Value}(h:Ae F w [] x u):Ae F w os x u:=
 EJ (λ_ h=>h) (λ_ _=>rfl) [] os (by simp) x u h
theorem PI {F:Nat->Prop}{w:World}{os:List Own}{x:AV}{u:Value}(hl:x.leaf=true)(h:Ae F w os x u):u.oneCell'=true:=by
 cases x<;>simp only[AV.leaf,mF]at hl<;>simp only[Ae]at h
 case int=>subst h;rfl
 case bool=>subst h;rfl
 case str=>subst h;rfl
 case zc=>obtain⟨a,rfl⟩:=h;rfl
 case RW=>subst h;rfl
 case RZ=>subst h;rfl
 case ex=>obtain⟨rfl,h⟩:=h;exact h
 case sl=>obtain⟨a,cap,rfl,_⟩:=h;rfl
 case own=>obtain⟨o,_,_,⟨a,l,c,rfl⟩,_⟩:=h;rfl
 case ptr=>obtain⟨o,_,_,⟨a,rfl⟩,_⟩:=h;rfl
 case Bt=>obtain⟨b,o,rfl,_⟩:=h;rfl
 case fn=>obtain⟨us,rfl,_⟩:=h;rfl
theorem RY {F:Nat->Prop}{w:World}{os:List Own}{x:AV}{u:Value}(hl:x.kept=true)(h:Ae F w os x u):u.oneCell'=true:=by
 cases x with
 | dv=>simp only[Ae]at h;obtain⟨a,l,c,rfl⟩:=h;rfl
 | _=>exact PI (by simpa [AV.kept] using hl) h
def Yields (P:Program)(F:Nat->Prop)(w:World)(os:List Own)(OZ:Sem Value)(K:AV->Prop):Prop:=
 ∃x u,K x/\OZ.run P w=.ok u w/\Ae F w os x u
variable {P : Program} {F : Nat -> Prop} {os : List Own} {s : St} {a : Act} {w : World} {K : AV -> Prop}
theorem Yields.int {k:IntKind}{n:Int}{OZ:Sem Value}(h:K (.int k n))(hr:OZ.run P w=.ok (.int k n) w):Yields P F w os OZ K:=⟨_,_,h,hr,by simp[Ae]⟩
theorem Yields.bool {b:Bool}{OZ:Sem Value}(h:K (.bool b))(hr:OZ.run P w=.ok (.bool b) w):Yields P F w os OZ K:=⟨_,_,h,hr,by simp[Ae]⟩
theorem dg {c x y:AV}{uc ux uy:Value}(h:QA c x y K)(hc:Ae F w os c uc)(hx:Ae F w os x ux)(hy:Ae F w os y uy):
  Yields P F w os (do pure (if ← asBool uc then ux else uy)) K:=by
 cases c<;>simp only[QA]at h;rename_i t;simp only[Ae]at hc;subst hc;have gen:(t=true->K x)/\(t=false->K y)->Yields P F w os (do pure (if ← asBool (.bool t) then ux else uy)) K:=λg=>by
  cases t
  ·exact⟨y,uy,g.2 rfl,by simp[asBool],hy⟩
  ·exact⟨x,ux,g.1 rfl,by simp[asBool],hx⟩
 refine gen ?_;split at h
 ·rename_i h1;cases h1;constructor
  ·intro e;simpa [e] using h
  ·intro e;simpa [e] using h
 ·rename_i h1 _;cases h1;exact h
 ·exact h.elim
theorem fx {x:AV}{u:Value}(hr:Rel F os s a w)(h:Xt s.st x K)(hx:Ae F w os x u):∃v,K v/\(∃ad,u=.pointer (some ad))/\Ae F w os v u:=by
 cases x<;>simp only[Xt]at h
 case ptr id g i off=>
  obtain⟨row,qo,hg,hk⟩:=Ax h;refine⟨_,hk,?_,hx⟩;simp only[Ae]at hx;obtain⟨o,ho,_,_,h2⟩:=hx;have:row=o.row:=by
   have:=hr.st;rw[<- this,mG,ho]at qo;simpa using qo.symm
  subst this;obtain⟨_,_,b,_,rfl⟩:=h2 hg;exact⟨_,rfl⟩
 case Bt y off=>
  refine⟨_,h,?_,hx⟩;simp only[Ae]at hx;obtain⟨b,o,rfl,_⟩:=hx;exact⟨_,rfl⟩
theorem ff {op:BinOp}{t:TypeId}{k:IntKind}{x y:Int}(h:aF op k x y K):Yields P F w os (binOp op t (.int k x) (.int k y)) K:=by
 cases op<;>simp only[aF]at h
 case quo=>exact .int h.2 (by simp[binOp,Op.intDiv,h.1])
 case rem=>exact .int h.2 (by simp[binOp,Op.intDiv,h.1])
 case add=>exact .int h (by simp[binOp,Op.intArith])
 case sub=>exact .int h (by simp[binOp,Op.intArith])
 case mul=>exact .int h (by simp[binOp,Op.intArith])
 case xor=>exact .int h (by simp[binOp,Op.intBits])
 all_goals exact .bool h (by simp[binOp,Op.intCmp])
theorem run_equal_bool {t:TypeId}(hu:P.underlying t=some .bool)(a b:Bool):(Op.equal t (.bool a) (.bool b)).run P w=.ok (a==b) w:=by
 have hd:∀d,(Op.equalIn (d+1) t (.bool a) (.bool b)).run P w=.ok (a==b) w:=λd=>by
  simp only[Op.equalIn,nA,nR hu,mw,nY]
 have:Op.maxDepth=9999+1:=rfl;unfold Op.equal;rw[this];exact hd 9999
theorem gT {op:BinOp}{t:TypeId}{x y:AV}{ux uy:Value}{ox oy:Operand}(h:WV P t op x y K)(hx:Ae F w os x ux)(hy:Ae F w os y uy):
  Yields P F w os (do eqGuard op t ox oy ux uy;binOp op t ux uy) K:=by
 have yP:∀ux uy,(∀b,ux≠.nilIface/\ux≠.agg b)->Yields P F w os (binOp op t ux uy) K->Yields P F w os (do eqGuard op t ox oy ux uy;binOp op t ux uy) K:=by
  rintro ux uy rV ⟨v,u,h1,h2,h3⟩;refine⟨v,u,h1,?_,h3⟩;have hg:(eqGuard op t ox oy ux uy).run P w=.ok () w:=by
   unfold eqGuard;cases op<;>simp<;>(cases ux<;>first|exact absurd rfl (rV #[]).1|exact absurd rfl (rV _).2|simp)
  simp[hg,h2]
 unfold WV at h;split at h
 ·obtain⟨rfl,h⟩:=h;simp only[Ae]at hx hy;subst hx;subst hy;exact yP _ _ (by simp) (ff h)
 ·obtain⟨hb,h⟩:=h;simp only[Ae]at hx hy;subst hx;subst hy;have hu:P.underlying t=some .bool:=by
   unfold ON at hb;split at hb
   ·assumption
   ·cases hb
  refine yP _ _ (by simp) ?_;split at h
  ·exact .bool h (by simp[binOp,run_equal_bool hu])
  ·rename_i p q _;exact .bool h (by simp only[binOp,nA,run_equal_bool hu,mw,nY];cases p<;>cases q<;>rfl)
  ·exact h.elim
 ·exact h.elim
theorem il {op:UnOp}{x:AV}{ux:Value}(h:ee op x K)(hx:Ae F w os x ux):Yields P F w os (Op.unary op ux) K:=by
 unfold ee at h;split at h
 ·simp only[Ae]at hx;subst hx;exact .bool h (by simp[Op.unary])
 ·simp only[Ae]at hx;subst hx;exact .int h (by simp[Op.unary,Op.intArith])
 ·exact h.elim
theorem Rel.row {id:Nat}{row:Row}(hr:Rel F os s a w)(h:s.st[id]?=some row):∃o,os[id]?=some o/\o.row=row:=by
 rw[<- hr.st,mG]at h;cases ho:os[id]? with
 | none=>rw[ho]at h;cases h
 | some o=>rw[ho]at h;exact⟨o,rfl,by simpa using h⟩
def OV (F:Nat->Prop)(w:World)(os:List Own)(b o:Nat)(x:List AV):Prop:=
 ∀(j:Nat) c,x[j]?=some c->∃u,w.cell? ⟨b,o+j,none⟩=some u/\c.kept=true/\Ae F w os c u
theorem Jl {t:TypeId}{ti:Bool×Nat}(h:DS P t=some ti):∃d i,P.underlying t=some d/\P.info? t=some i/\ti.1=VG d/\ti.2=i.size:=by
 unfold DS at h;split at h
 ·rename_i d i hd hi;simp only[mE]at h;subst h;exact⟨d,i,hd,hi,rfl,rfl⟩
 ·cases h
theorem Li {t:TypeId}{d:TypeDesc}(hu:P.underlying t=some d):(isAgg t).run P w=.ok (VG d) w:=by
 unfold isAgg;rw[nA,nR hu w];cases d<;>simp[VG]
theorem Ct (b o i:Nat):(⟨b,o,none⟩:Addr).add i=⟨b,o+i,none⟩:=by
 unfold Addr.add;split<;>simp_all
theorem Ua {t:TypeId}{ti:Bool×Nat}(ht:DS P t=some ti){b o:Nat}{x:List AV}{off:Nat}(hx:OV F w os b o x)(h:Ld ti.1 ti.2 x off K):
  Yields P F w os (loadVar t ⟨b,o+off,none⟩) K:=by
 obtain⟨d,i,hu,hi,e1,e2⟩:=Jl ht;unfold Ld at h;have rP:(sizeOf t).run P w=.ok i.size w:=by simp[sizeOf,typeInfo,hi]
 have ta:=Li (w:=w) hu;rw[<- e1]at ta;split at h
 ·rename_i uP;obtain⟨hl,hk⟩:=h;rw[uP]at ta;have :∀j,j<ti.2->∃u,w.cell? ((⟨b,o+off,none⟩:Addr).add j)=some u/\∀c,x[off+j]?=some c->Ae F w os c u:=λj hj=>by
   have rJ:off+j<x.length:=by omega
   obtain⟨u,hu1,_,tU⟩:=hx (off+j) x[off+j] (mH rJ);refine⟨u,by rw[Ct,<- hu1,nx],λc hc=>?_⟩;rw[mH rJ,mE]at hc;exact hc▸tU
  have hch:∃f:Nat->Value,∀j,j<ti.2->w.cell? ((⟨b,o+off,none⟩:Addr).add j)=some (f j)/\∀c,x[off+j]?=some c->Ae F w os c (f j):=
   ⟨λj=>(w.cell? ((⟨b,o+off,none⟩:Addr).add j)).getD undef,λj hj=>by
    obtain⟨u,hu1,tU⟩:=this j hj;simp only[hu1,oK];exact⟨mD,tU⟩⟩
  obtain⟨f,hf⟩:=hch;refine⟨_,.agg ((List.range ti.2).map f).toArray,hk,?_,?_⟩
  ·have zG:=run_loadCells (P:=P) w ⟨b,o+off,none⟩ ti.2 f (λj hj=>(hf j hj).1);simp[loadVar,ta,rP,<- e2,zG]
  ·simp only[Ae];refine⟨_,rfl,Ds (by simp;omega) λj c u hc hu=>?_⟩;simp only[mi,nP]at hc;split at hc
   ·rename_i hj;simp only[mG,nb hj,nC,mE]at hu;subst hu;exact (hf j hj).2 c hc
   ·cases hc
 ·rename_i uP;obtain⟨c,hc,hk⟩:=Ax h;obtain⟨u,hu1,_,tU⟩:=hx off c hc;simp only[po]at uP;rw[uP]at ta;exact⟨c,u,hk,by simp[loadVar,ta,hu1],tU⟩
theorem Rel.T8 {id:Nat}{o:Own}(hr:Rel F os s a w)(ho:os[id]?=some o){b:Nat}(hb:o.DM=some b){i:Nat}{x:List AV}(hx:o.row.xs[i]?=some x):
  OV F w os b (i*o.row.size) x:=by
 have qu:=hr.rows id o ho;obtain⟨_,cur,rE,rP,hlen,_,rF⟩:=qu.some b hb;intro j c hc;obtain⟨u,hu1,tU⟩:=rF i x hx j c hc;refine⟨u,?_,(qu.lens x (mB hx)).2 c (mB hc),tU⟩;rw[oE w b _ cur _ _ rE];exact hu1
theorem Lu {b o:Nat}{x:List AV}(h:Ew F w x b o):OV F w os b o x:=λj c hc=>by
 obtain⟨u,h1,h2,h3⟩:=OA h j c hc;exact⟨u,h1,Dr h2,eV os h3⟩
theorem XX {t:TypeId}{v:AV}{u:Value}(hr:Rel F os s a w)(h:P4 P s.st t v K)(hv:Ae F w os v u):Yields P F w os (Instr.loadAt t u) K:=by
 obtain⟨ti,ht,h⟩:=Ax h;cases v with
 | ptr id g i off=>
  obtain⟨row,qo,hg,h0⟩:=Ax h;obtain⟨x,hx,h1⟩:=Ax h0;obtain⟨o,ho,rfl⟩:=hr.row qo;simp only[Ae]at hv;obtain⟨o',rW,_,_,hv⟩:=hv;rw[ho]at rW;cases rW;obtain⟨_,_,b,hb,rfl⟩:=hv hg;simpa [Instr.loadAt,Instr.sureAddr,Yields] using Ua ht (hr.T8 ho hb hx) h1
 | Bt x off=>
  simp only[Ae]at hv;obtain⟨b,o,rfl,hb,hc⟩:=hv;simpa [Instr.loadAt,Instr.sureAddr,Yields] using Ua ht (Lu hc) h
 | _=>exact h.elim
theorem VY {t:TypeId}{f:Nat}{v:AV}{u:Value}(hr:Rel F os s a w)(h:L5 P t v f s.st K)(hv:Ae F w os v u):Yields P F w os (Instr.fieldAt t u f) K:=by
 obtain⟨o,ho,h⟩:=Ax h;unfold Hm at ho;split at ho<;>try (cases ho;done)
 rename_i fs hu;split at ho<;>try (cases ho;done)
 rename_i g hg;split at ho<;>try (cases ho;done)
 rename_i i hi;split at ho
 ·cases ho
 rename_i hz;simp only[mE]at ho;have rO:∀b off,(Instr.fieldAt t (.pointer (some ⟨b,off,none⟩)) f).run P w=.ok (.pointer (some ⟨b,off+o,none⟩)) w:=λb off=>by
  simp[Instr.fieldAt,nR hu,hg,Instr.sureAddr,fieldPlace,sizeOf,typeInfo,hi,hz,Ct,ho]
 cases v with
 | ptr id gg i off=>
  obtain⟨row,qo,hg,hle,hk⟩:=Ax h;obtain⟨ow,how,rfl⟩:=hr.row qo;have hv':=hv;simp only[Ae]at hv;obtain⟨o',rW,tV,_,hv⟩:=hv;rw[how]at rW;cases rW;obtain⟨h1,h2,b,hb,rfl⟩:=hv hg;refine⟨_,_,hk,rO _ _,?_⟩;simp only[Ae];exact⟨ow,how,tV,⟨_,rfl⟩,λ_=>⟨h1,hle,b,hb,by rw[nx]⟩⟩
 | Bt x off=>
  simp only[Ae]at hv;obtain⟨b,o',rfl,hb,hc⟩:=hv;exact⟨_,_,h,rO _ _,by simp only[Ae];exact⟨b,o',by rw[nx],hb,hc⟩⟩
 | _=>exact h.elim
theorem IY {t:TypeId}{ei:bI}(h:Cj P t=some ei):∃i z,P.underlying t=some (.slice ei.e)/\P.info? ei.e=some i/\i.zero=some z/\z.cells.size=i.size/\0<i.size/\ei.size=i.size/\ei.bytes=i.bytes/\
  ei.zero=z.cells.toList.map Kt/\∀c∈ei.zero,c.leaf=true:=by
 unfold Cj at h;split at h<;>try (cases h;done)
 rename_i e hu;split at h<;>try (cases h;done)
 rename_i i hi;split at h<;>try (cases h;done)
 rename_i z hz;split at h<;>try (cases h;done)
 rename_i hc;simp only[mE]at h;subst h;exact⟨i,z,hu,hi,hz,hc.1,hc.2.1,rfl,rfl,rfl,λc hm=>mL.1 hc.2.2 c hm⟩
theorem WT {t:TypeId}{x i:AV}{ux ui:Value}(hr:Rel F os s a w)(h:KP P s.st t x i K)(hx:Ae F w os x ux)(hi:Ae F w os i ui):Yields P F w os (Instr.indexAt t ux ui) K:=by
 obtain⟨ei,he,h⟩:=Ax h;obtain⟨inf,z,hu,hinf,_,_,ru,rP,_⟩:=IY he;have hs:(sizeOf ei.e).run P w=.ok ei.size w:=by simp[sizeOf,typeInfo,hinf,rP]
 have rO:∀b o n c k (j:Int),0<=j->j<(n:Nat)->(Instr.indexAt t (.slice (some ⟨b,o,none⟩) n c) (.int k j)).run P w=.ok (.pointer (some ⟨b,o+j.toNat*ei.size,none⟩)) w:=λb o n c k j h0 h1=>by
  have hn:¬ (n<=1/\False):=by simp
  simp[Instr.indexAt,asIntOf,nR hu,h0,h1,hs,Ct]
 cases x with
 | own id g n=>
  cases i with
  | int k j=>
   obtain⟨h0,h1,h⟩:=h;obtain⟨row,qo,hg,hrs,hk⟩:=Ax h;obtain⟨ow,how,rfl⟩:=hr.row qo;simp only[Ae]at hx hi;subst hi;obtain⟨o',rW,tV,_,hv⟩:=hx;rw[how]at rW;cases rW;obtain⟨hl,hv⟩:=hv hg;rcases hv with ⟨hb,_⟩|⟨b,hb,rfl⟩
   ·have:=(hr.rows id ow how).none hb;simp[this.1]at hl;omega
   ·refine⟨_,_,hk,rO _ _ _ _ _ _ h0 h1,?_⟩;simp only[Ae];exact⟨ow,how,tV,⟨_,rfl⟩,λ_=>⟨by omega,mV _,b,hb,by rw[hrs,nJ];simp⟩⟩
  | _=>exact h.elim
 | sl xs=>
  cases i with
  | int k j=>
   obtain⟨h0,h⟩:=h;obtain⟨y,hy,hyl,hk⟩:=Ax h;simp only[Ae]at hx hi;subst hi;obtain⟨ad,cap,rfl,_,rV⟩:=hx;have rJ:j.toNat<xs.length:=(mC.1 hy).1;obtain⟨b,o,size,rfl,hb,hss,sM⟩:=rV (by intro e;rw[e]at rJ;simp at rJ);refine⟨_,_,hk,rO _ _ _ _ _ _ h0 (by omega),?_⟩;have Gl:size=ei.size:=by rw[<- hyl];exact (hss y (mB hy)).symm
   subst Gl;simp only[Ae];exact⟨b,o+j.toNat*ei.size,rfl,hb,Kn hss sM _ _ hy⟩
  | _=>exact h.elim
 | _=>exact h.elim
def CY (P:Program)(t:TypeId):Bool:=
 match P.underlying t with
 | some (.slice _)=>true
 | _=>false
theorem fU {t ty:TypeId}{x:AV}{ux:Value}(hr:Rel F os s a w)(ht:CY P t=true)(h:cR s.st x K)(hx:Ae F w os x ux):Yields P F w os (Builtin.len_ #[t] ty #[ux]) K:=by
 unfold CY at ht;split at ht
 case h_2=>cases ht
 rename_i e hu;have rO:∀ad n c,(Builtin.len_ #[t] ty #[.slice ad n c]).run P w=.ok (.int .i64 n) w:=λad n c=>by
  simp[Builtin.len_,nR hu,goInt]
 cases x with
 | own id g n=>
  obtain⟨row,qo,hg,hk⟩:=Ax h;obtain⟨ow,how,rfl⟩:=hr.row qo;simp only[Ae]at hx;obtain⟨o',rW,tV,_,hv⟩:=hx;rw[how]at rW;cases rW;obtain⟨hl,hv⟩:=hv hg;rcases hv with ⟨_,ad,rfl⟩|⟨b,_,rfl⟩
  ·exact .int hk (rO _ _ _)
  ·exact .int hk (rO _ _ _)
 | sl xs=>
  simp only[Ae]at hx;obtain⟨ad,cap,rfl,_,_⟩:=hx;exact .int h (rO _ _ _)
 | zc=>
  simp only[Ae]at hx;obtain⟨ad,rfl⟩:=hx;exact .int h (rO _ _ _)
 | _=>exact h.elim
theorem YS {x:AV}{ux:Value}{i:Nat}(h:Qd x i K)(hx:Ae F w os x ux):Yields P F w os (Instr.extract ux i) K:=by
 cases x with
 | DX vs=>
  obtain⟨y,hy,hk⟩:=Ax h;simp only[Ae]at hx;obtain⟨us,rfl,hl⟩:=hx;obtain⟨u,hu,hru⟩:=CD hl i y hy;exact⟨y,u,hk,by simp[Instr.extract,hu],hru⟩
 | _=>exact h.elim
theorem cE {t:TypeId}{f:Nat}{x:AV}{ux:Value}(h:Nj P t x f K)(hx:Ae F w os x ux):Yields P F w os (Instr.field t ux f) K:=by
 unfold Nj at h;split at h
 ·rename_i cs fs hu;obtain⟨g,hg,h⟩:=Ax h;obtain⟨ti,ht,h⟩:=Ax h;simp only[Ae]at hx;obtain⟨us,rfl,hl⟩:=hx;obtain⟨d,i,hud,hi,e1,e2⟩:=Jl ht;have ta:=Li (w:=w) hud;rw[<- e1]at ta;have hlen:=BJ hl;unfold Ld at h;split at h
  ·rename_i uP;rw[uP]at ta;refine⟨_,.agg (us.toArray.extract g.offset (g.offset+ti.2)),h.2,?_,?_⟩
   ·simp[Instr.field,nR hu,hg,asAgg,part,ta,sizeOf,typeInfo,hi,e2]
   ·simp only[Ae];refine⟨(us.drop g.offset).take ti.2,by simp,Ds (by simp;omega) λj c u hc sa=>?_⟩;simp only[mi,nP]at hc sa;split at hc
    ·rename_i hj;rw[mI hj]at sa;obtain⟨u2,tU,hr2⟩:=CD hl _ _ hc;rw[tU]at sa;cases sa;exact hr2
    ·cases hc
  ·rename_i uP;simp only[po]at uP;rw[uP]at ta;obtain⟨c,hc,hk⟩:=Ax h;obtain⟨u,sa,hru⟩:=CD hl _ _ hc;exact⟨c,u,hk,by simp[Instr.field,nR hu,hg,asAgg,part,ta,sa],hru⟩
 ·exact h.elim
end Go.Abs
