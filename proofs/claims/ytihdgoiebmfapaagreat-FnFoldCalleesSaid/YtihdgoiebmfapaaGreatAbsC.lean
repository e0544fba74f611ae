import Derived.Test.YtihdgoiebmfapaaGreatAbsB
set_option linter.all false
namespace Go.Abs
open Go
def VE:TypeDesc->Bool
 | .struct _|.array _ _=>true
 | _=>false
def Dr (P:Program)(t:TypeId):Option (Bool×Nat):=
 match P.underlying t,P.info? t with
 | some d,some i=>some (VE d,i.size)
 | _,_=>none
structure aj where
 e:TypeId
 size:Nat
 bytes:Nat
 zero:List AV
def Ds (P:Program)(t:TypeId):Option aj:=
 match P.underlying t with
 | some (.slice e)=>match P.info? e with
  | some i=>match i.zero with
   | some z=>if z.cells.size=i.size/\0<i.size/\(z.cells.toList.map Mq).all AV.leaf then some ⟨e,i.size,i.bytes,z.cells.toList.map Mq⟩ else none
   | none=>none
  | none=>none
 | _=>none
def Hk (P:Program)(s:TypeId)(f:Nat):Option Nat:=
 match P.underlying s with
 | some (.struct fs)=>match fs[f]? with
  | some g=>match P.info? g.type with
   | some i=>if i.size=0 then none else some g.offset
   | none=>none
  | none=>none
 | _=>none
def Fl {α:Type}(o:Option α)(K:α->Prop):Prop:=
 match o with
 | some a=>K a
 | none=>False
theorem Aq {α:Type}{o:Option α}{K:α->Prop}(a:α)(h:o=some a)(hk:K a):Fl o K:=by rw[h];exact hk
theorem BP {α:Type}{o:Option α}{K:α->Prop}(h:Fl o K):∃a,o=some a/\K a:=by
 cases o with
 | none=>exact h.elim
 | some a=>exact⟨a,rfl,h⟩
def PU (c a b:AV)(K:AV->Prop):Prop:=
 match c,a,b with
 | .bool t,.bool p,.bool q=>K (.bool (if t then p else q))
 | .bool t,x,y=>(t=true->K x)/\(t=false->K y)
 | _,_,_=>False
def X3 (st:List Row)(x:AV)(K:AV->Prop):Prop:=
 match x with
 | .ptr id g i off=>Fl st[id]? λrow=>row.gen=g/\K (.ptr id g i off)
 | .Bn x off=>K (.Bn x off)
 | _=>False
def aS (op:BinOp)(k:IntKind)(a b:Int)(K:AV->Prop):Prop:=
 match op with
 | .add=>K (.int k (k.wrap (a+b)))
 | .sub=>K (.int k (k.wrap (a-b)))
 | .mul=>K (.int k (k.wrap (a*b)))
 | .quo=>b≠0/\K (.int k (k.wrap (a.tdiv b)))
 | .rem=>b≠0/\K (.int k (a.tmod b))
 | .eql=>K (.bool (a==b))
 | .neq=>K (.bool (a != b))
 | .lss=>K (.bool (decide (a<b)))
 | .leq=>K (.bool (decide (a<=b)))
 | .gtr=>K (.bool (decide (a > b)))
 | .geq=>K (.bool (decide (a ≥ b)))
 | .xor=>K (.int k (k.wrap (BitVec.ofInt k.bits a ^^^ BitVec.ofInt k.bits b).toNat))
 | _=>False
def OB (P:Program)(t:TypeId):Bool:=
 match P.underlying t with
 | some .bool=>true
 | _=>false
def WN (P:Program)(t:TypeId)(op:BinOp)(x y:AV)(K:AV->Prop):Prop:=
 match x,y with
 | .int k a,.int k' b=>k=k'/\aS op k a b K
 | .bool a,.bool b=>OB P t=true/\match op with
  | .eql=>K (.bool (a==b))
  | .neq=>K (.bool (a != b))
  | _=>False
 | _,_=>False
def dm (op:UnOp)(x:AV)(K:AV->Prop):Prop:=
 match op,x with
 | .not,.bool b=>K (.bool (!b))
 | .neg,.int k n=>K (.int k (k.wrap (-n)))
 | _,_=>False
def LF (agg:Bool)(size:Nat)(x:List AV)(off:Nat)(K:AV->Prop):Prop:=
 if agg then off+size<=x.length/\K (.agg ((x.drop off).take size)) else Fl x[off]? K
def PX (P:Program)(st:List Row)(t:TypeId)(v:AV)(K:AV->Prop):Prop:=
 Fl (Dr P t) λti=>match v with
  | .ptr id g i off=>Fl st[id]? λrow=>row.gen=g/\Fl row.xs[i]? λx=>LF ti.1 ti.2 x off K
  | .Bn x off=>LF ti.1 ti.2 x off K
  | _=>False
def Le (P:Program)(s:TypeId)(v:AV)(f:Nat)(st:List Row)(K:AV->Prop):Prop:=
 Fl (Hk P s f) λo=>match v with
  | .ptr id g i off=>Fl st[id]? λrow=>row.gen=g/\off+o<=row.size/\K (.ptr id g i (off+o))
  | .Bn x off=>K (.Bn x (off+o))
  | _=>False
def JS (P:Program)(st:List Row)(t:TypeId)(x i:AV)(K:AV->Prop):Prop:=
 Fl (Ds P t) λei=>match x,i with
  | .own id g n,.int _ j=>0<=j/\j<n/\Fl st[id]? λrow=>row.gen=g/\row.size=ei.size/\K (.ptr id g (row.xs.length-n+j.toNat) 0)
  | .sl xs,.int _ j=>0<=j/\Fl xs[j.toNat]? λy=>y.length=ei.size/\K (.Bn y 0)
  | _,_=>False
def dB (st:List Row)(x:AV)(K:AV->Prop):Prop:=
 match x with
 | .own id g n=>Fl st[id]? λrow=>row.gen=g/\K (.int .i64 n)
 | .sl xs=>K (.int .i64 xs.length)
 | .zc=>K (.int .i64 0)
 | _=>False
def NI (P:Program)(t:TypeId)(x:AV)(f:Nat)(K:AV->Prop):Prop:=
 match x,P.underlying t with
 | .agg cs,some (.struct fs)=>Fl fs[f]? λg=>Fl (Dr P g.type) λti=>LF ti.1 ti.2 cs g.offset K
 | _,_=>False
def QR (x:AV)(i:Nat)(K:AV->Prop):Prop:=
 match x with
 | .Dd vs=>Fl vs[i]? K
 | _=>False
theorem CO {F:Nat->Prop}{w:World}{os:List Own}:∀{xs:List AV} {us:List Value},Bs F w os xs us->∀(i:Nat) (x:AV),xs[i]?=some x->∃u,us[i]?=some u/\Ae F w os x u
 | [],_,_,i,x,hx=>by simp at hx
 | y::r,us,h,i,x,hx=>by
  simp only[Bs]at h;obtain⟨u,tM,rfl,h1,h2⟩:=h;cases i with
  | zero=>simp only[mI,lX]at hx;subst hx;exact⟨u,rfl,h1⟩
  | succ i=>simp only[mQ]at hx⊢;exact CO h2 i x hx
theorem BZ {F:Nat->Prop}{w:World}{os:List Own}:∀{xs:List AV} {us:List Value},Bs F w os xs us->us.length=xs.length
 | [],us,h=>by simp only[Bs]at h;simp[h]
 | y::r,us,h=>by
  simp only[Bs]at h;obtain⟨u,tM,rfl,h1,h2⟩:=h;simp[BZ h2]
theorem Db {F:Nat->Prop}{w:World}{os:List Own}:∀{xs:List AV} {us:List Value},us.length=xs.length->(∀(i:Nat) x u,xs[i]?=some x->us[i]?=some u->Ae F w os x u)->Bs F w os xs us
 | [],us,h,_=>by simp only[Bs];exact mY (by simpa using h)
 | y::r,[],h,_=>by simp at h
 | y::r,u::us,h,hi=>by
  simp only[Bs];exact⟨u,us,rfl,hi 0 y u rfl rfl,Db (by simpa using h) λi x u hx hu=>hi (i+1) x u (by simpa using hx) (by simpa using hu)⟩
theorem Jw {F:Nat->Prop}{w:World}:∀{xs:List AV} {b o:Nat},FI F w xs b o->∀(i:Nat) x,xs[i]?=some x->∃u,w.cell? ⟨b,o+i,none⟩=some u/\x.leaf=true/\Ae F w [] x u
 | [],_,_,_,i,x,hx=>by simp at hx
 | y::r,b,o,h,i,x,hx=>by
  simp only[FI]at h;cases i with
  | zero=>simp only[mI,lX]at hx;subst hx;exact h.1
  | succ i=>
   simp only[mQ]at hx;have:=Jw h.2 i x hx;rwa [show o+1+i=o+(i+1) by omega]at this
theorem Km {F:Nat->Prop}{w:World}:∀{xs:List AV} {b o:Nat},(∀(i:Nat) x,xs[i]?=some x->∃u,w.cell? ⟨b,o+i,none⟩=some u/\x.leaf=true/\Ae F w [] x u)->FI F w xs b o
 | [],_,_,_=>by simp[FI]
 | y::r,b,o,h=>by
  simp only[FI];refine⟨h 0 y rfl,Km λi x hx=>?_⟩;have:=h (i+1) x (by simpa using hx);rwa [show o+(i+1)=o+1+i by omega]at this
theorem IT {F:Nat->Prop}{w:World}{size:Nat}:∀{xs:List (List AV)} {b o:Nat},(∀x∈xs,x.length=size)->HX F w xs b o->∀(i:Nat) x,xs[i]?=some x->FI F w x b (o+i*size)
 | [],_,_,_,_,i,x,hx=>by simp at hx
 | y::r,b,o,hs,h,i,x,hx=>by
  simp only[HX]at h;cases i with
  | zero=>simp only[mI,lX]at hx;subst hx;simpa using h.1
  | succ i=>
   simp only[mQ]at hx;have:=IT (λx hx=>hs x (by simp[hx])) h.2 i x hx;rw[hs y (by simp)]at this;rwa [show o+size+i*size=o+(i+1)*size by rw[mM];omega]at this
theorem Lj {F:Nat->Prop}{w:World}{size:Nat}:∀{xs:List (List AV)} {b o:Nat},(∀x∈xs,x.length=size)->(∀(i:Nat) x,xs[i]?=some x->FI F w x b (o+i*size))->HX F w xs b o
 | [],_,_,_,_=>by simp[HX]
 | y::r,b,o,hs,h=>by
  simp only[HX];refine⟨by simpa using h 0 y rfl,Lj (λx hx=>hs x (by simp[hx])) λi x hx=>?_⟩;have:=h (i+1) x (by simpa using hx);rw[hs y (by simp)];rwa [show o+(i+1)*size=o+size+i*size by rw[mM];omega]at this
theorem X7 {F:Nat->Prop}{w:World}(os:List Own){x:AV}{u:Value}(h:Ae F w [] x u):Ae F w os x u:=
 DV (λ_ h=>h) (λ_ _=>rfl) [] os (by simp) x u h
theorem Oi {F:Nat->Prop}{w:World}{os:List Own}{x:AV}{u:Value}(hl:x.leaf=true)(h:Ae F w os x u):u.oneCell'=true:=by
 cases x<;>simp only[AV.leaf,lY]at hl<;>simp only[Ae]at h
 case int=>subst h;rfl
 case bool=>subst h;rfl
 case str=>subst h;rfl
 case zc=>obtain⟨a,rfl⟩:=h;rfl
 case RI=>subst h;rfl
 case Q7=>subst h;rfl
 case sl=>obtain⟨a,cap,rfl,_⟩:=h;rfl
 case own=>obtain⟨o,_,_,⟨a,l,c,rfl⟩,_⟩:=h;rfl
 case ptr=>obtain⟨o,_,_,⟨a,rfl⟩,_⟩:=h;rfl
 case Bn=>obtain⟨b,o,rfl,_⟩:=h;rfl
 case fn=>obtain⟨us,rfl,_⟩:=h;rfl
theorem XB {F:Nat->Prop}{w:World}{os:List Own}{x:AV}{u:Value}(hl:x.kept=true)(h:Ae F w os x u):u.oneCell'=true:=by
 cases x with
 | dv=>simp only[Ae]at h;obtain⟨a,l,c,rfl⟩:=h;rfl
 | _=>exact Oi (by simpa [AV.kept] using hl) h
def Yields (P:Program)(F:Nat->Prop)(w:World)(os:List Own)(uT:Sem Value)(K:AV->Prop):Prop:=
 ∃x u,K x/\uT.run P w=.ok u w/\Ae F w os x u
variable {P : Program} {F : Nat -> Prop} {os : List Own} {s : St} {a : Act} {w : World} {K : AV -> Prop}
theorem Yields.int {k:IntKind}{n:Int}{uT:Sem Value}(h:K (.int k n))(hr:uT.run P w=.ok (.int k n) w):Yields P F w os uT K:=⟨_,_,h,hr,by simp[Ae]⟩
theorem Yields.bool {b:Bool}{uT:Sem Value}(h:K (.bool b))(hr:uT.run P w=.ok (.bool b) w):Yields P F w os uT K:=⟨_,_,h,hr,by simp[Ae]⟩
theorem da {c x y:AV}{uc ux uy:Value}(h:PU c x y K)(hc:Ae F w os c uc)(hx:Ae F w os x ux)(hy:Ae F w os y uy):
  Yields P F w os (do pure (if ← asBool uc then ux else uy)) K:=by
 cases c<;>simp only[PU]at h;rename_i t;simp only[Ae]at hc;subst hc;have gen:(t=true->K x)/\(t=false->K y)->Yields P F w os (do pure (if ← asBool (.bool t) then ux else uy)) K:=λg=>by
  cases t
  ·exact⟨y,uy,g.2 rfl,by simp[asBool],hy⟩
  ·exact⟨x,ux,g.1 rfl,by simp[asBool],hx⟩
 refine gen ?_;split at h
 ·rename_i h1;cases h1;constructor
  ·intro e;simpa [e] using h
  ·intro e;simpa [e] using h
 ·rename_i h1 _;cases h1;exact h
 ·exact h.elim
theorem gF {x:AV}{u:Value}(hr:Rel F os s a w)(h:X3 s.st x K)(hx:Ae F w os x u):∃v,K v/\(∃ad,u=.pointer (some ad))/\Ae F w os v u:=by
 cases x<;>simp only[X3]at h
 case ptr id g i off=>
  obtain⟨row,qc,hg,hk⟩:=BP h;refine⟨_,hk,?_,hx⟩;simp only[Ae]at hx;obtain⟨o,ho,_,_,h2⟩:=hx;have:row=o.row:=by
   have:=hr.st;rw[<- this,lW,ho]at qc;simpa using qc.symm
  subst this;obtain⟨_,_,b,_,rfl⟩:=h2 hg;exact⟨_,rfl⟩
 case Bn y off=>
  refine⟨_,h,?_,hx⟩;simp only[Ae]at hx;obtain⟨b,o,rfl,_⟩:=hx;exact⟨_,rfl⟩
theorem fy {op:BinOp}{t:TypeId}{k:IntKind}{x y:Int}(h:aS op k x y K):Yields P F w os (binOp op t (.int k x) (.int k y)) K:=by
 cases op<;>simp only[aS]at h
 case quo=>exact .int h.2 (by simp[binOp,Op.intDiv,h.1])
 case rem=>exact .int h.2 (by simp[binOp,Op.intDiv,h.1])
 case add=>exact .int h (by simp[binOp,Op.intArith])
 case sub=>exact .int h (by simp[binOp,Op.intArith])
 case mul=>exact .int h (by simp[binOp,Op.intArith])
 case xor=>exact .int h (by simp[binOp,Op.intBits])
 all_goals exact .bool h (by simp[binOp,Op.intCmp])
theorem run_equal_bool {t:TypeId}(hu:P.underlying t=some .bool)(a b:Bool):(Op.equal t (.bool a) (.bool b)).run P w=.ok (a==b) w:=by
 have hd:∀d,(Op.equalIn (d+1) t (.bool a) (.bool b)).run P w=.ok (a==b) w:=λd=>by
  simp only[Op.equalIn,mW,me hu,mT,mm]
 have:Op.maxDepth=9999+1:=rfl;unfold Op.equal;rw[this];exact hd 9999
theorem fV {op:BinOp}{t:TypeId}{x y:AV}{ux uy:Value}{ox oy:Operand}(h:WN P t op x y K)(hx:Ae F w os x ux)(hy:Ae F w os y uy):
  Yields P F w os (do eqGuard op t ox oy ux uy;binOp op t ux uy) K:=by
 have yS:∀ux uy,(∀b,ux≠.nilIface/\ux≠.agg b)->Yields P F w os (binOp op t ux uy) K->Yields P F w os (do eqGuard op t ox oy ux uy;binOp op t ux uy) K:=by
  rintro ux uy rE ⟨v,u,h1,h2,h3⟩;refine⟨v,u,h1,?_,h3⟩;have hg:(eqGuard op t ox oy ux uy).run P w=.ok () w:=by
   unfold eqGuard;cases op<;>simp<;>(cases ux<;>first|exact absurd rfl (rE #[]).1|exact absurd rfl (rE _).2|simp)
  simp[hg,h2]
 unfold WN at h;split at h
 ·obtain⟨rfl,h⟩:=h;simp only[Ae]at hx hy;subst hx;subst hy;exact yS _ _ (by simp) (fy h)
 ·obtain⟨hb,h⟩:=h;simp only[Ae]at hx hy;subst hx;subst hy;have hu:P.underlying t=some .bool:=by
   unfold OB at hb;split at hb
   ·assumption
   ·cases hb
  refine yS _ _ (by simp) ?_;split at h
  ·exact .bool h (by simp[binOp,run_equal_bool hu])
  ·rename_i p q _;exact .bool h (by simp only[binOp,mW,run_equal_bool hu,mT,mm];cases p<;>cases q<;>rfl)
  ·exact h.elim
 ·exact h.elim
theorem ij {op:UnOp}{x:AV}{ux:Value}(h:dm op x K)(hx:Ae F w os x ux):Yields P F w os (Op.unary op ux) K:=by
 unfold dm at h;split at h
 ·simp only[Ae]at hx;subst hx;exact .bool h (by simp[Op.unary])
 ·simp only[Ae]at hx;subst hx;exact .int h (by simp[Op.unary,Op.intArith])
 ·exact h.elim
theorem Rel.row {id:Nat}{row:Row}(hr:Rel F os s a w)(h:s.st[id]?=some row):∃o,os[id]?=some o/\o.row=row:=by
 rw[<- hr.st,lW]at h;cases ho:os[id]? with
 | none=>rw[ho]at h;cases h
 | some o=>rw[ho]at h;exact⟨o,rfl,by simpa using h⟩
def NB (F:Nat->Prop)(w:World)(os:List Own)(b o:Nat)(x:List AV):Prop:=
 ∀(j:Nat) c,x[j]?=some c->∃u,w.cell? ⟨b,o+j,none⟩=some u/\c.kept=true/\Ae F w os c u
theorem JD {t:TypeId}{ti:Bool×Nat}(h:Dr P t=some ti):∃d i,P.underlying t=some d/\P.info? t=some i/\ti.1=VE d/\ti.2=i.size:=by
 unfold Dr at h;split at h
 ·rename_i d i hd hi;simp only[lX]at h;subst h;exact⟨d,i,hd,hi,rfl,rfl⟩
 ·cases h
theorem K0 {t:TypeId}{d:TypeDesc}(hu:P.underlying t=some d):(isAgg t).run P w=.ok (VE d) w:=by
 unfold isAgg;rw[mW,me hu w];cases d<;>simp[VE]
theorem DK (b o i:Nat):(⟨b,o,none⟩:Addr).add i=⟨b,o+i,none⟩:=by
 unfold Addr.add;split<;>simp_all
theorem UC {t:TypeId}{ti:Bool×Nat}(ht:Dr P t=some ti){b o:Nat}{x:List AV}{off:Nat}(hx:NB F w os b o x)(h:LF ti.1 ti.2 x off K):
  Yields P F w os (loadVar t ⟨b,o+off,none⟩) K:=by
 obtain⟨d,i,hu,hi,e1,e2⟩:=JD ht;unfold LF at h;have rC:(sizeOf t).run P w=.ok i.size w:=by simp[sizeOf,typeInfo,hi]
 have tQ:=K0 (w:=w) hu;rw[<- e1]at tQ;split at h
 ·rename_i uF;obtain⟨hl,hk⟩:=h;rw[uF]at tQ;have :∀j,j<ti.2->∃u,w.cell? ((⟨b,o+off,none⟩:Addr).add j)=some u/\∀c,x[off+j]?=some c->Ae F w os c u:=λj hj=>by
   have qw:off+j<x.length:=by omega
   obtain⟨u,hu1,_,sw⟩:=hx (off+j) x[off+j] (lZ qw);refine⟨u,by rw[DK,<- hu1,nS],λc hc=>?_⟩;rw[lZ qw,lX]at hc;exact hc▸sw
  have hch:∃f:Nat->Value,∀j,j<ti.2->w.cell? ((⟨b,o+off,none⟩:Addr).add j)=some (f j)/\∀c,x[off+j]?=some c->Ae F w os c (f j):=
   ⟨λj=>(w.cell? ((⟨b,o+off,none⟩:Addr).add j)).getD undef,λj hj=>by
    obtain⟨u,hu1,sw⟩:=this j hj;simp only[hu1,ng];exact⟨lU,sw⟩⟩
  obtain⟨f,hf⟩:=hch;refine⟨_,.agg ((List.range ti.2).map f).toArray,hk,?_,?_⟩
  ·have xT:=run_loadCells (P:=P) w ⟨b,o+off,none⟩ ti.2 f (λj hj=>(hf j hj).1);simp[loadVar,tQ,rC,<- e2,xT]
  ·simp only[Ae];refine⟨_,rfl,Db (by simp;omega) λj c u hc hu=>?_⟩;simp only[mJ,mU]at hc;split at hc
   ·rename_i hj;simp only[lW,nM hj,mZ,lX]at hu;subst hu;exact (hf j hj).2 c hc
   ·cases hc
 ·rename_i uF;obtain⟨c,hc,hk⟩:=BP h;obtain⟨u,hu1,_,sw⟩:=hx off c hc;simp only[pX]at uF;rw[uF]at tQ;exact⟨c,u,hk,by simp[loadVar,tQ,hu1],sw⟩
theorem Rel.N9 {id:Nat}{o:Own}(hr:Rel F os s a w)(ho:os[id]?=some o){b:Nat}(hb:o.Fk=some b){i:Nat}{x:List AV}(hx:o.row.xs[i]?=some x):
  NB F w os b (i*o.row.size) x:=by
 have qf:=hr.rows id o ho;obtain⟨_,cur,qv,rC,hlen,_,qy⟩:=qf.some b hb;intro j c hc;obtain⟨u,hu1,sw⟩:=qy i x hx j c hc;refine⟨u,?_,(qf.lens x (lT hx)).2 c (lT hc),sw⟩;rw[oc w b _ cur _ _ qv];exact hu1
theorem LP {b o:Nat}{x:List AV}(h:FI F w x b o):NB F w os b o x:=λj c hc=>by
 obtain⟨u,h1,h2,h3⟩:=Jw h j c hc;exact⟨u,h1,D3 h2,X7 os h3⟩
theorem Xr {t:TypeId}{v:AV}{u:Value}(hr:Rel F os s a w)(h:PX P s.st t v K)(hv:Ae F w os v u):Yields P F w os (Instr.loadAt t u) K:=by
 obtain⟨ti,ht,h⟩:=BP h;cases v with
 | ptr id g i off=>
  obtain⟨row,qc,hg,h0⟩:=BP h;obtain⟨x,hx,h1⟩:=BP h0;obtain⟨o,ho,rfl⟩:=hr.row qc;simp only[Ae]at hv;obtain⟨o',rH,_,_,hv⟩:=hv;rw[ho]at rH;cases rH;obtain⟨_,_,b,hb,rfl⟩:=hv hg;simpa [Instr.loadAt,Instr.sureAddr,Yields] using UC ht (hr.N9 ho hb hx) h1
 | Bn x off=>
  simp only[Ae]at hv;obtain⟨b,o,rfl,hb,hc⟩:=hv;simpa [Instr.loadAt,Instr.sureAddr,Yields] using UC ht (LP hc) h
 | _=>exact h.elim
theorem Vq {t:TypeId}{f:Nat}{v:AV}{u:Value}(hr:Rel F os s a w)(h:Le P t v f s.st K)(hv:Ae F w os v u):Yields P F w os (Instr.fieldAt t u f) K:=by
 obtain⟨o,ho,h⟩:=BP h;unfold Hk at ho;split at ho<;>try (cases ho;done)
 rename_i fs hu;split at ho<;>try (cases ho;done)
 rename_i g hg;split at ho<;>try (cases ho;done)
 rename_i i hi;split at ho
 ·cases ho
 rename_i hz;simp only[lX]at ho;have rB:∀b off,(Instr.fieldAt t (.pointer (some ⟨b,off,none⟩)) f).run P w=.ok (.pointer (some ⟨b,off+o,none⟩)) w:=λb off=>by
  simp[Instr.fieldAt,me hu,hg,Instr.sureAddr,fieldPlace,sizeOf,typeInfo,hi,hz,DK,ho]
 cases v with
 | ptr id gg i off=>
  obtain⟨row,qc,hg,hle,hk⟩:=BP h;obtain⟨ow,how,rfl⟩:=hr.row qc;have hv':=hv;simp only[Ae]at hv;obtain⟨o',rH,tz,_,hv⟩:=hv;rw[how]at rH;cases rH;obtain⟨h1,h2,b,hb,rfl⟩:=hv hg;refine⟨_,_,hk,rB _ _,?_⟩;simp only[Ae];exact⟨ow,how,tz,⟨_,rfl⟩,λ_=>⟨h1,hle,b,hb,by rw[nS]⟩⟩
 | Bn x off=>
  simp only[Ae]at hv;obtain⟨b,o',rfl,hb,hc⟩:=hv;exact⟨_,_,h,rB _ _,by simp only[Ae];exact⟨b,o',by rw[nS],hb,hc⟩⟩
 | _=>exact h.elim
theorem IS {t:TypeId}{ei:aj}(h:Ds P t=some ei):∃i z,P.underlying t=some (.slice ei.e)/\P.info? ei.e=some i/\i.zero=some z/\z.cells.size=i.size/\0<i.size/\ei.size=i.size/\ei.bytes=i.bytes/\
  ei.zero=z.cells.toList.map Mq/\∀c∈ei.zero,c.leaf=true:=by
 unfold Ds at h;split at h<;>try (cases h;done)
 rename_i e hu;split at h<;>try (cases h;done)
 rename_i i hi;split at h<;>try (cases h;done)
 rename_i z hz;split at h<;>try (cases h;done)
 rename_i hc;simp only[lX]at h;subst h;exact⟨i,z,hu,hi,hz,hc.1,hc.2.1,rfl,rfl,rfl,λc hm=>lh.1 hc.2.2 c hm⟩
theorem Ww {t:TypeId}{x i:AV}{ux ui:Value}(hr:Rel F os s a w)(h:JS P s.st t x i K)(hx:Ae F w os x ux)(hi:Ae F w os i ui):Yields P F w os (Instr.indexAt t ux ui) K:=by
 obtain⟨ei,he,h⟩:=BP h;obtain⟨inf,z,hu,hinf,_,_,rQ,rC,_⟩:=IS he;have hs:(sizeOf ei.e).run P w=.ok ei.size w:=by simp[sizeOf,typeInfo,hinf,rC]
 have rB:∀b o n c k (j:Int),0<=j->j<(n:Nat)->(Instr.indexAt t (.slice (some ⟨b,o,none⟩) n c) (.int k j)).run P w=.ok (.pointer (some ⟨b,o+j.toNat*ei.size,none⟩)) w:=λb o n c k j h0 h1=>by
  have hn:¬ (n<=1/\False):=by simp
  simp[Instr.indexAt,asIntOf,me hu,h0,h1,hs,DK]
 cases x with
 | own id g n=>
  cases i with
  | int k j=>
   obtain⟨h0,h1,h⟩:=h;obtain⟨row,qc,hg,hrs,hk⟩:=BP h;obtain⟨ow,how,rfl⟩:=hr.row qc;simp only[Ae]at hx hi;subst hi;obtain⟨o',rH,tz,_,hv⟩:=hx;rw[how]at rH;cases rH;obtain⟨hl,hv⟩:=hv hg;rcases hv with ⟨hb,_⟩|⟨b,hb,rfl⟩
   ·have:=(hr.rows id ow how).none hb;simp[this.1]at hl;omega
   ·refine⟨_,_,hk,rB _ _ _ _ _ _ h0 h1,?_⟩;simp only[Ae];exact⟨ow,how,tz,⟨_,rfl⟩,λ_=>⟨by omega,mB _,b,hb,by rw[hrs,mM];simp⟩⟩
  | _=>exact h.elim
 | sl xs=>
  cases i with
  | int k j=>
   obtain⟨h0,h⟩:=h;obtain⟨y,hy,hyl,hk⟩:=BP h;simp only[Ae]at hx hi;subst hi;obtain⟨ad,cap,rfl,_,rE⟩:=hx;have qw:j.toNat<xs.length:=(lV.1 hy).1;obtain⟨b,o,size,rfl,hb,hss,sA⟩:=rE (by intro e;rw[e]at qw;simp at qw);refine⟨_,_,hk,rB _ _ _ _ _ _ h0 (by omega),?_⟩;have Gt:size=ei.size:=by rw[<- hyl];exact (hss y (lT hy)).symm
   subst Gt;simp only[Ae];exact⟨b,o+j.toNat*ei.size,rfl,hb,IT hss sA _ _ hy⟩
  | _=>exact h.elim
 | _=>exact h.elim
def DW (P:Program)(t:TypeId):Bool:=
 match P.underlying t with
 | some (.slice _)=>true
 | _=>false
theorem fA {t ty:TypeId}{x:AV}{ux:Value}(hr:Rel F os s a w)(ht:DW P t=true)(h:dB s.st x K)(hx:Ae F w os x ux):Yields P F w os (Builtin.len_ #[t] ty #[ux]) K:=by
 unfold DW at ht;split at ht
 case h_2=>cases ht
 rename_i e hu;have rB:∀ad n c,(Builtin.len_ #[t] ty #[.slice ad n c]).run P w=.ok (.int .i64 n) w:=λad n c=>by
  simp[Builtin.len_,me hu,goInt]
 cases x with
 | own id g n=>
  obtain⟨row,qc,hg,hk⟩:=BP h;obtain⟨ow,how,rfl⟩:=hr.row qc;simp only[Ae]at hx;obtain⟨o',rH,tz,_,hv⟩:=hx;rw[how]at rH;cases rH;obtain⟨hl,hv⟩:=hv hg;rcases hv with ⟨_,ad,rfl⟩|⟨b,_,rfl⟩
  ·exact .int hk (rB _ _ _)
  ·exact .int hk (rB _ _ _)
 | sl xs=>
  simp only[Ae]at hx;obtain⟨ad,cap,rfl,_,_⟩:=hx;exact .int h (rB _ _ _)
 | zc=>
  simp only[Ae]at hx;obtain⟨ad,rfl⟩:=hx;exact .int h (rB _ _ _)
 | _=>exact h.elim
theorem Y0 {x:AV}{ux:Value}{i:Nat}(h:QR x i K)(hx:Ae F w os x ux):Yields P F w os (Instr.extract ux i) K:=by
 cases x with
 | Dd vs=>
  obtain⟨y,hy,hk⟩:=BP h;simp only[Ae]at hx;obtain⟨us,rfl,hl⟩:=hx;obtain⟨u,hu,hru⟩:=CO hl i y hy;exact⟨y,u,hk,by simp[Instr.extract,hu],hru⟩
 | _=>exact h.elim
theorem bc {t:TypeId}{f:Nat}{x:AV}{ux:Value}(h:NI P t x f K)(hx:Ae F w os x ux):Yields P F w os (Instr.field t ux f) K:=by
 unfold NI at h;split at h
 ·rename_i cs fs hu;obtain⟨g,hg,h⟩:=BP h;obtain⟨ti,ht,h⟩:=BP h;simp only[Ae]at hx;obtain⟨us,rfl,hl⟩:=hx;obtain⟨d,i,hud,hi,e1,e2⟩:=JD ht;have tQ:=K0 (w:=w) hud;rw[<- e1]at tQ;have hlen:=BZ hl;unfold LF at h;split at h
  ·rename_i uF;rw[uF]at tQ;refine⟨_,.agg (us.toArray.extract g.offset (g.offset+ti.2)),h.2,?_,?_⟩
   ·simp[Instr.field,me hu,hg,asAgg,part,tQ,sizeOf,typeInfo,hi,e2]
   ·simp only[Ae];refine⟨(us.drop g.offset).take ti.2,by simp,Db (by simp;omega) λj c u hc sK=>?_⟩;simp only[mJ,mU]at hc sK;split at hc
    ·rename_i hj;rw[ld hj]at sK;obtain⟨u2,sw,hr2⟩:=CO hl _ _ hc;rw[sw]at sK;cases sK;exact hr2
    ·cases hc
  ·rename_i uF;simp only[pX]at uF;rw[uF]at tQ;obtain⟨c,hc,hk⟩:=BP h;obtain⟨u,sK,hru⟩:=CO hl _ _ hc;exact⟨c,u,hk,by simp[Instr.field,me hu,hg,asAgg,part,tQ,sK],hru⟩
 ·exact h.elim
end Go.Abs
