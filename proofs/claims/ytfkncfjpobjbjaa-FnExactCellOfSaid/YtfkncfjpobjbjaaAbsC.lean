import Derived.Test.YtfkncfjpobjbjaaAbsB
set_option linter.all false
namespace Go.Abs
open Go
def I2:TypeDesc->Bool
 | .struct _|.array _ _=>true
 | _=>false
def CI (P:Program)(t:TypeId):Option (Bool×Nat):=
 match P.underlying t,P.info? t with
 | some d,some i=>some (I2 d,i.size)
 | _,_=>none
structure PG where
 e:TypeId
 size:Nat
 bytes:Nat
 zero:List AV
def CG (P:Program)(t:TypeId):Option PG:=
 match P.underlying t with
 | some (.slice e)=>match P.info? e with
  | some i=>match i.zero with
   | some z=>if z.cells.size=i.size/\0<i.size/\(z.cells.toList.map En).all AV.leaf then some ⟨e,i.size,i.bytes,z.cells.toList.map En⟩ else none
   | none=>none
  | none=>none
 | _=>none
def IL (P:Program)(s:TypeId)(f:Nat):Option Nat:=
 match P.underlying s with
 | some (.struct fs)=>match fs[f]? with
  | some g=>match P.info? g.type with
   | some i=>if i.size=0 then none else some g.offset
   | none=>none
  | none=>none
 | _=>none
def Bk {α:Type}(o:Option α)(K:α->Prop):Prop:=
 match o with
 | some a=>K a
 | none=>False
theorem AL {α:Type}{o:Option α}{K:α->Prop}(a:α)(h:o=some a)(hk:K a):Bk o K:=by rw[h];exact hk
theorem AU {α:Type}{o:Option α}{K:α->Prop}(h:Bk o K):∃a,o=some a/\K a:=by
 cases o with
 | none=>exact h.elim
 | some a=>exact⟨a,rfl,h⟩
def Ga (c a b:AV)(K:AV->Prop):Prop:=
 match c,a,b with
 | .bool t,.bool p,.bool q=>K (.bool (if t then p else q))
 | .bool t,x,y=>(t=true->K x)/\(t=false->K y)
 | _,_,_=>False
def K6 (st:List Row)(x:AV)(K:AV->Prop):Prop:=
 match x with
 | .ptr id g i off=>Bk st[id]? λrow=>row.gen=g/\K (.ptr id g i off)
 | .A4 x off=>K (.A4 x off)
 | _=>False
def L0 (op:BinOp)(k:IntKind)(a b:Int)(K:AV->Prop):Prop:=
 match op with
 | .add=>K (.int k (k.wrap (a+b)))
 | .sub=>K (.int k (k.wrap (a-b)))
 | .mul=>K (.int k (k.wrap (a*b)))
 | .quo=>b≠0/\K (.int k (k.wrap (a.tdiv b)))
 | .rem=>b≠0/\K (.int k (a.tmod b))
 | .eql=>K (.bool (a==b))
 | .neq=>K (.bool (a != b))
 | .lss=>K (.bool (decide (a<b)))
 | .leq=>K (.bool (decide (a<=b)))
 | .gtr=>K (.bool (decide (a > b)))
 | .geq=>K (.bool (decide (a ≥ b)))
 | .xor=>K (.int k (k.wrap (BitVec.ofInt k.bits a ^^^ BitVec.ofInt k.bits b).toNat))
 | _=>False
def FM (P:Program)(t:TypeId):Bool:=
 match P.underlying t with
 | some .bool=>true
 | _=>false
def JT (P:Program)(t:TypeId)(op:BinOp)(x y:AV)(K:AV->Prop):Prop:=
 match x,y with
 | .int k a,.int k' b=>k=k'/\L0 op k a b K
 | .bool a,.bool b=>FM P t=true/\match op with
  | .eql=>K (.bool (a==b))
  | .neq=>K (.bool (a != b))
  | _=>False
 | _,_=>False
def OH (op:UnOp)(x:AV)(K:AV->Prop):Prop:=
 match op,x with
 | .not,.bool b=>K (.bool (!b))
 | .neg,.int k n=>K (.int k (k.wrap (-n)))
 | _,_=>False
def D9 (agg:Bool)(size:Nat)(x:List AV)(off:Nat)(K:AV->Prop):Prop:=
 if agg then off+size<=x.length/\K (.agg ((x.drop off).take size)) else Bk x[off]? K
def GU (P:Program)(st:List Row)(t:TypeId)(v:AV)(K:AV->Prop):Prop:=
 Bk (CI P t) λti=>match v with
  | .ptr id g i off=>Bk st[id]? λrow=>row.gen=g/\Bk row.xs[i]? λx=>D9 ti.1 ti.2 x off K
  | .A4 x off=>D9 ti.1 ti.2 x off K
  | _=>False
def EK (P:Program)(s:TypeId)(v:AV)(f:Nat)(st:List Row)(K:AV->Prop):Prop:=
 Bk (IL P s f) λo=>match v with
  | .ptr id g i off=>Bk st[id]? λrow=>row.gen=g/\off+o<=row.size/\K (.ptr id g i (off+o))
  | .A4 x off=>K (.A4 x (off+o))
  | _=>False
def Dp (P:Program)(st:List Row)(t:TypeId)(x i:AV)(K:AV->Prop):Prop:=
 Bk (CG P t) λei=>match x,i with
  | .own id g n,.int _ j=>0<=j/\j<n/\Bk st[id]? λrow=>row.gen=g/\row.size=ei.size/\K (.ptr id g (row.xs.length-n+j.toNat) 0)
  | .sl xs,.int _ j=>0<=j/\Bk xs[j.toNat]? λy=>y.length=ei.size/\K (.A4 y 0)
  | _,_=>False
def Nw (st:List Row)(x:AV)(K:AV->Prop):Prop:=
 match x with
 | .own id g n=>Bk st[id]? λrow=>row.gen=g/\K (.int .i64 n)
 | .sl xs=>K (.int .i64 xs.length)
 | .zc=>K (.int .i64 0)
 | _=>False
def E3 (P:Program)(t:TypeId)(x:AV)(f:Nat)(K:AV->Prop):Prop:=
 match x,P.underlying t with
 | .agg cs,some (.struct fs)=>Bk fs[f]? λg=>Bk (CI P g.type) λti=>D9 ti.1 ti.2 cs g.offset K
 | _,_=>False
def Gv (x:AV)(i:Nat)(K:AV->Prop):Prop:=
 match x with
 | .BB vs=>Bk vs[i]? K
 | _=>False
theorem Al {F:Nat->Prop}{w:World}{os:List Own}:∀{xs:List AV} {us:List Value},Ad F w os xs us->∀(i:Nat) (x:AV),xs[i]?=some x->∃u,us[i]?=some u/\AF F w os x u
 | [],_,_,i,x,hx=>by simp at hx
 | y::r,us,h,i,x,hx=>by
  simp only[Ad]at h;obtain⟨u,VR,rfl,h1,h2⟩:=h;cases i with
  | zero=>simp only[R6,Rr]at hx;subst hx;exact⟨u,rfl,h1⟩
  | succ i=>simp only[SK]at hx⊢;exact Al h2 i x hx
theorem Ab {F:Nat->Prop}{w:World}{os:List Own}:∀{xs:List AV} {us:List Value},Ad F w os xs us->us.length=xs.length
 | [],us,h=>by simp only[Ad]at h;simp[h]
 | y::r,us,h=>by
  simp only[Ad]at h;obtain⟨u,VR,rfl,h1,h2⟩:=h;simp[Ab h2]
theorem BP {F:Nat->Prop}{w:World}{os:List Own}:∀{xs:List AV} {us:List Value},us.length=xs.length->(∀(i:Nat) x u,xs[i]?=some x->us[i]?=some u->AF F w os x u)->Ad F w os xs us
 | [],us,h,_=>by simp only[Ad];exact SO (by simpa using h)
 | y::r,[],h,_=>by simp at h
 | y::r,u::us,h,hi=>by
  simp only[Ad];exact⟨u,us,rfl,hi 0 y u rfl rfl,BP (by simpa using h) λi x u hx hu=>hi (i+1) x u (by simpa using hx) (by simpa using hu)⟩
theorem FC {F:Nat->Prop}{w:World}:∀{xs:List AV} {b o:Nat},Ba F w xs b o->∀(i:Nat) x,xs[i]?=some x->∃u,w.cell? ⟨b,o+i,none⟩=some u/\x.leaf=true/\AF F w [] x u
 | [],_,_,_,i,x,hx=>by simp at hx
 | y::r,b,o,h,i,x,hx=>by
  simp only[Ba]at h;cases i with
  | zero=>simp only[R6,Rr]at hx;subst hx;exact h.1
  | succ i=>
   simp only[SK]at hx;have:=FC h.2 i x hx;rwa [show o+1+i=o+(i+1) by omega]at this
theorem DQ {F:Nat->Prop}{w:World}:∀{xs:List AV} {b o:Nat},(∀(i:Nat) x,xs[i]?=some x->∃u,w.cell? ⟨b,o+i,none⟩=some u/\x.leaf=true/\AF F w [] x u)->Ba F w xs b o
 | [],_,_,_=>by simp[Ba]
 | y::r,b,o,h=>by
  simp only[Ba];refine⟨h 0 y rfl,DQ λi x hx=>?_⟩;have:=h (i+1) x (by simpa using hx);rwa [show o+(i+1)=o+1+i by omega]at this
theorem Dr {F:Nat->Prop}{w:World}{size:Nat}:∀{xs:List (List AV)} {b o:Nat},(∀x∈xs,x.length=size)->CS F w xs b o->∀(i:Nat) x,xs[i]?=some x->Ba F w x b (o+i*size)
 | [],_,_,_,_,i,x,hx=>by simp at hx
 | y::r,b,o,hs,h,i,x,hx=>by
  simp only[CS]at h;cases i with
  | zero=>simp only[R6,Rr]at hx;subst hx;simpa using h.1
  | succ i=>
   simp only[SK]at hx;have:=Dr (λx hx=>hs x (by simp[hx])) h.2 i x hx;rw[hs y (by simp)]at this;rwa [show o+size+i*size=o+(i+1)*size by rw[SQ];omega]at this
theorem Di {F:Nat->Prop}{w:World}{size:Nat}:∀{xs:List (List AV)} {b o:Nat},(∀x∈xs,x.length=size)->(∀(i:Nat) x,xs[i]?=some x->Ba F w x b (o+i*size))->CS F w xs b o
 | [],_,_,_,_=>by simp[CS]
 | y::r,b,o,hs,h=>by
  simp only[CS];refine⟨by simpa using h 0 y rfl,Di (λx hx=>hs x (by simp[hx])) λi x hx=>?_⟩;have:=h (i+1) x (by simpa using hx);rw[hs y (by simp)];rwa [show o+(i+1)*size=o+size+i*size by rw[SQ];omega]at this
theorem OR {F:Nat->Prop}{w:World}(os:List Own){x:AV}{u:Value}(h:AF F w [] x u):AF F w os x u:=
 A8 (λ_ h=>h) (λ_ _=>rfl) [] os (by simp) x u h
theorem Fx {F:Nat->Prop}{w:World}{os:List Own}{x:AV}{u:Value}(hl:x.leaf=true)(h:AF F w os x u):u.oneCell'=true:=by
 cases x<;>simp only[AV.leaf,R4]at hl<;>simp only[AF]at h
 case int=>subst h;rfl
 case bool=>subst h;rfl
 case mp=>subst h;rfl
 case mv=>rcases h with ⟨_,rfl⟩|⟨_,rfl,_⟩<;>rfl
 case str=>subst h;rfl
 case zc=>obtain⟨a,rfl⟩:=h;rfl
 case G7=>subst h;rfl
 case G1=>subst h;rfl
 case sl=>obtain⟨a,cap,rfl,_⟩:=h;rfl
 case own=>obtain⟨o,_,_,⟨a,l,c,rfl⟩,_⟩:=h;rfl
 case ptr=>obtain⟨o,_,_,⟨a,rfl⟩,_⟩:=h;rfl
 case A4=>obtain⟨b,o,rfl,_⟩:=h;rfl
 case fn=>obtain⟨us,rfl,_⟩:=h;rfl
theorem J7 {F:Nat->Prop}{w:World}{os:List Own}{x:AV}{u:Value}(hl:x.kept=true)(h:AF F w os x u):u.oneCell'=true:=by
 cases x with
 | dv=>simp only[AF]at h;obtain⟨a,l,c,rfl⟩:=h;rfl
 | _=>exact Fx (by simpa [AV.kept] using hl) h
def Yields (P:Program)(F:Nat->Prop)(w:World)(os:List Own)(Wc:Sem Value)(K:AV->Prop):Prop:=
 ∃x u,K x/\Wc.run P w=.ok u w/\AF F w os x u
variable {P : Program} {F : Nat -> Prop} {os : List Own} {s : St} {a : Act} {w : World} {K : AV -> Prop}
theorem Yields.int {k:IntKind}{n:Int}{Wc:Sem Value}(h:K (.int k n))(hr:Wc.run P w=.ok (.int k n) w):Yields P F w os Wc K:=⟨_,_,h,hr,by simp[AF]⟩
theorem Yields.bool {b:Bool}{Wc:Sem Value}(h:K (.bool b))(hr:Wc.run P w=.ok (.bool b) w):Yields P F w os Wc K:=⟨_,_,h,hr,by simp[AF]⟩
theorem OL {c x y:AV}{uc ux uy:Value}(h:Ga c x y K)(hc:AF F w os c uc)(hx:AF F w os x ux)(hy:AF F w os y uy):
  Yields P F w os (do pure (if ← asBool uc then ux else uy)) K:=by
 cases c<;>simp only[Ga]at h;rename_i t;simp only[AF]at hc;subst hc;have gen:(t=true->K x)/\(t=false->K y)->Yields P F w os (do pure (if ← asBool (.bool t) then ux else uy)) K:=λg=>by
  cases t
  ·exact⟨y,uy,g.2 rfl,by simp[asBool],hy⟩
  ·exact⟨x,ux,g.1 rfl,by simp[asBool],hx⟩
 refine gen ?_;split at h
 ·rename_i h1;cases h1;constructor
  ·intro e;simpa [e] using h
  ·intro e;simpa [e] using h
 ·rename_i h1 _;cases h1;exact h
 ·exact h.elim
theorem Ow {x:AV}{u:Value}(hr:Rel F os s a w)(h:K6 s.st x K)(hx:AF F w os x u):∃v,K v/\(∃ad,u=.pointer (some ad))/\AF F w os v u:=by
 cases x<;>simp only[K6]at h
 case ptr id g i off=>
  obtain⟨row,T4,hg,hk⟩:=AU h;refine⟨_,hk,?_,hx⟩;simp only[AF]at hx;obtain⟨o,ho,_,_,h2⟩:=hx;have:row=o.row:=by
   have:=hr.st;rw[<- this,Rs,ho]at T4;simpa using T4.symm
  subst this;obtain⟨_,_,b,_,rfl⟩:=h2 hg;exact⟨_,rfl⟩
 case A4 y off=>
  refine⟨_,h,?_,hx⟩;simp only[AF]at hx;obtain⟨b,o,rfl,_⟩:=hx;exact⟨_,rfl⟩
theorem PF {op:BinOp}{t:TypeId}{k:IntKind}{x y:Int}(h:L0 op k x y K):Yields P F w os (binOp op t (.int k x) (.int k y)) K:=by
 cases op<;>simp only[L0]at h
 case quo=>exact .int h.2 (by simp[binOp,Op.intDiv,h.1])
 case rem=>exact .int h.2 (by simp[binOp,Op.intDiv,h.1])
 case add=>exact .int h (by simp[binOp,Op.intArith])
 case sub=>exact .int h (by simp[binOp,Op.intArith])
 case mul=>exact .int h (by simp[binOp,Op.intArith])
 case xor=>exact .int h (by simp[binOp,Op.intBits])
 all_goals exact .bool h (by simp[binOp,Op.intCmp])
theorem run_equal_bool {t:TypeId}(hu:P.underlying t=some .bool)(a b:Bool):(Op.equal t (.bool a) (.bool b)).run P w=.ok (a==b) w:=by
 have hd:∀d,(Op.equalIn (d+1) t (.bool a) (.bool b)).run P w=.ok (a==b) w:=λd=>by
  simp only[Op.equalIn,SW,SN hu,SH,SY]
 have:Op.maxDepth=9999+1:=rfl;unfold Op.equal;rw[this];exact hd 9999
theorem PV {op:BinOp}{t:TypeId}{x y:AV}{ux uy:Value}{ox oy:Operand}(h:JT P t op x y K)(hx:AF F w os x ux)(hy:AF F w os y uy):
  Yields P F w os (do eqGuard op t ox oy ux uy;binOp op t ux uy) K:=by
 have Y8:∀ux uy,(∀b,ux≠.nilIface/\ux≠.agg b)->Yields P F w os (binOp op t ux uy) K->Yields P F w os (do eqGuard op t ox oy ux uy;binOp op t ux uy) K:=by
  rintro ux uy Ua ⟨v,u,h1,h2,h3⟩;refine⟨v,u,h1,?_,h3⟩;have hg:(eqGuard op t ox oy ux uy).run P w=.ok () w:=by
   unfold eqGuard;cases op<;>simp<;>(cases ux<;>first|exact absurd rfl (Ua #[]).1|exact absurd rfl (Ua _).2|simp)
  simp[hg,h2]
 unfold JT at h;split at h
 ·obtain⟨rfl,h⟩:=h;simp only[AF]at hx hy;subst hx;subst hy;exact Y8 _ _ (by simp) (PF h)
 ·obtain⟨hb,h⟩:=h;simp only[AF]at hx hy;subst hx;subst hy;have hu:P.underlying t=some .bool:=by
   unfold FM at hb;split at hb
   ·assumption
   ·cases hb
  refine Y8 _ _ (by simp) ?_;split at h
  ·exact .bool h (by simp[binOp,run_equal_bool hu])
  ·rename_i p q _;exact .bool h (by simp only[binOp,SW,run_equal_bool hu,SH,SY];cases p<;>cases q<;>rfl)
  ·exact h.elim
 ·exact h.elim
theorem P7 {op:UnOp}{x:AV}{ux:Value}(h:OH op x K)(hx:AF F w os x ux):Yields P F w os (Op.unary op ux) K:=by
 unfold OH at h;split at h
 ·simp only[AF]at hx;subst hx;exact .bool h (by simp[Op.unary])
 ·simp only[AF]at hx;subst hx;exact .int h (by simp[Op.unary,Op.intArith])
 ·exact h.elim
theorem Rel.row {id:Nat}{row:Row}(hr:Rel F os s a w)(h:s.st[id]?=some row):∃o,os[id]?=some o/\o.row=row:=by
 rw[<- hr.st,Rs]at h;cases ho:os[id]? with
 | none=>rw[ho]at h;cases h
 | some o=>rw[ho]at h;exact⟨o,rfl,by simpa using h⟩
def FQ (F:Nat->Prop)(w:World)(os:List Own)(b o:Nat)(x:List AV):Prop:=
 ∀(j:Nat) c,x[j]?=some c->∃u,w.cell? ⟨b,o+j,none⟩=some u/\c.kept=true/\AF F w os c u
theorem GX {t:TypeId}{ti:Bool×Nat}(h:CI P t=some ti):∃d i,P.underlying t=some d/\P.info? t=some i/\ti.1=I2 d/\ti.2=i.size:=by
 unfold CI at h;split at h
 ·rename_i d i hd hi;simp only[Rr]at h;subst h;exact⟨d,i,hd,hi,rfl,rfl⟩
 ·cases h
theorem Jd {t:TypeId}{d:TypeDesc}(hu:P.underlying t=some d):(isAgg t).run P w=.ok (I2 d) w:=by
 unfold isAgg;rw[SW,SN hu w];cases d<;>simp[I2]
theorem Bq (b o i:Nat):(⟨b,o,none⟩:Addr).add i=⟨b,o+i,none⟩:=by
 unfold Addr.add;split<;>simp_all
theorem Ik {t:TypeId}{ti:Bool×Nat}(ht:CI P t=some ti){b o:Nat}{x:List AV}{off:Nat}(hx:FQ F w os b o x)(h:D9 ti.1 ti.2 x off K):
  Yields P F w os (loadVar t ⟨b,o+off,none⟩) K:=by
 obtain⟨d,i,hu,hi,e1,e2⟩:=GX ht;unfold D9 at h;have Uc:(sizeOf t).run P w=.ok i.size w:=by simp[sizeOf,typeInfo,hi]
 have X5:=Jd (w:=w) hu;rw[<- e1]at X5;split at h
 ·rename_i WK;obtain⟨hl,hk⟩:=h;rw[WK]at X5;have :∀j,j<ti.2->∃u,w.cell? ((⟨b,o+off,none⟩:Addr).add j)=some u/\∀c,x[off+j]?=some c->AF F w os c u:=λj hj=>by
   have UM:off+j<x.length:=by omega
   obtain⟨u,hu1,_,WE⟩:=hx (off+j) x[off+j] (Rt UM);refine⟨u,by rw[Bq,<- hu1,TC],λc hc=>?_⟩;rw[Rt UM,Rr]at hc;exact hc▸WE
  have Yc:∃f:Nat->Value,∀j,j<ti.2->w.cell? ((⟨b,o+off,none⟩:Addr).add j)=some (f j)/\∀c,x[off+j]?=some c->AF F w os c (f j):=
   ⟨λj=>(w.cell? ((⟨b,o+off,none⟩:Addr).add j)).getD undef,λj hj=>by
    obtain⟨u,hu1,WE⟩:=this j hj;simp only[hu1,Sv];exact⟨Ru,WE⟩⟩
  obtain⟨f,hf⟩:=Yc;refine⟨_,.agg ((List.range ti.2).map f).toArray,hk,?_,?_⟩
  ·have cX:=run_loadCells (P:=P) w ⟨b,o+off,none⟩ ti.2 f (λj hj=>(hf j hj).1);simp[loadVar,X5,Uc,<- e2,cX]
  ·simp only[AF];refine⟨_,rfl,BP (by simp;omega) λj c u hc hu=>?_⟩;simp only[SB,SX]at hc;split at hc
   ·rename_i hj;simp only[Rs,TR hj,SG,Rr]at hu;subst hu;exact (hf j hj).2 c hc
   ·cases hc
 ·rename_i WK;obtain⟨c,hc,hk⟩:=AU h;obtain⟨u,hu1,_,WE⟩:=hx off c hc;simp only[Tv]at WK;rw[WK]at X5;exact⟨c,u,hk,by simp[loadVar,X5,hu1],WE⟩
theorem Rel.IS {id:Nat}{o:Own}(hr:Rel F os s a w)(ho:os[id]?=some o){b:Nat}(hb:o.BW=some b){i:Nat}{x:List AV}(hx:o.row.xs[i]?=some x):
  FQ F w os b (i*o.row.size) x:=by
 have T6:=hr.rows id o ho;obtain⟨_,cur,UK,Uc,hlen,_,UJ⟩:=T6.some b hb;intro j c hc;obtain⟨u,hu1,WE⟩:=UJ i x hx j c hc;refine⟨u,?_,(T6.lens x (Ro hx)).2 c (Ro hc),WE⟩;rw[TM w b _ cur _ _ UK];exact hu1
theorem G3 {b o:Nat}{x:List AV}(h:Ba F w x b o):FQ F w os b o x:=λj c hc=>by
 obtain⟨u,h1,h2,h3⟩:=FC h j c hc;exact⟨u,h1,Bd h2,OR os h3⟩
theorem Kx {t:TypeId}{v:AV}{u:Value}(hr:Rel F os s a w)(h:GU P s.st t v K)(hv:AF F w os v u):Yields P F w os (Instr.loadAt t u) K:=by
 obtain⟨ti,ht,h⟩:=AU h;cases v with
 | ptr id g i off=>
  obtain⟨row,T4,hg,h0⟩:=AU h;obtain⟨x,hx,h1⟩:=AU h0;obtain⟨o,ho,rfl⟩:=hr.row T4;simp only[AF]at hv;obtain⟨o',UZ,_,_,hv⟩:=hv;rw[ho]at UZ;cases UZ;obtain⟨_,_,b,hb,rfl⟩:=hv hg;simpa [Instr.loadAt,Instr.sureAddr,Yields] using Ik ht (hr.IS ho hb hx) h1
 | A4 x off=>
  simp only[AF]at hv;obtain⟨b,o,rfl,hb,hc⟩:=hv;simpa [Instr.loadAt,Instr.sureAddr,Yields] using Ik ht (G3 hc) h
 | _=>exact h.elim
theorem JY {t:TypeId}{f:Nat}{v:AV}{u:Value}(hr:Rel F os s a w)(h:EK P t v f s.st K)(hv:AF F w os v u):Yields P F w os (Instr.fieldAt t u f) K:=by
 obtain⟨o,ho,h⟩:=AU h;unfold IL at ho;split at ho<;>try (cases ho;done)
 rename_i fs hu;split at ho<;>try (cases ho;done)
 rename_i g hg;split at ho<;>try (cases ho;done)
 rename_i i hi;split at ho
 ·cases ho
 rename_i hz;simp only[Rr]at ho;have UR:∀b off,(Instr.fieldAt t (.pointer (some ⟨b,off,none⟩)) f).run P w=.ok (.pointer (some ⟨b,off+o,none⟩)) w:=λb off=>by
  simp[Instr.fieldAt,SN hu,hg,Instr.sureAddr,fieldPlace,sizeOf,typeInfo,hi,hz,Bq,ho]
 cases v with
 | ptr id gg i off=>
  obtain⟨row,T4,hg,hle,hk⟩:=AU h;obtain⟨ow,how,rfl⟩:=hr.row T4;have ZW:=hv;simp only[AF]at hv;obtain⟨o',UZ,W4,_,hv⟩:=hv;rw[how]at UZ;cases UZ;obtain⟨h1,h2,b,hb,rfl⟩:=hv hg;refine⟨_,_,hk,UR _ _,?_⟩;simp only[AF];exact⟨ow,how,W4,⟨_,rfl⟩,λ_=>⟨h1,hle,b,hb,by rw[TC]⟩⟩
 | A4 x off=>
  simp only[AF]at hv;obtain⟨b,o',rfl,hb,hc⟩:=hv;exact⟨_,_,h,UR _ _,by simp only[AF];exact⟨b,o',by rw[TC],hb,hc⟩⟩
 | _=>exact h.elim
theorem EJ {t:TypeId}{ei:PG}(h:CG P t=some ei):∃i z,P.underlying t=some (.slice ei.e)/\P.info? ei.e=some i/\i.zero=some z/\z.cells.size=i.size/\0<i.size/\ei.size=i.size/\ei.bytes=i.bytes/\
  ei.zero=z.cells.toList.map En/\∀c∈ei.zero,c.leaf=true:=by
 unfold CG at h;split at h<;>try (cases h;done)
 rename_i e hu;split at h<;>try (cases h;done)
 rename_i i hi;split at h<;>try (cases h;done)
 rename_i z hz;split at h<;>try (cases h;done)
 rename_i hc;simp only[Rr]at h;subst h;exact⟨i,z,hu,hi,hz,hc.1,hc.2.1,rfl,rfl,rfl,λc hm=>Ry.1 hc.2.2 c hm⟩
theorem Jz {t:TypeId}{x i:AV}{ux ui:Value}(hr:Rel F os s a w)(h:Dp P s.st t x i K)(hx:AF F w os x ux)(hi:AF F w os i ui):Yields P F w os (Instr.indexAt t ux ui) K:=by
 obtain⟨ei,he,h⟩:=AU h;obtain⟨inf,z,hu,hinf,_,_,Ui,Uc,_⟩:=EJ he;have hs:(sizeOf ei.e).run P w=.ok ei.size w:=by simp[sizeOf,typeInfo,hinf,Uc]
 have UR:∀b o n c k (j:Int),0<=j->j<(n:Nat)->(Instr.indexAt t (.slice (some ⟨b,o,none⟩) n c) (.int k j)).run P w=.ok (.pointer (some ⟨b,o+j.toNat*ei.size,none⟩)) w:=λb o n c k j h0 h1=>by
  have hn:¬ (n<=1/\False):=by simp
  simp[Instr.indexAt,asIntOf,SN hu,h0,h1,hs,Bq]
 cases x with
 | own id g n=>
  cases i with
  | int k j=>
   obtain⟨h0,h1,h⟩:=h;obtain⟨row,T4,hg,hrs,hk⟩:=AU h;obtain⟨ow,how,rfl⟩:=hr.row T4;simp only[AF]at hx hi;subst hi;obtain⟨o',UZ,W4,_,hv⟩:=hx;rw[how]at UZ;cases UZ;obtain⟨hl,hv⟩:=hv hg;rcases hv with ⟨hb,h0,_⟩|⟨b,hb,rfl⟩
   ·simp[h0]at hl;omega
   ·refine⟨_,_,hk,UR _ _ _ _ _ _ h0 h1,?_⟩;simp only[AF];exact⟨ow,how,W4,⟨_,rfl⟩,λ_=>⟨by omega,SA _,b,hb,by rw[hrs,SQ];simp⟩⟩
  | _=>exact h.elim
 | sl xs=>
  cases i with
  | int k j=>
   obtain⟨h0,h⟩:=h;obtain⟨y,hy,hyl,hk⟩:=AU h;simp only[AF]at hx hi;subst hi;obtain⟨ad,cap,rfl,_,Ua⟩:=hx;have UM:j.toNat<xs.length:=(Rq.1 hy).1;obtain⟨b,o,size,rfl,hb,hss,Ux⟩:=Ua (by intro e;rw[e]at UM;simp at UM);refine⟨_,_,hk,UR _ _ _ _ _ _ h0 (by omega),?_⟩;have Br:size=ei.size:=by rw[<- hyl];exact (hss y (Ro hy)).symm
   subst Br;simp only[AF];exact⟨b,o+j.toNat*ei.size,rfl,hb,Dr hss Ux _ _ hy⟩
  | _=>exact h.elim
 | _=>exact h.elim
def CM (P:Program)(t:TypeId):Bool:=
 match P.underlying t with
 | some (.slice _)=>true
 | _=>false
theorem PA {t ty:TypeId}{x:AV}{ux:Value}(hr:Rel F os s a w)(ht:CM P t=true)(h:Nw s.st x K)(hx:AF F w os x ux):Yields P F w os (Builtin.len_ #[t] ty #[ux]) K:=by
 unfold CM at ht;split at ht
 case h_2=>cases ht
 rename_i e hu;have UR:∀ad n c,(Builtin.len_ #[t] ty #[.slice ad n c]).run P w=.ok (.int .i64 n) w:=λad n c=>by
  simp[Builtin.len_,SN hu,goInt]
 cases x with
 | own id g n=>
  obtain⟨row,T4,hg,hk⟩:=AU h;obtain⟨ow,how,rfl⟩:=hr.row T4;simp only[AF]at hx;obtain⟨o',UZ,W4,_,hv⟩:=hx;rw[how]at UZ;cases UZ;obtain⟨hl,hv⟩:=hv hg;rcases hv with ⟨_,Vf,ad,rfl⟩|⟨b,_,rfl⟩
  ·exact .int hk (UR _ _ _)
  ·exact .int hk (UR _ _ _)
 | sl xs=>
  simp only[AF]at hx;obtain⟨ad,cap,rfl,_,_⟩:=hx;exact .int h (UR _ _ _)
 | zc=>
  simp only[AF]at hx;obtain⟨ad,rfl⟩:=hx;exact .int h (UR _ _ _)
 | _=>exact h.elim
theorem LU {x:AV}{ux:Value}{i:Nat}(h:Gv x i K)(hx:AF F w os x ux):Yields P F w os (Instr.extract ux i) K:=by
 cases x with
 | BB vs=>
  obtain⟨y,hy,hk⟩:=AU h;simp only[AF]at hx;obtain⟨us,rfl,hl⟩:=hx;obtain⟨u,hu,hru⟩:=Al hl i y hy;exact⟨y,u,hk,by simp[Instr.extract,hu],hru⟩
 | _=>exact h.elim
theorem Nd {t:TypeId}{f:Nat}{x:AV}{ux:Value}(h:E3 P t x f K)(hx:AF F w os x ux):Yields P F w os (Instr.field t ux f) K:=by
 unfold E3 at h;split at h
 ·rename_i cs fs hu;obtain⟨g,hg,h⟩:=AU h;obtain⟨ti,ht,h⟩:=AU h;simp only[AF]at hx;obtain⟨us,rfl,hl⟩:=hx;obtain⟨d,i,hud,hi,e1,e2⟩:=GX ht;have X5:=Jd (w:=w) hud;rw[<- e1]at X5;have hlen:=Ab hl;unfold D9 at h;split at h
  ·rename_i WK;rw[WK]at X5;refine⟨_,.agg (us.toArray.extract g.offset (g.offset+ti.2)),h.2,?_,?_⟩
   ·simp[Instr.field,SN hu,hg,asAgg,part,X5,sizeOf,typeInfo,hi,e2]
   ·simp only[AF];refine⟨(us.drop g.offset).take ti.2,by simp,BP (by simp;omega) λj c u hc VJ=>?_⟩;simp only[SB,SX]at hc VJ;split at hc
    ·rename_i hj;rw[R1 hj]at VJ;obtain⟨u2,WE,hr2⟩:=Al hl _ _ hc;rw[WE]at VJ;cases VJ;exact hr2
    ·cases hc
  ·rename_i WK;simp only[Tv]at WK;rw[WK]at X5;obtain⟨c,hc,hk⟩:=AU h;obtain⟨u,VJ,hru⟩:=Al hl _ _ hc;exact⟨c,u,hk,by simp[Instr.field,SN hu,hg,asAgg,part,X5,VJ],hru⟩
 ·exact h.elim
end Go.Abs
