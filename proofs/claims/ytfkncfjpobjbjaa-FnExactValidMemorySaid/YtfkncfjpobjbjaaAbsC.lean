import Derived.Test.YtfkncfjpobjbjaaAbsB
set_option linter.all false
namespace Go.Abs
open Go
def Iy:TypeDesc->Bool
 | .struct _|.array _ _=>true
 | _=>false
def CE (P:Program)(t:TypeId):Option (Bool×Nat):=
 match P.underlying t,P.info? t with
 | some d,some i=>some (Iy d,i.size)
 | _,_=>none
structure Oz where
 e:TypeId
 size:Nat
 bytes:Nat
 zero:List AV
def CJ (P:Program)(t:TypeId):Option Oz:=
 match P.underlying t with
 | some (.slice e)=>match P.info? e with
  | some i=>match i.zero with
   | some z=>if z.cells.size=i.size/\0<i.size/\(z.cells.toList.map Eh).all AV.leaf then some ⟨e,i.size,i.bytes,z.cells.toList.map Eh⟩ else none
   | none=>none
  | none=>none
 | _=>none
def Hy (P:Program)(s:TypeId)(f:Nat):Option Nat:=
 match P.underlying s with
 | some (.struct fs)=>match fs[f]? with
  | some g=>match P.info? g.type with
   | some i=>if i.size=0 then none else some g.offset
   | none=>none
  | none=>none
 | _=>none
def Bi {α:Type}(o:Option α)(K:α->Prop):Prop:=
 match o with
 | some a=>K a
 | none=>False
theorem AL {α:Type}{o:Option α}{K:α->Prop}(a:α)(h:o=some a)(hk:K a):Bi o K:=by rw[h];exact hk
theorem AU {α:Type}{o:Option α}{K:α->Prop}(h:Bi o K):∃a,o=some a/\K a:=by
 cases o with
 | none=>exact h.elim
 | some a=>exact⟨a,rfl,h⟩
def GK (c a b:AV)(K:AV->Prop):Prop:=
 match c,a,b with
 | .bool t,.bool p,.bool q=>K (.bool (if t then p else q))
 | .bool t,x,y=>(t=true->K x)/\(t=false->K y)
 | _,_,_=>False
def Kv (st:List Row)(x:AV)(K:AV->Prop):Prop:=
 match x with
 | .ptr id g i off=>Bi st[id]? λrow=>row.gen=g/\K (.ptr id g i off)
 | .A6 x off=>K (.A6 x off)
 | _=>False
def L8 (op:BinOp)(k:IntKind)(a b:Int)(K:AV->Prop):Prop:=
 match op with
 | .add=>K (.int k (k.wrap (a+b)))
 | .sub=>K (.int k (k.wrap (a-b)))
 | .mul=>K (.int k (k.wrap (a*b)))
 | .quo=>b≠0/\K (.int k (k.wrap (a.tdiv b)))
 | .rem=>b≠0/\K (.int k (a.tmod b))
 | .eql=>K (.bool (a==b))
 | .neq=>K (.bool (a != b))
 | .lss=>K (.bool (decide (a<b)))
 | .leq=>K (.bool (decide (a<=b)))
 | .gtr=>K (.bool (decide (a > b)))
 | .geq=>K (.bool (decide (a ≥ b)))
 | .xor=>K (.int k (k.wrap (BitVec.ofInt k.bits a ^^^ BitVec.ofInt k.bits b).toNat))
 | _=>False
def FQ (P:Program)(t:TypeId):Bool:=
 match P.underlying t with
 | some .bool=>true
 | _=>false
def Jw (P:Program)(t:TypeId)(op:BinOp)(x y:AV)(K:AV->Prop):Prop:=
 match x,y with
 | .int k a,.int k' b=>k=k'/\L8 op k a b K
 | .bool a,.bool b=>FQ P t=true/\match op with
  | .eql=>K (.bool (a==b))
  | .neq=>K (.bool (a != b))
  | _=>False
 | _,_=>False
def OU (op:UnOp)(x:AV)(K:AV->Prop):Prop:=
 match op,x with
 | .not,.bool b=>K (.bool (!b))
 | .neg,.int k n=>K (.int k (k.wrap (-n)))
 | _,_=>False
def D4 (agg:Bool)(size:Nat)(x:List AV)(off:Nat)(K:AV->Prop):Prop:=
 if agg then off+size<=x.length/\K (.agg ((x.drop off).take size)) else Bi x[off]? K
def Ga (P:Program)(st:List Row)(t:TypeId)(v:AV)(K:AV->Prop):Prop:=
 Bi (CE P t) λti=>match v with
  | .ptr id g i off=>Bi st[id]? λrow=>row.gen=g/\Bi row.xs[i]? λx=>D4 ti.1 ti.2 x off K
  | .A6 x off=>D4 ti.1 ti.2 x off K
  | _=>False
def EE (P:Program)(s:TypeId)(v:AV)(f:Nat)(st:List Row)(K:AV->Prop):Prop:=
 Bi (Hy P s f) λo=>match v with
  | .ptr id g i off=>Bi st[id]? λrow=>row.gen=g/\off+o<=row.size/\K (.ptr id g i (off+o))
  | .A6 x off=>K (.A6 x (off+o))
  | _=>False
def Dj (P:Program)(st:List Row)(t:TypeId)(x i:AV)(K:AV->Prop):Prop:=
 Bi (CJ P t) λei=>match x,i with
  | .own id g n,.int _ j=>0<=j/\j<n/\Bi st[id]? λrow=>row.gen=g/\row.size=ei.size/\K (.ptr id g (row.xs.length-n+j.toNat) 0)
  | .sl xs,.int _ j=>0<=j/\Bi xs[j.toNat]? λy=>y.length=ei.size/\K (.A6 y 0)
  | _,_=>False
def Nw (st:List Row)(x:AV)(K:AV->Prop):Prop:=
 match x with
 | .own id g n=>Bi st[id]? λrow=>row.gen=g/\K (.int .i64 n)
 | .sl xs=>K (.int .i64 xs.length)
 | .zc=>K (.int .i64 0)
 | _=>False
def E8 (P:Program)(t:TypeId)(x:AV)(f:Nat)(K:AV->Prop):Prop:=
 match x,P.underlying t with
 | .agg cs,some (.struct fs)=>Bi fs[f]? λg=>Bi (CE P g.type) λti=>D4 ti.1 ti.2 cs g.offset K
 | _,_=>False
def Gs (x:AV)(i:Nat)(K:AV->Prop):Prop:=
 match x with
 | .BK vs=>Bi vs[i]? K
 | _=>False
theorem Aj {F:Nat->Prop}{w:World}{os:List Own}:∀{xs:List AV} {us:List Value},Ad F w os xs us->∀(i:Nat) (x:AV),xs[i]?=some x->∃u,us[i]?=some u/\AF F w os x u
 | [],_,_,i,x,hx=>by simp at hx
 | y::r,us,h,i,x,hx=>by
  simp only[Ad]at h;obtain⟨u,VK,rfl,h1,h2⟩:=h;cases i with
  | zero=>simp only[R2,Rn]at hx;subst hx;exact⟨u,rfl,h1⟩
  | succ i=>simp only[SG]at hx⊢;exact Aj h2 i x hx
theorem Aa {F:Nat->Prop}{w:World}{os:List Own}:∀{xs:List AV} {us:List Value},Ad F w os xs us->us.length=xs.length
 | [],us,h=>by simp only[Ad]at h;simp[h]
 | y::r,us,h=>by
  simp only[Ad]at h;obtain⟨u,VK,rfl,h1,h2⟩:=h;simp[Aa h2]
theorem BQ {F:Nat->Prop}{w:World}{os:List Own}:∀{xs:List AV} {us:List Value},us.length=xs.length->(∀(i:Nat) x u,xs[i]?=some x->us[i]?=some u->AF F w os x u)->Ad F w os xs us
 | [],us,h,_=>by simp only[Ad];exact SK (by simpa using h)
 | y::r,[],h,_=>by simp at h
 | y::r,u::us,h,hi=>by
  simp only[Ad];exact⟨u,us,rfl,hi 0 y u rfl rfl,BQ (by simpa using h) λi x u hx hu=>hi (i+1) x u (by simpa using hx) (by simpa using hu)⟩
theorem FD {F:Nat->Prop}{w:World}:∀{xs:List AV} {b o:Nat},BY F w xs b o->∀(i:Nat) x,xs[i]?=some x->∃u,w.cell? ⟨b,o+i,none⟩=some u/\x.leaf=true/\AF F w [] x u
 | [],_,_,_,i,x,hx=>by simp at hx
 | y::r,b,o,h,i,x,hx=>by
  simp only[BY]at h;cases i with
  | zero=>simp only[R2,Rn]at hx;subst hx;exact h.1
  | succ i=>
   simp only[SG]at hx;have:=FD h.2 i x hx;rwa [show o+1+i=o+(i+1) by omega]at this
theorem DH {F:Nat->Prop}{w:World}:∀{xs:List AV} {b o:Nat},(∀(i:Nat) x,xs[i]?=some x->∃u,w.cell? ⟨b,o+i,none⟩=some u/\x.leaf=true/\AF F w [] x u)->BY F w xs b o
 | [],_,_,_=>by simp[BY]
 | y::r,b,o,h=>by
  simp only[BY];refine⟨h 0 y rfl,DH λi x hx=>?_⟩;have:=h (i+1) x (by simpa using hx);rwa [show o+(i+1)=o+1+i by omega]at this
theorem Dp {F:Nat->Prop}{w:World}{size:Nat}:∀{xs:List (List AV)} {b o:Nat},(∀x∈xs,x.length=size)->CR F w xs b o->∀(i:Nat) x,xs[i]?=some x->BY F w x b (o+i*size)
 | [],_,_,_,_,i,x,hx=>by simp at hx
 | y::r,b,o,hs,h,i,x,hx=>by
  simp only[CR]at h;cases i with
  | zero=>simp only[R2,Rn]at hx;subst hx;simpa using h.1
  | succ i=>
   simp only[SG]at hx;have:=Dp (λx hx=>hs x (by simp[hx])) h.2 i x hx;rw[hs y (by simp)]at this;rwa [show o+size+i*size=o+(i+1)*size by rw[SM];omega]at this
theorem Dg {F:Nat->Prop}{w:World}{size:Nat}:∀{xs:List (List AV)} {b o:Nat},(∀x∈xs,x.length=size)->(∀(i:Nat) x,xs[i]?=some x->BY F w x b (o+i*size))->CR F w xs b o
 | [],_,_,_,_=>by simp[CR]
 | y::r,b,o,hs,h=>by
  simp only[CR];refine⟨by simpa using h 0 y rfl,Dg (λx hx=>hs x (by simp[hx])) λi x hx=>?_⟩;have:=h (i+1) x (by simpa using hx);rw[hs y (by simp)];rwa [show o+(i+1)*size=o+size+i*size by rw[SM];omega]at this
theorem ON {F:Nat->Prop}{w:World}(os:List Own){x:AV}{u:Value}(h:AF F w [] x u):AF F w os x u:=
 A5 (λ_ h=>h) (λ_ _=>rfl) [] os (by simp) x u h
theorem Fb {F:Nat->Prop}{w:World}{os:List Own}{x:AV}{u:Value}(hl:x.leaf=true)(h:AF F w os x u):u.oneCell'=true:=by
 cases x<;>simp only[AV.leaf,R1]at hl<;>simp only[AF]at h
 case int=>subst h;rfl
 case bool=>subst h;rfl
 case mp=>subst h;rfl
 case mv=>rcases h with ⟨_,rfl⟩|⟨_,rfl,_⟩<;>rfl
 case str=>subst h;rfl
 case zc=>obtain⟨a,rfl⟩:=h;rfl
 case G6=>subst h;rfl
 case Gz=>subst h;rfl
 case sl=>obtain⟨a,cap,rfl,_⟩:=h;rfl
 case own=>obtain⟨o,_,_,⟨a,l,c,rfl⟩,_⟩:=h;rfl
 case ptr=>obtain⟨o,_,_,⟨a,rfl⟩,_⟩:=h;rfl
 case A6=>obtain⟨b,o,rfl,_⟩:=h;rfl
 case fn=>obtain⟨us,rfl,_⟩:=h;rfl
theorem J5 {F:Nat->Prop}{w:World}{os:List Own}{x:AV}{u:Value}(hl:x.kept=true)(h:AF F w os x u):u.oneCell'=true:=by
 cases x with
 | dv=>simp only[AF]at h;obtain⟨a,l,c,rfl⟩:=h;rfl
 | _=>exact Fb (by simpa [AV.kept] using hl) h
def Yields (P:Program)(F:Nat->Prop)(w:World)(os:List Own)(WS:Sem Value)(K:AV->Prop):Prop:=
 ∃x u,K x/\WS.run P w=.ok u w/\AF F w os x u
variable {P : Program} {F : Nat -> Prop} {os : List Own} {s : St} {a : Act} {w : World} {K : AV -> Prop}
theorem Yields.int {k:IntKind}{n:Int}{WS:Sem Value}(h:K (.int k n))(hr:WS.run P w=.ok (.int k n) w):Yields P F w os WS K:=⟨_,_,h,hr,by simp[AF]⟩
theorem Yields.bool {b:Bool}{WS:Sem Value}(h:K (.bool b))(hr:WS.run P w=.ok (.bool b) w):Yields P F w os WS K:=⟨_,_,h,hr,by simp[AF]⟩
theorem N5 {c x y:AV}{uc ux uy:Value}(h:GK c x y K)(hc:AF F w os c uc)(hx:AF F w os x ux)(hy:AF F w os y uy):
  Yields P F w os (do pure (if ← asBool uc then ux else uy)) K:=by
 cases c<;>simp only[GK]at h;rename_i t;simp only[AF]at hc;subst hc;have gen:(t=true->K x)/\(t=false->K y)->Yields P F w os (do pure (if ← asBool (.bool t) then ux else uy)) K:=λg=>by
  cases t
  ·exact⟨y,uy,g.2 rfl,by simp[asBool],hy⟩
  ·exact⟨x,ux,g.1 rfl,by simp[asBool],hx⟩
 refine gen ?_;split at h
 ·rename_i h1;cases h1;constructor
  ·intro e;simpa [e] using h
  ·intro e;simpa [e] using h
 ·rename_i h1 _;cases h1;exact h
 ·exact h.elim
theorem Ol {x:AV}{u:Value}(hr:Rel F os s a w)(h:Kv s.st x K)(hx:AF F w os x u):∃v,K v/\(∃ad,u=.pointer (some ad))/\AF F w os v u:=by
 cases x<;>simp only[Kv]at h
 case ptr id g i off=>
  obtain⟨row,T0,hg,hk⟩:=AU h;refine⟨_,hk,?_,hx⟩;simp only[AF]at hx;obtain⟨o,ho,_,_,h2⟩:=hx;have:row=o.row:=by
   have:=hr.st;rw[<- this,Ro,ho]at T0;simpa using T0.symm
  subst this;obtain⟨_,_,b,_,rfl⟩:=h2 hg;exact⟨_,rfl⟩
 case A6 y off=>
  refine⟨_,h,?_,hx⟩;simp only[AF]at hx;obtain⟨b,o,rfl,_⟩:=hx;exact⟨_,rfl⟩
theorem PM {op:BinOp}{t:TypeId}{k:IntKind}{x y:Int}(h:L8 op k x y K):Yields P F w os (binOp op t (.int k x) (.int k y)) K:=by
 cases op<;>simp only[L8]at h
 case quo=>exact .int h.2 (by simp[binOp,Op.intDiv,h.1])
 case rem=>exact .int h.2 (by simp[binOp,Op.intDiv,h.1])
 case add=>exact .int h (by simp[binOp,Op.intArith])
 case sub=>exact .int h (by simp[binOp,Op.intArith])
 case mul=>exact .int h (by simp[binOp,Op.intArith])
 case xor=>exact .int h (by simp[binOp,Op.intBits])
 all_goals exact .bool h (by simp[binOp,Op.intCmp])
theorem run_equal_bool {t:TypeId}(hu:P.underlying t=some .bool)(a b:Bool):(Op.equal t (.bool a) (.bool b)).run P w=.ok (a==b) w:=by
 have hd:∀d,(Op.equalIn (d+1) t (.bool a) (.bool b)).run P w=.ok (a==b) w:=λd=>by
  simp only[Op.equalIn,SQ,SJ hu,SD,SU]
 have:Op.maxDepth=9999+1:=rfl;unfold Op.equal;rw[this];exact hd 9999
theorem O6 {op:BinOp}{t:TypeId}{x y:AV}{ux uy:Value}{ox oy:Operand}(h:Jw P t op x y K)(hx:AF F w os x ux)(hy:AF F w os y uy):
  Yields P F w os (do eqGuard op t ox oy ux uy;binOp op t ux uy) K:=by
 have Y4:∀ux uy,(∀b,ux≠.nilIface/\ux≠.agg b)->Yields P F w os (binOp op t ux uy) K->Yields P F w os (do eqGuard op t ox oy ux uy;binOp op t ux uy) K:=by
  rintro ux uy UW ⟨v,u,h1,h2,h3⟩;refine⟨v,u,h1,?_,h3⟩;have hg:(eqGuard op t ox oy ux uy).run P w=.ok () w:=by
   unfold eqGuard;cases op<;>simp<;>(cases ux<;>first|exact absurd rfl (UW #[]).1|exact absurd rfl (UW _).2|simp)
  simp[hg,h2]
 unfold Jw at h;split at h
 ·obtain⟨rfl,h⟩:=h;simp only[AF]at hx hy;subst hx;subst hy;exact Y4 _ _ (by simp) (PM h)
 ·obtain⟨hb,h⟩:=h;simp only[AF]at hx hy;subst hx;subst hy;have hu:P.underlying t=some .bool:=by
   unfold FQ at hb;split at hb
   ·assumption
   ·cases hb
  refine Y4 _ _ (by simp) ?_;split at h
  ·exact .bool h (by simp[binOp,run_equal_bool hu])
  ·rename_i p q _;exact .bool h (by simp only[binOp,SQ,run_equal_bool hu,SD,SU];cases p<;>cases q<;>rfl)
  ·exact h.elim
 ·exact h.elim
theorem P5 {op:UnOp}{x:AV}{ux:Value}(h:OU op x K)(hx:AF F w os x ux):Yields P F w os (Op.unary op ux) K:=by
 unfold OU at h;split at h
 ·simp only[AF]at hx;subst hx;exact .bool h (by simp[Op.unary])
 ·simp only[AF]at hx;subst hx;exact .int h (by simp[Op.unary,Op.intArith])
 ·exact h.elim
theorem Rel.row {id:Nat}{row:Row}(hr:Rel F os s a w)(h:s.st[id]?=some row):∃o,os[id]?=some o/\o.row=row:=by
 rw[<- hr.st,Ro]at h;cases ho:os[id]? with
 | none=>rw[ho]at h;cases h
 | some o=>rw[ho]at h;exact⟨o,rfl,by simpa using h⟩
def FJ (F:Nat->Prop)(w:World)(os:List Own)(b o:Nat)(x:List AV):Prop:=
 ∀(j:Nat) c,x[j]?=some c->∃u,w.cell? ⟨b,o+j,none⟩=some u/\c.kept=true/\AF F w os c u
theorem GL {t:TypeId}{ti:Bool×Nat}(h:CE P t=some ti):∃d i,P.underlying t=some d/\P.info? t=some i/\ti.1=Iy d/\ti.2=i.size:=by
 unfold CE at h;split at h
 ·rename_i d i hd hi;simp only[Rn]at h;subst h;exact⟨d,i,hd,hi,rfl,rfl⟩
 ·cases h
theorem I9 {t:TypeId}{d:TypeDesc}(hu:P.underlying t=some d):(isAgg t).run P w=.ok (Iy d) w:=by
 unfold isAgg;rw[SQ,SJ hu w];cases d<;>simp[Iy]
theorem Bp (b o i:Nat):(⟨b,o,none⟩:Addr).add i=⟨b,o+i,none⟩:=by
 unfold Addr.add;split<;>simp_all
theorem IX {t:TypeId}{ti:Bool×Nat}(ht:CE P t=some ti){b o:Nat}{x:List AV}{off:Nat}(hx:FJ F w os b o x)(h:D4 ti.1 ti.2 x off K):
  Yields P F w os (loadVar t ⟨b,o+off,none⟩) K:=by
 obtain⟨d,i,hu,hi,e1,e2⟩:=GL ht;unfold D4 at h;have UX:(sizeOf t).run P w=.ok i.size w:=by simp[sizeOf,typeInfo,hi]
 have X0:=I9 (w:=w) hu;rw[<- e1]at X0;split at h
 ·rename_i WG;obtain⟨hl,hk⟩:=h;rw[WG]at X0;have :∀j,j<ti.2->∃u,w.cell? ((⟨b,o+off,none⟩:Addr).add j)=some u/\∀c,x[off+j]?=some c->AF F w os c u:=λj hj=>by
   have T9:off+j<x.length:=by omega
   obtain⟨u,hu1,_,WA⟩:=hx (off+j) x[off+j] (Rp T9);refine⟨u,by rw[Bp,<- hu1,S8],λc hc=>?_⟩;rw[Rp T9,Rn]at hc;exact hc▸WA
  have YX:∃f:Nat->Value,∀j,j<ti.2->w.cell? ((⟨b,o+off,none⟩:Addr).add j)=some (f j)/\∀c,x[off+j]?=some c->AF F w os c (f j):=
   ⟨λj=>(w.cell? ((⟨b,o+off,none⟩:Addr).add j)).getD undef,λj hj=>by
    obtain⟨u,hu1,WA⟩:=this j hj;simp only[hu1,Sp];exact⟨Rq,WA⟩⟩
  obtain⟨f,hf⟩:=YX;refine⟨_,.agg ((List.range ti.2).map f).toArray,hk,?_,?_⟩
  ·have cQ:=run_loadCells (P:=P) w ⟨b,o+off,none⟩ ti.2 f (λj hj=>(hf j hj).1);simp[loadVar,X0,UX,<- e2,cQ]
  ·simp only[AF];refine⟨_,rfl,BQ (by simp;omega) λj c u hc hu=>?_⟩;simp only[R6,SS]at hc;split at hc
   ·rename_i hj;simp only[Ro,TN hj,SC,Rn]at hu;subst hu;exact (hf j hj).2 c hc
   ·cases hc
 ·rename_i WG;obtain⟨c,hc,hk⟩:=AU h;obtain⟨u,hu1,_,WA⟩:=hx off c hc;simp only[Tr]at WG;rw[WG]at X0;exact⟨c,u,hk,by simp[loadVar,X0,hu1],WA⟩
theorem Rel.IP {id:Nat}{o:Own}(hr:Rel F os s a w)(ho:os[id]?=some o){b:Nat}(hb:o.BV=some b){i:Nat}{x:List AV}(hx:o.row.xs[i]?=some x):
  FJ F w os b (i*o.row.size) x:=by
 have T2:=hr.rows id o ho;obtain⟨_,cur,T7,UX,hlen,_,T6⟩:=T2.some b hb;intro j c hc;obtain⟨u,hu1,WA⟩:=T6 i x hx j c hc;refine⟨u,?_,(T2.lens x (Rk hx)).2 c (Rk hc),WA⟩;rw[TI w b _ cur _ _ T7];exact hu1
theorem G3 {b o:Nat}{x:List AV}(h:BY F w x b o):FJ F w os b o x:=λj c hc=>by
 obtain⟨u,h1,h2,h3⟩:=FD h j c hc;exact⟨u,h1,Bd h2,ON os h3⟩
theorem Kk {t:TypeId}{v:AV}{u:Value}(hr:Rel F os s a w)(h:Ga P s.st t v K)(hv:AF F w os v u):Yields P F w os (Instr.loadAt t u) K:=by
 obtain⟨ti,ht,h⟩:=AU h;cases v with
 | ptr id g i off=>
  obtain⟨row,T0,hg,h0⟩:=AU h;obtain⟨x,hx,h1⟩:=AU h0;obtain⟨o,ho,rfl⟩:=hr.row T0;simp only[AF]at hv;obtain⟨o',UU,_,_,hv⟩:=hv;rw[ho]at UU;cases UU;obtain⟨_,_,b,hb,rfl⟩:=hv hg;simpa [Instr.loadAt,Instr.sureAddr,Yields] using IX ht (hr.IP ho hb hx) h1
 | A6 x off=>
  simp only[AF]at hv;obtain⟨b,o,rfl,hb,hc⟩:=hv;simpa [Instr.loadAt,Instr.sureAddr,Yields] using IX ht (G3 hc) h
 | _=>exact h.elim
theorem Ju {t:TypeId}{f:Nat}{v:AV}{u:Value}(hr:Rel F os s a w)(h:EE P t v f s.st K)(hv:AF F w os v u):Yields P F w os (Instr.fieldAt t u f) K:=by
 obtain⟨o,ho,h⟩:=AU h;unfold Hy at ho;split at ho<;>try (cases ho;done)
 rename_i fs hu;split at ho<;>try (cases ho;done)
 rename_i g hg;split at ho<;>try (cases ho;done)
 rename_i i hi;split at ho
 ·cases ho
 rename_i hz;simp only[Rn]at ho;have UM:∀b off,(Instr.fieldAt t (.pointer (some ⟨b,off,none⟩)) f).run P w=.ok (.pointer (some ⟨b,off+o,none⟩)) w:=λb off=>by
  simp[Instr.fieldAt,SJ hu,hg,Instr.sureAddr,fieldPlace,sizeOf,typeInfo,hi,hz,Bp,ho]
 cases v with
 | ptr id gg i off=>
  obtain⟨row,T0,hg,hle,hk⟩:=AU h;obtain⟨ow,how,rfl⟩:=hr.row T0;have ZT:=hv;simp only[AF]at hv;obtain⟨o',UU,Wu,_,hv⟩:=hv;rw[how]at UU;cases UU;obtain⟨h1,h2,b,hb,rfl⟩:=hv hg;refine⟨_,_,hk,UM _ _,?_⟩;simp only[AF];exact⟨ow,how,Wu,⟨_,rfl⟩,λ_=>⟨h1,hle,b,hb,by rw[S8]⟩⟩
 | A6 x off=>
  simp only[AF]at hv;obtain⟨b,o',rfl,hb,hc⟩:=hv;exact⟨_,_,h,UM _ _,by simp only[AF];exact⟨b,o',by rw[S8],hb,hc⟩⟩
 | _=>exact h.elim
theorem EJ {t:TypeId}{ei:Oz}(h:CJ P t=some ei):∃i z,P.underlying t=some (.slice ei.e)/\P.info? ei.e=some i/\i.zero=some z/\z.cells.size=i.size/\0<i.size/\ei.size=i.size/\ei.bytes=i.bytes/\
  ei.zero=z.cells.toList.map Eh/\∀c∈ei.zero,c.leaf=true:=by
 unfold CJ at h;split at h<;>try (cases h;done)
 rename_i e hu;split at h<;>try (cases h;done)
 rename_i i hi;split at h<;>try (cases h;done)
 rename_i z hz;split at h<;>try (cases h;done)
 rename_i hc;simp only[Rn]at h;subst h;exact⟨i,z,hu,hi,hz,hc.1,hc.2.1,rfl,rfl,rfl,λc hm=>Ru.1 hc.2.2 c hm⟩
theorem JS {t:TypeId}{x i:AV}{ux ui:Value}(hr:Rel F os s a w)(h:Dj P s.st t x i K)(hx:AF F w os x ux)(hi:AF F w os i ui):Yields P F w os (Instr.indexAt t ux ui) K:=by
 obtain⟨ei,he,h⟩:=AU h;obtain⟨inf,z,hu,hinf,_,_,Ue,UX,_⟩:=EJ he;have hs:(sizeOf ei.e).run P w=.ok ei.size w:=by simp[sizeOf,typeInfo,hinf,UX]
 have UM:∀b o n c k (j:Int),0<=j->j<(n:Nat)->(Instr.indexAt t (.slice (some ⟨b,o,none⟩) n c) (.int k j)).run P w=.ok (.pointer (some ⟨b,o+j.toNat*ei.size,none⟩)) w:=λb o n c k j h0 h1=>by
  have hn:¬ (n<=1/\False):=by simp
  simp[Instr.indexAt,asIntOf,SJ hu,h0,h1,hs,Bp]
 cases x with
 | own id g n=>
  cases i with
  | int k j=>
   obtain⟨h0,h1,h⟩:=h;obtain⟨row,T0,hg,hrs,hk⟩:=AU h;obtain⟨ow,how,rfl⟩:=hr.row T0;simp only[AF]at hx hi;subst hi;obtain⟨o',UU,Wu,_,hv⟩:=hx;rw[how]at UU;cases UU;obtain⟨hl,hv⟩:=hv hg;rcases hv with ⟨hb,h0,_⟩|⟨b,hb,rfl⟩
   ·simp[h0]at hl;omega
   ·refine⟨_,_,hk,UM _ _ _ _ _ _ h0 h1,?_⟩;simp only[AF];exact⟨ow,how,Wu,⟨_,rfl⟩,λ_=>⟨by omega,R5 _,b,hb,by rw[hrs,SM];simp⟩⟩
  | _=>exact h.elim
 | sl xs=>
  cases i with
  | int k j=>
   obtain⟨h0,h⟩:=h;obtain⟨y,hy,hyl,hk⟩:=AU h;simp only[AF]at hx hi;subst hi;obtain⟨ad,cap,rfl,_,UW⟩:=hx;have T9:j.toNat<xs.length:=(Rm.1 hy).1;obtain⟨b,o,size,rfl,hb,hss,Us⟩:=UW (by intro e;rw[e]at T9;simp at T9);refine⟨_,_,hk,UM _ _ _ _ _ _ h0 (by omega),?_⟩;have Bq:size=ei.size:=by rw[<- hyl];exact (hss y (Rk hy)).symm
   subst Bq;simp only[AF];exact⟨b,o+j.toNat*ei.size,rfl,hb,Dp hss Us _ _ hy⟩
  | _=>exact h.elim
 | _=>exact h.elim
def CM (P:Program)(t:TypeId):Bool:=
 match P.underlying t with
 | some (.slice _)=>true
 | _=>false
theorem OZ {t ty:TypeId}{x:AV}{ux:Value}(hr:Rel F os s a w)(ht:CM P t=true)(h:Nw s.st x K)(hx:AF F w os x ux):Yields P F w os (Builtin.len_ #[t] ty #[ux]) K:=by
 unfold CM at ht;split at ht
 case h_2=>cases ht
 rename_i e hu;have UM:∀ad n c,(Builtin.len_ #[t] ty #[.slice ad n c]).run P w=.ok (.int .i64 n) w:=λad n c=>by
  simp[Builtin.len_,SJ hu,goInt]
 cases x with
 | own id g n=>
  obtain⟨row,T0,hg,hk⟩:=AU h;obtain⟨ow,how,rfl⟩:=hr.row T0;simp only[AF]at hx;obtain⟨o',UU,Wu,_,hv⟩:=hx;rw[how]at UU;cases UU;obtain⟨hl,hv⟩:=hv hg;rcases hv with ⟨_,VY,ad,rfl⟩|⟨b,_,rfl⟩
  ·exact .int hk (UM _ _ _)
  ·exact .int hk (UM _ _ _)
 | sl xs=>
  simp only[AF]at hx;obtain⟨ad,cap,rfl,_,_⟩:=hx;exact .int h (UM _ _ _)
 | zc=>
  simp only[AF]at hx;obtain⟨ad,rfl⟩:=hx;exact .int h (UM _ _ _)
 | _=>exact h.elim
theorem Kz {x:AV}{ux:Value}{i:Nat}(h:Gs x i K)(hx:AF F w os x ux):Yields P F w os (Instr.extract ux i) K:=by
 cases x with
 | BK vs=>
  obtain⟨y,hy,hk⟩:=AU h;simp only[AF]at hx;obtain⟨us,rfl,hl⟩:=hx;obtain⟨u,hu,hru⟩:=Aj hl i y hy;exact⟨y,u,hk,by simp[Instr.extract,hu],hru⟩
 | _=>exact h.elim
theorem NT {t:TypeId}{f:Nat}{x:AV}{ux:Value}(h:E8 P t x f K)(hx:AF F w os x ux):Yields P F w os (Instr.field t ux f) K:=by
 unfold E8 at h;split at h
 ·rename_i cs fs hu;obtain⟨g,hg,h⟩:=AU h;obtain⟨ti,ht,h⟩:=AU h;simp only[AF]at hx;obtain⟨us,rfl,hl⟩:=hx;obtain⟨d,i,hud,hi,e1,e2⟩:=GL ht;have X0:=I9 (w:=w) hud;rw[<- e1]at X0;have hlen:=Aa hl;unfold D4 at h;split at h
  ·rename_i WG;rw[WG]at X0;refine⟨_,.agg (us.toArray.extract g.offset (g.offset+ti.2)),h.2,?_,?_⟩
   ·simp[Instr.field,SJ hu,hg,asAgg,part,X0,sizeOf,typeInfo,hi,e2]
   ·simp only[AF];refine⟨(us.drop g.offset).take ti.2,by simp,BQ (by simp;omega) λj c u hc VC=>?_⟩;simp only[R6,SS]at hc VC;split at hc
    ·rename_i hj;rw[Ry hj]at VC;obtain⟨u2,WA,hr2⟩:=Aj hl _ _ hc;rw[WA]at VC;cases VC;exact hr2
    ·cases hc
  ·rename_i WG;simp only[Tr]at WG;rw[WG]at X0;obtain⟨c,hc,hk⟩:=AU h;obtain⟨u,VC,hru⟩:=Aj hl _ _ hc;exact⟨c,u,hk,by simp[Instr.field,SJ hu,hg,asAgg,part,X0,VC],hru⟩
 ·exact h.elim
end Go.Abs
