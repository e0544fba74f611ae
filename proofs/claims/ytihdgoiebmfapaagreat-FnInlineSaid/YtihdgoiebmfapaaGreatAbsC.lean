import Derived.Test.YtihdgoiebmfapaaGreatAbsB
set_option linter.all false
namespace Go.Abs
open Go
def W6:TypeDesc->Bool
 |.struct _|.array _ _=>true
 |_=>false
def Dd (P:Program)(t:TypeId):Option (Bool×Nat):=
 match P.underlying t,P.info? t with
 |some d,some i=>some (W6 d,i.size)
 |_,_=>none
structure eZ where
 e:TypeId
 size:Nat
 bytes:Nat
 zero:List AV
def DB (P:Program)(t:TypeId):Option eZ:=
 match P.underlying t with
 |some (.slice e)=>match P.info? e with
  |some i=>match i.zero with
   |some z=>if z.cells.size=i.size/\0<i.size/\(z.cells.toList.map Nf).all AV.leaf then some ⟨e,i.size,i.bytes,z.cells.toList.map Nf⟩ else none
   |none=>none
  |none=>none
 |_=>none
def IJ (P:Program)(s:TypeId)(f:Nat):Option Nat:=
 match P.underlying s with
 |some (.struct fs)=>match fs[f]? with
  |some g=>match P.info? g.type with
   |some i=>if i.size=0 then none else some g.offset
   |none=>none
  |none=>none
 |_=>none
def GM {α:Type}(o:Option α)(K:α->Prop):Prop:=
 match o with
 |some a=>K a
 |none=>False
theorem Aj {α:Type}{o:Option α}{K:α->Prop}(a:α)(h:o=some a)(hk:K a):GM o K:=by rw[h];exact hk
theorem BN {α:Type}{o:Option α}{K:α->Prop}(h:GM o K):∃a,o=some a/\K a:=by
 cases o with
 |none=>exact h.elim
 |some a=>exact⟨a,rfl,h⟩
def Qs (c a b:AV)(K:AV->Prop):Prop:=
 match c,a,b with
 |.bool t,.bool p,.bool q=>K (.bool (if t then p else q))
 |.bool t,x,y=>(t=true->K x)/\(t=false->K y)
 |_,_,_=>False
def Zj (st:List Row)(x:AV)(K:AV->Prop):Prop:=
 match x with
 |.ptr id g i off=>GM st[id]? λrow=>row.gen=g/\K (.ptr id g i off)
 |.C8 x off=>K (.C8 x off)
 |_=>False
def dD (op:BinOp)(k:IntKind)(a b:Int)(K:AV->Prop):Prop:=
 match op with
 |.add=>K (.int k (k.wrap (a+b)))
 |.sub=>K (.int k (k.wrap (a-b)))
 |.mul=>K (.int k (k.wrap (a*b)))
 |.quo=>b≠0/\K (.int k (k.wrap (a.tdiv b)))
 |.rem=>b≠0/\K (.int k (a.tmod b))
 |.eql=>K (.bool (a==b))
 |.neq=>K (.bool (a != b))
 |.lss=>K (.bool (decide (a<b)))
 |.leq=>K (.bool (decide (a<=b)))
 |.gtr=>K (.bool (decide (a > b)))
 |.geq=>K (.bool (decide (a ≥ b)))
 |.xor=>K (.int k (k.wrap (BitVec.ofInt k.bits a ^^^ BitVec.ofInt k.bits b).toNat))
 |_=>False
def OV (P:Program)(t:TypeId):Bool:=
 match P.underlying t with
 |some .bool=>true
 |_=>false
def XP (P:Program)(t:TypeId)(op:BinOp)(x y:AV)(K:AV->Prop):Prop:=
 match x,y with
 |.int k a,.int k' b=>k=k'/\dD op k a b K
 |.bool a,.bool b=>OV P t=true/\match op with
  |.eql=>K (.bool (a==b))
  |.neq=>K (.bool (a != b))
  |_=>False
 |_,_=>False
def gb (op:UnOp)(x:AV)(K:AV->Prop):Prop:=
 match op,x with
 |.not,.bool b=>K (.bool (!b))
 |.neg,.int k n=>K (.int k (k.wrap (-n)))
 |_,_=>False
def Lu (agg:Bool)(size:Nat)(x:List AV)(off:Nat)(K:AV->Prop):Prop:=
 if agg then off+size<=x.length/\K (.agg ((x.drop off).take size)) else GM x[off]? K
def Qn (P:Program)(st:List Row)(t:TypeId)(v:AV)(K:AV->Prop):Prop:=
 GM (Dd P t) λti=>match v with
  |.ptr id g i off=>GM st[id]? λrow=>row.gen=g/\GM row.xs[i]? λx=>Lu ti.1 ti.2 x off K
  |.C8 x off=>Lu ti.1 ti.2 x off K
  |_=>False
def MQ (P:Program)(s:TypeId)(v:AV)(f:Nat)(st:List Row)(K:AV->Prop):Prop:=
 GM (IJ P s f) λo=>match v with
  |.ptr id g i off=>GM st[id]? λrow=>row.gen=g/\off+o<=row.size/\K (.ptr id g i (off+o))
  |.C8 x off=>K (.C8 x (off+o))
  |_=>False
def Is (P:Program)(st:List Row)(t:TypeId)(x i:AV)(K:AV->Prop):Prop:=
 GM (DB P t) λei=>match x,i with
  |.own id g n,.int _ j=>0<=j/\j<n/\GM st[id]? λrow=>row.gen=g/\row.size=ei.size/\K (.ptr id g (row.xs.length-n+j.toNat) 0)
  |.sl xs,.int _ j=>0<=j/\GM xs[j.toNat]? λy=>y.length=ei.size/\K (.C8 y 0)
  |_,_=>False
def fR (st:List Row)(x:AV)(K:AV->Prop):Prop:=
 match x with
 |.own id g n=>GM st[id]? λrow=>row.gen=g/\K (.int .i64 n)
 |.sl xs=>K (.int .i64 xs.length)
 |.zc=>K (.int .i64 0)
 |_=>False
def OC (P:Program)(t:TypeId)(x:AV)(f:Nat)(K:AV->Prop):Prop:=
 match x,P.underlying t with
 |.agg cs,some (.struct fs)=>GM fs[f]? λg=>GM (Dd P g.type) λti=>Lu ti.1 ti.2 cs g.offset K
 |_,_=>False
def RN (x:AV)(i:Nat)(K:AV->Prop):Prop:=
 match x with
 |.DF vs=>GM vs[i]? K
 |_=>False
theorem CH {F:Nat->Prop}{w:World}{os:List Own}:∀{xs:List AV} {us:List Value},Br F w os xs us->∀(i:Nat) (x:AV),xs[i]?=some x->∃u,us[i]?=some u/\Ab F w os x u
 | [],_,_,i,x,hx=>by simp at hx
 |y::r,us,h,i,x,hx=>by
  simp only[Br]at h;obtain⟨u,xS,rfl,h1,h2⟩:=h;cases i with
  |zero=>simp only[pj,pD]at hx;subst hx;exact⟨u,rfl,h1⟩
  |succ i=>simp only[pz]at hx⊢;exact CH h2 i x hx
theorem BV {F:Nat->Prop}{w:World}{os:List Own}:∀{xs:List AV} {us:List Value},Br F w os xs us->us.length=xs.length
 | [],us,h=>by simp only[Br]at h;simp[h]
 |y::r,us,h=>by
  simp only[Br]at h;obtain⟨u,xS,rfl,h1,h2⟩:=h;simp[BV h2]
theorem DZ {F:Nat->Prop}{w:World}{os:List Own}:∀{xs:List AV} {us:List Value},us.length=xs.length->(∀(i:Nat) x u,xs[i]?=some x->us[i]?=some u->Ab F w os x u)->Br F w os xs us
 | [],us,h,_=>by simp only[Br];exact qN (by simpa using h)
 |y::r,[],h,_=>by simp at h
 |y::r,u::us,h,hi=>by
  simp only[Br];exact⟨u,us,rfl,hi 0 y u rfl rfl,DZ (by simpa using h) λi x u hx hu=>hi (i+1) x u (by simpa using hx) (by simpa using hu)⟩
theorem KZ {F:Nat->Prop}{w:World}:∀{xs:List AV} {b o:Nat},Fi F w xs b o->∀(i:Nat) x,xs[i]?=some x->∃u,w.cell? ⟨b,o+i,none⟩=some u/\x.leaf=true/\Ab F w [] x u
 | [],_,_,_,i,x,hx=>by simp at hx
 |y::r,b,o,h,i,x,hx=>by
  simp only[Fi]at h;cases i with
  |zero=>simp only[pj,pD]at hx;subst hx;exact h.1
  |succ i=>
   simp only[pz]at hx;have:=KZ h.2 i x hx;rwa [show o+1+i=o+(i+1) by omega]at this
theorem Lg {F:Nat->Prop}{w:World}:∀{xs:List AV} {b o:Nat},(∀(i:Nat) x,xs[i]?=some x->∃u,w.cell? ⟨b,o+i,none⟩=some u/\x.leaf=true/\Ab F w [] x u)->Fi F w xs b o
 | [],_,_,_=>by simp[Fi]
 |y::r,b,o,h=>by
  simp only[Fi];refine⟨h 0 y rfl,Lg λi x hx=>?_⟩;have:=h (i+1) x (by simpa using hx);rwa [show o+(i+1)=o+1+i by omega]at this
theorem Iw {F:Nat->Prop}{w:World}{size:Nat}:∀{xs:List (List AV)} {b o:Nat},(∀x∈xs,x.length=size)->H4 F w xs b o->∀(i:Nat) x,xs[i]?=some x->Fi F w x b (o+i*size)
 | [],_,_,_,_,i,x,hx=>by simp at hx
 |y::r,b,o,hs,h,i,x,hx=>by
  simp only[H4]at h;cases i with
  |zero=>simp only[pj,pD]at hx;subst hx;simpa using h.1
  |succ i=>
   simp only[pz]at hx;have:=Iw (λx hx=>hs x (by simp[hx])) h.2 i x hx;rw[hs y (by simp)]at this;rwa [show o+size+i*size=o+(i+1)*size by rw[px];omega]at this
theorem MF {F:Nat->Prop}{w:World}{size:Nat}:∀{xs:List (List AV)} {b o:Nat},(∀x∈xs,x.length=size)->(∀(i:Nat) x,xs[i]?=some x->Fi F w x b (o+i*size))->H4 F w xs b o
 | [],_,_,_,_=>by simp[H4]
 |y::r,b,o,hs,h=>by
  simp only[H4];refine⟨by simpa using h 0 y rfl,MF (λx hx=>hs x (by simp[hx])) λi x hx=>?_⟩;have:=h (i+1) x (by simpa using hx);rw[hs y (by simp)];rwa [show o+(i+1)*size=o+size+i*size by rw[px];omega]at this
theorem Zo {F:Nat->Prop}{w:World}(os:List Own){x:AV}{u:Value}(h:Ab F w [] x u):Ab F w os x u:=
 DW (λ_ h=>h) (λ_ _=>rfl) [] os (by simp) x u h
theorem Pa {F:Nat->Prop}{w:World}{os:List Own}{x:AV}{u:Value}(hl:x.leaf=true)(h:Ab F w os x u):u.oneCell'=true:=by
 cases x<;>simp only[AV.leaf,pF]at hl<;>simp only[Ab]at h
 case int=>subst h;rfl
 case bool=>subst h;rfl
 case str=>subst h;rfl
 case zc=>obtain⟨a,rfl⟩:=h;rfl
 case SK=>subst h;rfl
 case R9=>subst h;rfl
 case sl=>obtain⟨a,cap,rfl,_⟩:=h;rfl
 case own=>obtain⟨o,_,_,⟨a,l,c,rfl⟩,_⟩:=h;rfl
 case ptr=>obtain⟨o,_,_,⟨a,rfl⟩,_⟩:=h;rfl
 case C8=>obtain⟨b,o,rfl,_⟩:=h;rfl
 case fn=>obtain⟨us,rfl,_⟩:=h;rfl
theorem ZI {F:Nat->Prop}{w:World}{os:List Own}{x:AV}{u:Value}(hl:x.kept=true)(h:Ab F w os x u):u.oneCell'=true:=by
 cases x with
 |dv=>simp only[Ab]at h;obtain⟨a,l,c,rfl⟩:=h;rfl
 |_=>exact Pa (by simpa [AV.kept] using hl) h
def Yields (P:Program)(F:Nat->Prop)(w:World)(os:List Own)(yc:Sem Value)(K:AV->Prop):Prop:=
 ∃x u,K x/\yc.run P w=.ok u w/\Ab F w os x u
variable {P : Program} {F : Nat -> Prop} {os : List Own} {s : St} {a : Act} {w : World} {K : AV -> Prop}
theorem Yields.int {k:IntKind}{n:Int}{yc:Sem Value}(h:K (.int k n))(hr:yc.run P w=.ok (.int k n) w):Yields P F w os yc K:=⟨_,_,h,hr,by simp[Ab]⟩
theorem Yields.bool {b:Bool}{yc:Sem Value}(h:K (.bool b))(hr:yc.run P w=.ok (.bool b) w):Yields P F w os yc K:=⟨_,_,h,hr,by simp[Ab]⟩
theorem gI {c x y:AV}{uc ux uy:Value}(h:Qs c x y K)(hc:Ab F w os c uc)(hx:Ab F w os x ux)(hy:Ab F w os y uy):
  Yields P F w os (do pure (if ← asBool uc then ux else uy)) K:=by
 cases c<;>simp only[Qs]at h;rename_i t;simp only[Ab]at hc;subst hc;have gen:(t=true->K x)/\(t=false->K y)->Yields P F w os (do pure (if ← asBool (.bool t) then ux else uy)) K:=λg=>by
  cases t
  .exact⟨y,uy,g.2 rfl,by simp[asBool],hy⟩
  .exact⟨x,ux,g.1 rfl,by simp[asBool],hx⟩
 refine gen ?_;split at h
 .rename_i h1;cases h1;constructor
  .intro e;simpa [e] using h
  .intro e;simpa [e] using h
 .rename_i h1 _;cases h1;exact h
 .exact h.elim
theorem jw {x:AV}{u:Value}(hr:Rel F os s a w)(h:Zj s.st x K)(hx:Ab F w os x u):∃v,K v/\(∃ad,u=.pointer (some ad))/\Ab F w os v u:=by
 cases x<;>simp only[Zj]at h
 case ptr id g i off=>
  obtain⟨row,tw,hg,hk⟩:=BN h;refine⟨_,hk,?_,hx⟩;simp only[Ab]at hx;obtain⟨o,ho,_,_,h2⟩:=hx;have:row=o.row:=by
   have:=hr.st;rw[<- this,pC,ho]at tw;simpa using tw.symm
  subst this;obtain⟨_,_,b,_,rfl⟩:=h2 hg;exact⟨_,rfl⟩
 case C8 y off=>
  refine⟨_,h,?_,hx⟩;simp only[Ab]at hx;obtain⟨b,o,rfl,_⟩:=hx;exact⟨_,rfl⟩
theorem kD {op:BinOp}{t:TypeId}{k:IntKind}{x y:Int}(h:dD op k x y K):Yields P F w os (binOp op t (.int k x) (.int k y)) K:=by
 cases op<;>simp only[dD]at h
 case quo=>exact .int h.2 (by simp[binOp,Op.intDiv,h.1])
 case rem=>exact .int h.2 (by simp[binOp,Op.intDiv,h.1])
 case add=>exact .int h (by simp[binOp,Op.intArith])
 case sub=>exact .int h (by simp[binOp,Op.intArith])
 case mul=>exact .int h (by simp[binOp,Op.intArith])
 case xor=>exact .int h (by simp[binOp,Op.intBits])
 all_goals exact .bool h (by simp[binOp,Op.intCmp])
theorem run_equal_bool {t:TypeId}(hu:P.underlying t=some .bool)(a b:Bool):(Op.equal t (.bool a) (.bool b)).run P w=.ok (a==b) w:=by
 have hd:∀d,(Op.equalIn (d+1) t (.bool a) (.bool b)).run P w=.ok (a==b) w:=λd=>by
  simp only[Op.equalIn,qH,qR hu,qF,qW]
 have:Op.maxDepth=9999+1:=rfl;unfold Op.equal;rw[this];exact hd 9999
theorem iq {op:BinOp}{t:TypeId}{x y:AV}{ux uy:Value}{ox oy:Operand}(h:XP P t op x y K)(hx:Ab F w os x ux)(hy:Ab F w os y uy):
  Yields P F w os (do eqGuard op t ox oy ux uy;binOp op t ux uy) K:=by
 have hlift:∀ux uy,(∀b,ux≠.nilIface/\ux≠.agg b)->Yields P F w os (binOp op t ux uy) K->Yields P F w os (do eqGuard op t ox oy ux uy;binOp op t ux uy) K:=by
  rintro ux uy uu ⟨v,u,h1,h2,h3⟩;refine⟨v,u,h1,?_,h3⟩;have hg:(eqGuard op t ox oy ux uy).run P w=.ok () w:=by
   unfold eqGuard;cases op<;>simp<;>(cases ux<;>first|exact absurd rfl (uu #[]).1|exact absurd rfl (uu _).2|simp)
  simp[hg,h2]
 unfold XP at h;split at h
 .obtain⟨rfl,h⟩:=h;simp only[Ab]at hx hy;subst hx;subst hy;exact hlift _ _ (by simp) (kD h)
 .obtain⟨hb,h⟩:=h;simp only[Ab]at hx hy;subst hx;subst hy;have hu:P.underlying t=some .bool:=by
   unfold OV at hb;split at hb
   .assumption
   .cases hb
  refine hlift _ _ (by simp) ?_;split at h
  .exact .bool h (by simp[binOp,run_equal_bool hu])
  .rename_i p q _;exact .bool h (by simp only[binOp,qH,run_equal_bool hu,qF,qW];cases p<;>cases q<;>rfl)
  .exact h.elim
 .exact h.elim
theorem lM {op:UnOp}{x:AV}{ux:Value}(h:gb op x K)(hx:Ab F w os x ux):Yields P F w os (Op.unary op ux) K:=by
 unfold gb at h;split at h
 .simp only[Ab]at hx;subst hx;exact .bool h (by simp[Op.unary])
 .simp only[Ab]at hx;subst hx;exact .int h (by simp[Op.unary,Op.intArith])
 .exact h.elim
theorem Rel.row {id:Nat}{row:Row}(hr:Rel F os s a w)(h:s.st[id]?=some row):∃o,os[id]?=some o/\o.row=row:=by
 rw[<- hr.st,pC]at h;cases ho:os[id]? with
 |none=>rw[ho]at h;cases h
 |some o=>rw[ho]at h;exact⟨o,rfl,by simpa using h⟩
def NQ (F:Nat->Prop)(w:World)(os:List Own)(b o:Nat)(x:List AV):Prop:=
 ∀(j:Nat) c,x[j]?=some c->∃u,w.cell? ⟨b,o+j,none⟩=some u/\c.kept=true/\Ab F w os c u
theorem Jy {t:TypeId}{ti:Bool×Nat}(h:Dd P t=some ti):∃d i,P.underlying t=some d/\P.info? t=some i/\ti.1=W6 d/\ti.2=i.size:=by
 unfold Dd at h;split at h
 .rename_i d i hd hi;simp only[pD]at h;subst h;exact⟨d,i,hd,hi,rfl,rfl⟩
 .cases h
theorem Lw {t:TypeId}{d:TypeDesc}(hu:P.underlying t=some d):(isAgg t).run P w=.ok (W6 d) w:=by
 unfold isAgg;rw[qH,qR hu w];cases d<;>simp[W6]
theorem Cf (b o i:Nat):(⟨b,o,none⟩:Addr).add i=⟨b,o+i,none⟩:=by
 unfold Addr.add;split<;>simp_all
theorem Vf {t:TypeId}{ti:Bool×Nat}(ht:Dd P t=some ti){b o:Nat}{x:List AV}{off:Nat}(hx:NQ F w os b o x)(h:Lu ti.1 ti.2 x off K):
  Yields P F w os (loadVar t ⟨b,o+off,none⟩) K:=by
 obtain⟨d,i,hu,hi,e1,e2⟩:=Jy ht;unfold Lu at h;have uf:(sizeOf t).run P w=.ok i.size w:=by simp[sizeOf,typeInfo,hi]
 have xX:=Lw (w:=w) hu;rw[<- e1]at xX;split at h
 .rename_i yM;obtain⟨hl,hk⟩:=h;rw[yM]at xX;have :∀j,j<ti.2->∃u,w.cell? ((⟨b,o+off,none⟩:Addr).add j)=some u/\∀c,x[off+j]?=some c->Ab F w os c u:=λj hj=>by
   have uV:off+j<x.length:=by omega
   obtain⟨u,hu1,_,xC⟩:=hx (off+j) x[off+j] (pG uV);refine⟨u,by rw[Cf,<- hu1,qe],λc hc=>?_⟩;rw[pG uV,pD]at hc;exact hc▸xC
  have hch:∃f:Nat->Value,∀j,j<ti.2->w.cell? ((⟨b,o+off,none⟩:Addr).add j)=some (f j)/\∀c,x[off+j]?=some c->Ab F w os c (f j):=
   ⟨λj=>(w.cell? ((⟨b,o+off,none⟩:Addr).add j)).getD undef,λj hj=>by
    obtain⟨u,hu1,xC⟩:=this j hj;simp only[hu1,rL];exact⟨pA,xC⟩⟩
  obtain⟨f,hf⟩:=hch;refine⟨_,.agg ((List.range ti.2).map f).toArray,hk,?_,?_⟩
  .have hlc:=run_loadCells (P:=P) w ⟨b,o+off,none⟩ ti.2 f (λj hj=>(hf j hj).1);simp[loadVar,xX,uf,<- e2,hlc]
  .simp only[Ab];refine⟨_,rfl,DZ (by simp;omega) λj c u hc hu=>?_⟩;simp only[po,qI]at hc;split at hc
   .rename_i hj;simp only[pC,rS hj,qG,pD]at hu;subst hu;exact (hf j hj).2 c hc
   .cases hc
 .rename_i yM;obtain⟨c,hc,hk⟩:=BN h;obtain⟨u,hu1,_,xC⟩:=hx off c hc;simp only[tD]at yM;rw[yM]at xX;exact⟨c,u,hk,by simp[loadVar,xX,hu1],xC⟩
theorem Rel.O0 {id:Nat}{o:Own}(hr:Rel F os s a w)(ho:os[id]?=some o){b:Nat}(hb:o.GC=some b){i:Nat}{x:List AV}(hx:o.row.xs[i]?=some x):
  NQ F w os b (i*o.row.size) x:=by
 have uA:=hr.rows id o ho;obtain⟨_,cur,uP,uf,hlen,_,uL⟩:=uA.some b hb;intro j c hc;obtain⟨u,hu1,xC⟩:=uL i x hx j c hc;refine⟨u,?_,(uA.lens x (oz hx)).2 c (oz hc),xC⟩;rw[rl w b _ cur _ _ uP];exact hu1
theorem L7 {b o:Nat}{x:List AV}(h:Fi F w x b o):NQ F w os b o x:=λj c hc=>by
 obtain⟨u,h1,h2,h3⟩:=KZ h j c hc;exact⟨u,h1,Di h2,Zo os h3⟩
theorem ZZ {t:TypeId}{v:AV}{u:Value}(hr:Rel F os s a w)(h:Qn P s.st t v K)(hv:Ab F w os v u):Yields P F w os (Instr.loadAt t u) K:=by
 obtain⟨ti,ht,h⟩:=BN h;cases v with
 |ptr id g i off=>
  obtain⟨row,tw,hg,h0⟩:=BN h;obtain⟨x,hx,h1⟩:=BN h0;obtain⟨o,ho,rfl⟩:=hr.row tw;simp only[Ab]at hv;obtain⟨o',uz,_,_,hv⟩:=hv;rw[ho]at uz;cases uz;obtain⟨_,_,b,hb,rfl⟩:=hv hg;simpa [Instr.loadAt,Instr.sureAddr,Yields] using Vf ht (hr.O0 ho hb hx) h1
 |C8 x off=>
  simp only[Ab]at hv;obtain⟨b,o,rfl,hb,hc⟩:=hv;simpa [Instr.loadAt,Instr.sureAddr,Yields] using Vf ht (L7 hc) h
 |_=>exact h.elim
theorem XR {t:TypeId}{f:Nat}{v:AV}{u:Value}(hr:Rel F os s a w)(h:MQ P t v f s.st K)(hv:Ab F w os v u):Yields P F w os (Instr.fieldAt t u f) K:=by
 obtain⟨o,ho,h⟩:=BN h;unfold IJ at ho;split at ho<;>try (cases ho;done)
 rename_i fs hu;split at ho<;>try (cases ho;done)
 rename_i g hg;split at ho<;>try (cases ho;done)
 rename_i i hi;split at ho
 .cases ho
 rename_i hz;simp only[pD]at ho;have uQ:∀b off,(Instr.fieldAt t (.pointer (some ⟨b,off,none⟩)) f).run P w=.ok (.pointer (some ⟨b,off+o,none⟩)) w:=λb off=>by
  simp[Instr.fieldAt,qR hu,hg,Instr.sureAddr,fieldPlace,sizeOf,typeInfo,hi,hz,Cf,ho]
 cases v with
 |ptr id gg i off=>
  obtain⟨row,tw,hg,hle,hk⟩:=BN h;obtain⟨ow,how,rfl⟩:=hr.row tw;have hv':=hv;simp only[Ab]at hv;obtain⟨o',uz,xY,_,hv⟩:=hv;rw[how]at uz;cases uz;obtain⟨h1,h2,b,hb,rfl⟩:=hv hg;refine⟨_,_,hk,uQ _ _,?_⟩;simp only[Ab];exact⟨ow,how,xY,⟨_,rfl⟩,λ_=>⟨h1,hle,b,hb,by rw[qe]⟩⟩
 |C8 x off=>
  simp only[Ab]at hv;obtain⟨b,o',rfl,hb,hc⟩:=hv;exact⟨_,_,h,uQ _ _,by simp only[Ab];exact⟨b,o',by rw[qe],hb,hc⟩⟩
 |_=>exact h.elim
theorem HX {t:TypeId}{ei:eZ}(h:DB P t=some ei):∃i z,P.underlying t=some (.slice ei.e)/\P.info? ei.e=some i/\i.zero=some z/\z.cells.size=i.size/\0<i.size/\ei.size=i.size/\ei.bytes=i.bytes/\
  ei.zero=z.cells.toList.map Nf/\∀c∈ei.zero,c.leaf=true:=by
 unfold DB at h;split at h<;>try (cases h;done)
 rename_i e hu;split at h<;>try (cases h;done)
 rename_i i hi;split at h<;>try (cases h;done)
 rename_i z hz;split at h<;>try (cases h;done)
 rename_i hc;simp only[pD]at h;subst h;exact⟨i,z,hu,hi,hz,hc.1,hc.2.1,rfl,rfl,rfl,λc hm=>pH.1 hc.2.2 c hm⟩
theorem YJ {t:TypeId}{x i:AV}{ux ui:Value}(hr:Rel F os s a w)(h:Is P s.st t x i K)(hx:Ab F w os x ux)(hi:Ab F w os i ui):Yields P F w os (Instr.indexAt t ux ui) K:=by
 obtain⟨ei,he,h⟩:=BN h;obtain⟨inf,z,hu,hinf,_,_,vA,uf,_⟩:=HX he;have hs:(sizeOf ei.e).run P w=.ok ei.size w:=by simp[sizeOf,typeInfo,hinf,uf]
 have uQ:∀b o n c k (j:Int),0<=j->j<(n:Nat)->(Instr.indexAt t (.slice (some ⟨b,o,none⟩) n c) (.int k j)).run P w=.ok (.pointer (some ⟨b,o+j.toNat*ei.size,none⟩)) w:=λb o n c k j h0 h1=>by
  have hn:¬ (n<=1/\False):=by simp
  simp[Instr.indexAt,asIntOf,qR hu,h0,h1,hs,Cf]
 cases x with
 |own id g n=>
  cases i with
  |int k j=>
   obtain⟨h0,h1,h⟩:=h;obtain⟨row,tw,hg,hrs,hk⟩:=BN h;obtain⟨ow,how,rfl⟩:=hr.row tw;simp only[Ab]at hx hi;subst hi;obtain⟨o',uz,xY,_,hv⟩:=hx;rw[how]at uz;cases uz;obtain⟨hl,hv⟩:=hv hg;rcases hv with ⟨hb,_⟩|⟨b,hb,rfl⟩
   .have:=(hr.rows id ow how).none hb;simp[this.1]at hl;omega
   .refine⟨_,_,hk,uQ _ _ _ _ _ _ h0 h1,?_⟩;simp only[Ab];exact⟨ow,how,xY,⟨_,rfl⟩,λ_=>⟨by omega,pT _,b,hb,by rw[hrs,px];simp⟩⟩
  |_=>exact h.elim
 |sl xs=>
  cases i with
  |int k j=>
   obtain⟨h0,h⟩:=h;obtain⟨y,hy,hyl,hk⟩:=BN h;simp only[Ab]at hx hi;subst hi;obtain⟨ad,cap,rfl,_,uu⟩:=hx;have uV:j.toNat<xs.length:=(pB.1 hy).1;obtain⟨b,o,size,rfl,hb,hss,vm⟩:=uu (by intro e;rw[e]at uV;simp at uV);refine⟨_,_,hk,uQ _ _ _ _ _ _ h0 (by omega),?_⟩;have E9:size=ei.size:=by rw[<- hyl];exact (hss y (oz hy)).symm
   subst E9;simp only[Ab];exact⟨b,o+j.toNat*ei.size,rfl,hb,Iw hss vm _ _ hy⟩
  |_=>exact h.elim
 |_=>exact h.elim
def DH (P:Program)(t:TypeId):Bool:=
 match P.underlying t with
 |some (.slice _)=>true
 |_=>false
theorem jF {t ty:TypeId}{x:AV}{ux:Value}(hr:Rel F os s a w)(ht:DH P t=true)(h:fR s.st x K)(hx:Ab F w os x ux):Yields P F w os (Builtin.len_ #[t] ty #[ux]) K:=by
 unfold DH at ht;split at ht
 case h_2=>cases ht
 rename_i e hu;have uQ:∀ad n c,(Builtin.len_ #[t] ty #[.slice ad n c]).run P w=.ok (.int .i64 n) w:=λad n c=>by
  simp[Builtin.len_,qR hu,goInt]
 cases x with
 |own id g n=>
  obtain⟨row,tw,hg,hk⟩:=BN h;obtain⟨ow,how,rfl⟩:=hr.row tw;simp only[Ab]at hx;obtain⟨o',uz,xY,_,hv⟩:=hx;rw[how]at uz;cases uz;obtain⟨hl,hv⟩:=hv hg;rcases hv with ⟨_,ad,rfl⟩|⟨b,_,rfl⟩
  .exact .int hk (uQ _ _ _)
  .exact .int hk (uQ _ _ _)
 |sl xs=>
  simp only[Ab]at hx;obtain⟨ad,cap,rfl,_,_⟩:=hx;exact .int h (uQ _ _ _)
 |zc=>
  simp only[Ab]at hx;obtain⟨ad,rfl⟩:=hx;exact .int h (uQ _ _ _)
 |_=>exact h.elim
theorem aI {x:AV}{ux:Value}{i:Nat}(h:RN x i K)(hx:Ab F w os x ux):Yields P F w os (Instr.extract ux i) K:=by
 cases x with
 |DF vs=>
  obtain⟨y,hy,hk⟩:=BN h;simp only[Ab]at hx;obtain⟨us,rfl,hl⟩:=hx;obtain⟨u,hu,hru⟩:=CH hl i y hy;exact⟨y,u,hk,by simp[Instr.extract,hu],hru⟩
 |_=>exact h.elim
theorem fB {t:TypeId}{f:Nat}{x:AV}{ux:Value}(h:OC P t x f K)(hx:Ab F w os x ux):Yields P F w os (Instr.field t ux f) K:=by
 unfold OC at h;split at h
 .rename_i cs fs hu;obtain⟨g,hg,h⟩:=BN h;obtain⟨ti,ht,h⟩:=BN h;simp only[Ab]at hx;obtain⟨us,rfl,hl⟩:=hx;obtain⟨d,i,hud,hi,e1,e2⟩:=Jy ht;have xX:=Lw (w:=w) hud;rw[<- e1]at xX;have hlen:=BV hl;unfold Lu at h;split at h
  .rename_i yM;rw[yM]at xX;refine⟨_,.agg (us.toArray.extract g.offset (g.offset+ti.2)),h.2,?_,?_⟩
   .simp[Instr.field,qR hu,hg,asAgg,part,xX,sizeOf,typeInfo,hi,e2]
   .simp only[Ab];refine⟨(us.drop g.offset).take ti.2,by simp,DZ (by simp;omega) λj c u hc vn=>?_⟩;simp only[po,qI]at hc vn;split at hc
    .rename_i hj;rw[pJ hj]at vn;obtain⟨u2,xC,hr2⟩:=CH hl _ _ hc;rw[xC]at vn;cases vn;exact hr2
    .cases hc
  .rename_i yM;simp only[tD]at yM;rw[yM]at xX;obtain⟨c,hc,hk⟩:=BN h;obtain⟨u,vn,hru⟩:=CH hl _ _ hc;exact⟨c,u,hk,by simp[Instr.field,qR hu,hg,asAgg,part,xX,vn],hru⟩
 .exact h.elim
end Go.Abs
