import Derived.Test.YtccficmcdkcpnaaGreatAbsB
set_option linter.all false
namespace Go.Abs
open Go
def Ue:TypeDesc->Bool
 | .struct _|.array _ _=>true
 | _=>false
def CF (P:Program)(t:TypeId):Option (Bool×Nat):=
 match P.underlying t,P.info? t with
 | some d,some i=>some (Ue d,i.size)
 | _,_=>none
structure aR where
 e:TypeId
 size:Nat
 bytes:Nat
 zero:List AV
def CH (P:Program)(t:TypeId):Option aR:=
 match P.underlying t with
 | some (.slice e)=>match P.info? e with
  | some i=>match i.zero with
   | some z=>if z.cells.size=i.size/\0<i.size/\(z.cells.toList.map KA).all AV.leaf then some ⟨e,i.size,i.bytes,z.cells.toList.map KA⟩ else none
   | none=>none
  | none=>none
 | _=>none
def Ic (P:Program)(s:TypeId)(f:Nat):Option Nat:=
 match P.underlying s with
 | some (.struct fs)=>match fs[f]? with
  | some g=>match P.info? g.type with
   | some i=>if i.size=0 then none else some g.offset
   | none=>none
  | none=>none
 | _=>none
def FD {α:Type}(o:Option α)(K:α->Prop):Prop:=
 match o with
 | some a=>K a
 | none=>False
theorem Ai {α:Type}{o:Option α}{K:α->Prop}(a:α)(h:o=some a)(hk:K a):FD o K:=by rw[h];exact hk
theorem Aw {α:Type}{o:Option α}{K:α->Prop}(h:FD o K):∃a,o=some a/\K a:=by
 cases o with
 | none=>exact h.elim
 | some a=>exact⟨a,rfl,h⟩
def PZ (c a b:AV)(K:AV->Prop):Prop:=
 match c,a,b with
 | .bool t,.bool p,.bool q=>K (.bool (if t then p else q))
 | .bool t,x,y=>(t=true->K x)/\(t=false->K y)
 | _,_,_=>False
def Wv (st:List Row)(x:AV)(K:AV->Prop):Prop:=
 match x with
 | .ptr id g i off=>FD st[id]? λrow=>row.gen=g/\K (.ptr id g i off)
 | .Bz x off=>K (.Bz x off)
 | _=>False
def Y7 (op:BinOp)(k:IntKind)(a b:Int)(K:AV->Prop):Prop:=
 match op with
 | .add=>K (.int k (k.wrap (a+b)))
 | .sub=>K (.int k (k.wrap (a-b)))
 | .mul=>K (.int k (k.wrap (a*b)))
 | .quo=>b≠0/\K (.int k (k.wrap (a.tdiv b)))
 | .rem=>b≠0/\K (.int k (a.tmod b))
 | .eql=>K (.bool (a==b))
 | .neq=>K (.bool (a != b))
 | .lss=>K (.bool (decide (a<b)))
 | .leq=>K (.bool (decide (a<=b)))
 | .gtr=>K (.bool (decide (a > b)))
 | .geq=>K (.bool (decide (a ≥ b)))
 | .xor=>K (.int k (k.wrap (BitVec.ofInt k.bits a ^^^ BitVec.ofInt k.bits b).toNat))
 | _=>False
def Np (P:Program)(t:TypeId):Bool:=
 match P.underlying t with
 | some .bool=>true
 | _=>false
def VF (P:Program)(t:TypeId)(op:BinOp)(x y:AV)(K:AV->Prop):Prop:=
 match x,y with
 | .int k a,.int k' b=>k=k'/\Y7 op k a b K
 | .bool a,.bool b=>Np P t=true/\match op with
  | .eql=>K (.bool (a==b))
  | .neq=>K (.bool (a != b))
  | _=>False
 | _,_=>False
def cr (op:UnOp)(x:AV)(K:AV->Prop):Prop:=
 match op,x with
 | .not,.bool b=>K (.bool (!b))
 | .neg,.int k n=>K (.int k (k.wrap (-n)))
 | _,_=>False
def KT (agg:Bool)(size:Nat)(x:List AV)(off:Nat)(K:AV->Prop):Prop:=
 if agg then off+size<=x.length/\K (.agg ((x.drop off).take size)) else FD x[off]? K
def PD (P:Program)(st:List Row)(t:TypeId)(v:AV)(K:AV->Prop):Prop:=
 FD (CF P t) λti=>match v with
  | .ptr id g i off=>FD st[id]? λrow=>row.gen=g/\FD row.xs[i]? λx=>KT ti.1 ti.2 x off K
  | .Bz x off=>KT ti.1 ti.2 x off K
  | _=>False
def LH (P:Program)(s:TypeId)(v:AV)(f:Nat)(st:List Row)(K:AV->Prop):Prop:=
 FD (Ic P s f) λo=>match v with
  | .ptr id g i off=>FD st[id]? λrow=>row.gen=g/\off+o<=row.size/\K (.ptr id g i (off+o))
  | .Bz x off=>K (.Bz x (off+o))
  | _=>False
def IX (P:Program)(st:List Row)(t:TypeId)(x i:AV)(K:AV->Prop):Prop:=
 FD (CH P t) λei=>match x,i with
  | .own id g n,.int _ j=>0<=j/\j<n/\FD st[id]? λrow=>row.gen=g/\row.size=ei.size/\K (.ptr id g (row.xs.length-n+j.toNat) 0)
  | .sl xs,.int _ j=>0<=j/\FD xs[j.toNat]? λy=>y.length=ei.size/\K (.Bz y 0)
  | _,_=>False
def cA (st:List Row)(x:AV)(K:AV->Prop):Prop:=
 match x with
 | .own id g n=>FD st[id]? λrow=>row.gen=g/\K (.int .i64 n)
 | .sl xs=>K (.int .i64 xs.length)
 | .zc=>K (.int .i64 0)
 | _=>False
def Mf (P:Program)(t:TypeId)(x:AV)(f:Nat)(K:AV->Prop):Prop:=
 match x,P.underlying t with
 | .agg cs,some (.struct fs)=>FD fs[f]? λg=>FD (CF P g.type) λti=>KT ti.1 ti.2 cs g.offset K
 | _,_=>False
def QI (x:AV)(i:Nat)(K:AV->Prop):Prop:=
 match x with
 | .C7 vs=>FD vs[i]? K
 | _=>False
theorem BQ {F:Nat->Prop}{w:World}{os:List Own}:∀{xs:List AV} {us:List Value},A7 F w os xs us->∀(i:Nat) (x:AV),xs[i]?=some x->∃u,us[i]?=some u/\AU F w os x u
 | [],_,_,i,x,hx=>by simp at hx
 | y::r,us,h,i,x,hx=>by
  simp only[A7]at h;obtain⟨u,tO,rfl,h1,h2⟩:=h;cases i with
  | zero=>simp only[mw,mU]at hx;subst hx;exact⟨u,rfl,h1⟩
  | succ i=>simp only[nV]at hx⊢;exact BQ h2 i x hx
theorem A3 {F:Nat->Prop}{w:World}{os:List Own}:∀{xs:List AV} {us:List Value},A7 F w os xs us->us.length=xs.length
 | [],us,h=>by simp only[A7]at h;simp[h]
 | y::r,us,h=>by
  simp only[A7]at h;obtain⟨u,tO,rfl,h1,h2⟩:=h;simp[A3 h2]
theorem Cq {F:Nat->Prop}{w:World}{os:List Own}:∀{xs:List AV} {us:List Value},us.length=xs.length->(∀(i:Nat) x u,xs[i]?=some x->us[i]?=some u->AU F w os x u)->A7 F w os xs us
 | [],us,h,_=>by simp only[A7];exact nI (by simpa using h)
 | y::r,[],h,_=>by simp at h
 | y::r,u::us,h,hi=>by
  simp only[A7];exact⟨u,us,rfl,hi 0 y u rfl rfl,Cq (by simpa using h) λi x u hx hu=>hi (i+1) x u (by simpa using hx) (by simpa using hu)⟩
theorem Mx {F:Nat->Prop}{w:World}:∀{xs:List AV} {b o:Nat},De F w xs b o->∀(i:Nat) x,xs[i]?=some x->∃u,w.cell? ⟨b,o+i,none⟩=some u/\x.leaf=true/\AU F w [] x u
 | [],_,_,_,i,x,hx=>by simp at hx
 | y::r,b,o,h,i,x,hx=>by
  simp only[De]at h;cases i with
  | zero=>simp only[mw,mU]at hx;subst hx;exact h.1
  | succ i=>
   simp only[nV]at hx;have:=Mx h.2 i x hx;rwa [show o+1+i=o+(i+1) by omega]at this
theorem HY {F:Nat->Prop}{w:World}:∀{xs:List AV} {b o:Nat},(∀(i:Nat) x,xs[i]?=some x->∃u,w.cell? ⟨b,o+i,none⟩=some u/\x.leaf=true/\AU F w [] x u)->De F w xs b o
 | [],_,_,_=>by simp[De]
 | y::r,b,o,h=>by
  simp only[De];refine⟨h 0 y rfl,HY λi x hx=>?_⟩;have:=h (i+1) x (by simpa using hx);rwa [show o+(i+1)=o+1+i by omega]at this
theorem KG {F:Nat->Prop}{w:World}{size:Nat}:∀{xs:List (List AV)} {b o:Nat},(∀x∈xs,x.length=size)->Gt F w xs b o->∀(i:Nat) x,xs[i]?=some x->De F w x b (o+i*size)
 | [],_,_,_,_,i,x,hx=>by simp at hx
 | y::r,b,o,hs,h,i,x,hx=>by
  simp only[Gt]at h;cases i with
  | zero=>simp only[mw,mU]at hx;subst hx;simpa using h.1
  | succ i=>
   simp only[nV]at hx;have:=KG (λx hx=>hs x (by simp[hx])) h.2 i x hx;rw[hs y (by simp)]at this;rwa [show o+size+i*size=o+(i+1)*size by rw[nZ];omega]at this
theorem IT {F:Nat->Prop}{w:World}{size:Nat}:∀{xs:List (List AV)} {b o:Nat},(∀x∈xs,x.length=size)->(∀(i:Nat) x,xs[i]?=some x->De F w x b (o+i*size))->Gt F w xs b o
 | [],_,_,_,_=>by simp[Gt]
 | y::r,b,o,hs,h=>by
  simp only[Gt];refine⟨by simpa using h 0 y rfl,IT (λx hx=>hs x (by simp[hx])) λi x hx=>?_⟩;have:=h (i+1) x (by simpa using hx);rw[hs y (by simp)];rwa [show o+(i+1)*size=o+size+i*size by rw[nZ];omega]at this
theorem Wj {F:Nat->Prop}{w:World}(os:List Own){x:AV}{u:Value}(h:AU F w [] x u):AU F w os x u:=
 Cy (λ_ h=>h) (λ_ _=>rfl) [] os (by simp) x u h
theorem OP {F:Nat->Prop}{w:World}{os:List Own}{x:AV}{u:Value}(hl:x.leaf=true)(h:AU F w os x u):u.oneCell'=true:=by
 cases x<;>simp only[AV.leaf,mW]at hl<;>simp only[AU]at h
 case int=>subst h;rfl
 case bool=>subst h;rfl
 case str=>subst h;rfl
 case zc=>obtain⟨a,rfl⟩:=h;rfl
 case O5=>subst h;rfl
 case Po=>subst h;rfl
 case ex=>obtain⟨rfl,h⟩:=h;exact h
 case bd=>obtain⟨us,rfl,_⟩:=h;rfl
 case sl=>obtain⟨a,cap,rfl,_⟩:=h;rfl
 case own=>obtain⟨o,_,_,⟨a,l,c,rfl⟩,_⟩:=h;rfl
 case ptr=>obtain⟨o,_,_,⟨a,rfl⟩,_⟩:=h;rfl
 case Bz=>obtain⟨b,o,rfl,_⟩:=h;rfl
 case fn=>obtain⟨us,rfl,_⟩:=h;rfl
theorem Wc {F:Nat->Prop}{w:World}{os:List Own}{x:AV}{u:Value}(hl:x.kept=true)(h:AU F w os x u):u.oneCell'=true:=by
 cases x with
 | dv=>simp only[AU]at h;obtain⟨a,l,c,rfl⟩:=h;rfl
 | _=>exact OP (by simpa [AV.kept] using hl) h
def Yields (P:Program)(F:Nat->Prop)(w:World)(os:List Own)(NN:Sem Value)(K:AV->Prop):Prop:=
 ∃x u,K x/\NN.run P w=.ok u w/\AU F w os x u
variable {P : Program} {F : Nat -> Prop} {os : List Own} {s : St} {a : Act} {w : World} {K : AV -> Prop}
theorem Yields.int {k:IntKind}{n:Int}{NN:Sem Value}(h:K (.int k n))(hr:NN.run P w=.ok (.int k n) w):Yields P F w os NN K:=⟨_,_,h,hr,by simp[AU]⟩
theorem Yields.bool {b:Bool}{NN:Sem Value}(h:K (.bool b))(hr:NN.run P w=.ok (.bool b) w):Yields P F w os NN K:=⟨_,_,h,hr,by simp[AU]⟩
theorem dW {c x y:AV}{uc ux uy:Value}(h:PZ c x y K)(hc:AU F w os c uc)(hx:AU F w os x ux)(hy:AU F w os y uy):
  Yields P F w os (do pure (if ← asBool uc then ux else uy)) K:=by
 cases c<;>simp only[PZ]at h;rename_i t;simp only[AU]at hc;subst hc;have gen:(t=true->K x)/\(t=false->K y)->Yields P F w os (do pure (if ← asBool (.bool t) then ux else uy)) K:=λg=>by
  cases t
  ·exact⟨y,uy,g.2 rfl,by simp[asBool],hy⟩
  ·exact⟨x,ux,g.1 rfl,by simp[asBool],hx⟩
 refine gen ?_;split at h
 ·rename_i h1;cases h1;constructor
  ·intro e;simpa [e] using h
  ·intro e;simpa [e] using h
 ·rename_i h1 _;cases h1;exact h
 ·exact h.elim
theorem fc {x:AV}{u:Value}(hr:Rel F os s a w)(h:Wv s.st x K)(hx:AU F w os x u):∃v,K v/\(∃ad,u=.pointer (some ad))/\AU F w os v u:=by
 cases x<;>simp only[Wv]at h
 case ptr id g i off=>
  obtain⟨row,rK,hg,hk⟩:=Aw h;refine⟨_,hk,?_,hx⟩;simp only[AU]at hx;obtain⟨o,ho,_,_,h2⟩:=hx;have:row=o.row:=by
   have:=hr.st;rw[<- this,mX,ho]at rK;simpa using rK.symm
  subst this;obtain⟨_,_,b,_,rfl⟩:=h2 hg;exact⟨_,rfl⟩
 case Bz y off=>
  refine⟨_,h,?_,hx⟩;simp only[AU]at hx;obtain⟨b,o,rfl,_⟩:=hx;exact⟨_,rfl⟩
theorem gI {op:BinOp}{t:TypeId}{k:IntKind}{x y:Int}(h:Y7 op k x y K):Yields P F w os (binOp op t (.int k x) (.int k y)) K:=by
 cases op<;>simp only[Y7]at h
 case quo=>exact .int h.2 (by simp[binOp,Op.intDiv,h.1])
 case rem=>exact .int h.2 (by simp[binOp,Op.intDiv,h.1])
 case add=>exact .int h (by simp[binOp,Op.intArith])
 case sub=>exact .int h (by simp[binOp,Op.intArith])
 case mul=>exact .int h (by simp[binOp,Op.intArith])
 case xor=>exact .int h (by simp[binOp,Op.intBits])
 all_goals exact .bool h (by simp[binOp,Op.intCmp])
theorem run_equal_bool {t:TypeId}(hu:P.underlying t=some .bool)(a b:Bool):(Op.equal t (.bool a) (.bool b)).run P w=.ok (a==b) w:=by
 have hd:∀d,(Op.equalIn (d+1) t (.bool a) (.bool b)).run P w=.ok (a==b) w:=λd=>by
  simp only[Op.equalIn,nU,ni hu,nR,nq]
 have:Op.maxDepth=9999+1:=rfl;unfold Op.equal;rw[this];exact hd 9999
theorem fP {op:BinOp}{t:TypeId}{x y:AV}{ux uy:Value}{ox oy:Operand}(h:VF P t op x y K)(hx:AU F w os x ux)(hy:AU F w os y uy):
  Yields P F w os (do eqGuard op t ox oy ux uy;binOp op t ux uy) K:=by
 have yB:∀ux uy,(∀b,ux≠.nilIface/\ux≠.agg b)->Yields P F w os (binOp op t ux uy) K->Yields P F w os (do eqGuard op t ox oy ux uy;binOp op t ux uy) K:=by
  rintro ux uy sB ⟨v,u,h1,h2,h3⟩;refine⟨v,u,h1,?_,h3⟩;have hg:(eqGuard op t ox oy ux uy).run P w=.ok () w:=by
   unfold eqGuard;cases op<;>simp<;>(cases ux<;>first|exact absurd rfl (sB #[]).1|exact absurd rfl (sB _).2|simp)
  simp[hg,h2]
 unfold VF at h;split at h
 ·obtain⟨rfl,h⟩:=h;simp only[AU]at hx hy;subst hx;subst hy;exact yB _ _ (by simp) (gI h)
 ·obtain⟨hb,h⟩:=h;simp only[AU]at hx hy;subst hx;subst hy;have hu:P.underlying t=some .bool:=by
   unfold Np at hb;split at hb
   ·assumption
   ·cases hb
  refine yB _ _ (by simp) ?_;split at h
  ·exact .bool h (by simp[binOp,run_equal_bool hu])
  ·rename_i p q _;exact .bool h (by simp only[binOp,nU,run_equal_bool hu,nR,nq];cases p<;>cases q<;>rfl)
  ·exact h.elim
 ·exact h.elim
theorem jA {op:UnOp}{x:AV}{ux:Value}(h:cr op x K)(hx:AU F w os x ux):Yields P F w os (Op.unary op ux) K:=by
 unfold cr at h;split at h
 ·simp only[AU]at hx;subst hx;exact .bool h (by simp[Op.unary])
 ·simp only[AU]at hx;subst hx;exact .int h (by simp[Op.unary,Op.intArith])
 ·exact h.elim
theorem Rel.row {id:Nat}{row:Row}(hr:Rel F os s a w)(h:s.st[id]?=some row):∃o,os[id]?=some o/\o.row=row:=by
 rw[<- hr.st,mX]at h;cases ho:os[id]? with
 | none=>rw[ho]at h;cases h
 | some o=>rw[ho]at h;exact⟨o,rfl,by simpa using h⟩
def Nn (F:Nat->Prop)(w:World)(os:List Own)(b o:Nat)(x:List AV):Prop:=
 ∀(j:Nat) c,x[j]?=some c->∃u,w.cell? ⟨b,o+j,none⟩=some u/\c.kept=true/\AU F w os c u
theorem IE {t:TypeId}{ti:Bool×Nat}(h:CF P t=some ti):∃d i,P.underlying t=some d/\P.info? t=some i/\ti.1=Ue d/\ti.2=i.size:=by
 unfold CF at h;split at h
 ·rename_i d i hd hi;simp only[mU]at h;subst h;exact⟨d,i,hd,hi,rfl,rfl⟩
 ·cases h
theorem KW {t:TypeId}{d:TypeDesc}(hu:P.underlying t=some d):(isAgg t).run P w=.ok (Ue d) w:=by
 unfold isAgg;rw[nU,ni hu w];cases d<;>simp[Ue]
theorem CI (b o i:Nat):(⟨b,o,none⟩:Addr).add i=⟨b,o+i,none⟩:=by
 unfold Addr.add;split<;>simp_all
theorem Ty {t:TypeId}{ti:Bool×Nat}(ht:CF P t=some ti){b o:Nat}{x:List AV}{off:Nat}(hx:Nn F w os b o x)(h:KT ti.1 ti.2 x off K):
  Yields P F w os (loadVar t ⟨b,o+off,none⟩) K:=by
 obtain⟨d,i,hu,hi,e1,e2⟩:=IE ht;unfold KT at h;have ru:(sizeOf t).run P w=.ok i.size w:=by simp[sizeOf,typeInfo,hi]
 have uR:=KW (w:=w) hu;rw[<- e1]at uR;split at h
 ·rename_i vF;obtain⟨hl,hk⟩:=h;rw[vF]at uR;have :∀j,j<ti.2->∃u,w.cell? ((⟨b,o+off,none⟩:Addr).add j)=some u/\∀c,x[off+j]?=some c->AU F w os c u:=λj hj=>by
   have rh:off+j<x.length:=by omega
   obtain⟨u,hu1,_,uJ⟩:=hx (off+j) x[off+j] (mY rh);refine⟨u,by rw[CI,<- hu1,oW],λc hc=>?_⟩;rw[mY rh,mU]at hc;exact hc▸uJ
  have hch:∃f:Nat->Value,∀j,j<ti.2->w.cell? ((⟨b,o+off,none⟩:Addr).add j)=some (f j)/\∀c,x[off+j]?=some c->AU F w os c (f j):=
   ⟨λj=>(w.cell? ((⟨b,o+off,none⟩:Addr).add j)).getD undef,λj hj=>by
    obtain⟨u,hu1,uJ⟩:=this j hj;simp only[hu1,oh];exact⟨mV,uJ⟩⟩
  obtain⟨f,hf⟩:=hch;refine⟨_,.agg ((List.range ti.2).map f).toArray,hk,?_,?_⟩
  ·have yh:=run_loadCells (P:=P) w ⟨b,o+off,none⟩ ti.2 f (λj hj=>(hf j hj).1);simp[loadVar,uR,ru,<- e2,yh]
  ·simp only[AU];refine⟨_,rfl,Cq (by simp;omega) λj c u hc hu=>?_⟩;simp only[nJ,ng]at hc;split at hc
   ·rename_i hj;simp only[mX,oe hj,nS,mU]at hu;subst hu;exact (hf j hj).2 c hc
   ·cases hc
 ·rename_i vF;obtain⟨c,hc,hk⟩:=Aw h;obtain⟨u,hu1,_,uJ⟩:=hx off c hc;simp only[qW]at vF;rw[vF]at uR;exact⟨c,u,hk,by simp[loadVar,uR,hu1],uJ⟩
theorem Rel.Tb {id:Nat}{o:Own}(hr:Rel F os s a w)(ho:os[id]?=some o){b:Nat}(hb:o.E1=some b){i:Nat}{x:List AV}(hx:o.row.xs[i]?=some x):
  Nn F w os b (i*o.row.size) x:=by
 have rR:=hr.rows id o ho;obtain⟨_,cur,re,ru,hlen,_,rf⟩:=rR.some b hb;intro j c hc;obtain⟨u,hu1,uJ⟩:=rf i x hx j c hc;refine⟨u,?_,(rR.lens x (mS hx)).2 c (mS hc),uJ⟩;rw[og w b _ cur _ _ re];exact hu1
theorem Kq {b o:Nat}{x:List AV}(h:De F w x b o):Nn F w os b o x:=λj c hc=>by
 obtain⟨u,h1,h2,h3⟩:=Mx h j c hc;exact⟨u,h1,Ci h2,Wj os h3⟩
theorem Wp {t:TypeId}{v:AV}{u:Value}(hr:Rel F os s a w)(h:PD P s.st t v K)(hv:AU F w os v u):Yields P F w os (Instr.loadAt t u) K:=by
 obtain⟨ti,ht,h⟩:=Aw h;cases v with
 | ptr id g i off=>
  obtain⟨row,rK,hg,h0⟩:=Aw h;obtain⟨x,hx,h1⟩:=Aw h0;obtain⟨o,ho,rfl⟩:=hr.row rK;simp only[AU]at hv;obtain⟨o',sA,_,_,hv⟩:=hv;rw[ho]at sA;cases sA;obtain⟨_,_,b,hb,rfl⟩:=hv hg;simpa [Instr.loadAt,Instr.sureAddr,Yields] using Ty ht (hr.Tb ho hb hx) h1
 | Bz x off=>
  simp only[AU]at hv;obtain⟨b,o,rfl,hb,hc⟩:=hv;simpa [Instr.loadAt,Instr.sureAddr,Yields] using Ty ht (Kq hc) h
 | _=>exact h.elim
theorem V1 {t:TypeId}{f:Nat}{v:AV}{u:Value}(hr:Rel F os s a w)(h:LH P t v f s.st K)(hv:AU F w os v u):Yields P F w os (Instr.fieldAt t u f) K:=by
 obtain⟨o,ho,h⟩:=Aw h;unfold Ic at ho;split at ho<;>try (cases ho;done)
 rename_i fs hu;split at ho<;>try (cases ho;done)
 rename_i g hg;split at ho<;>try (cases ho;done)
 rename_i i hi;split at ho
 ·cases ho
 rename_i hz;simp only[mU]at ho;have rm:∀b off,(Instr.fieldAt t (.pointer (some ⟨b,off,none⟩)) f).run P w=.ok (.pointer (some ⟨b,off+o,none⟩)) w:=λb off=>by
  simp[Instr.fieldAt,ni hu,hg,Instr.sureAddr,fieldPlace,sizeOf,typeInfo,hi,hz,CI,ho]
 cases v with
 | ptr id gg i off=>
  obtain⟨row,rK,hg,hle,hk⟩:=Aw h;obtain⟨ow,how,rfl⟩:=hr.row rK;have hv':=hv;simp only[AU]at hv;obtain⟨o',sA,uK,_,hv⟩:=hv;rw[how]at sA;cases sA;obtain⟨h1,h2,b,hb,rfl⟩:=hv hg;refine⟨_,_,hk,rm _ _,?_⟩;simp only[AU];exact⟨ow,how,uK,⟨_,rfl⟩,λ_=>⟨h1,hle,b,hb,by rw[oW]⟩⟩
 | Bz x off=>
  simp only[AU]at hv;obtain⟨b,o',rfl,hb,hc⟩:=hv;exact⟨_,_,h,rm _ _,by simp only[AU];exact⟨b,o',by rw[oW],hb,hc⟩⟩
 | _=>exact h.elim
theorem HS {t:TypeId}{ei:aR}(h:CH P t=some ei):∃i z,P.underlying t=some (.slice ei.e)/\P.info? ei.e=some i/\i.zero=some z/\z.cells.size=i.size/\0<i.size/\ei.size=i.size/\ei.bytes=i.bytes/\
  ei.zero=z.cells.toList.map KA/\∀c∈ei.zero,c.leaf=true:=by
 unfold CH at h;split at h<;>try (cases h;done)
 rename_i e hu;split at h<;>try (cases h;done)
 rename_i i hi;split at h<;>try (cases h;done)
 rename_i z hz;split at h<;>try (cases h;done)
 rename_i hc;simp only[mU]at h;subst h;exact⟨i,z,hu,hi,hz,hc.1,hc.2.1,rfl,rfl,rfl,λc hm=>ma.1 hc.2.2 c hm⟩
theorem Un {t:TypeId}{x i:AV}{ux ui:Value}(hr:Rel F os s a w)(h:IX P s.st t x i K)(hx:AU F w os x ux)(hi:AU F w os i ui):Yields P F w os (Instr.indexAt t ux ui) K:=by
 obtain⟨ei,he,h⟩:=Aw h;obtain⟨inf,z,hu,hinf,_,_,sQ,ru,_⟩:=HS he;have hs:(sizeOf ei.e).run P w=.ok ei.size w:=by simp[sizeOf,typeInfo,hinf,ru]
 have rm:∀b o n c k (j:Int),0<=j->j<(n:Nat)->(Instr.indexAt t (.slice (some ⟨b,o,none⟩) n c) (.int k j)).run P w=.ok (.pointer (some ⟨b,o+j.toNat*ei.size,none⟩)) w:=λb o n c k j h0 h1=>by
  have hn:¬ (n<=1/\False):=by simp
  simp[Instr.indexAt,asIntOf,ni hu,h0,h1,hs,CI]
 cases x with
 | own id g n=>
  cases i with
  | int k j=>
   obtain⟨h0,h1,h⟩:=h;obtain⟨row,rK,hg,hrs,hk⟩:=Aw h;obtain⟨ow,how,rfl⟩:=hr.row rK;simp only[AU]at hx hi;subst hi;obtain⟨o',sA,uK,_,hv⟩:=hx;rw[how]at sA;cases sA;obtain⟨hl,hv⟩:=hv hg;rcases hv with ⟨hb,_⟩|⟨b,hb,rfl⟩
   ·have:=(hr.rows id ow how).none hb;simp[this.1]at hl;omega
   ·refine⟨_,_,hk,rm _ _ _ _ _ _ h0 h1,?_⟩;simp only[AU];exact⟨ow,how,uK,⟨_,rfl⟩,λ_=>⟨by omega,mi _,b,hb,by rw[hrs,nZ];simp⟩⟩
  | _=>exact h.elim
 | sl xs=>
  cases i with
  | int k j=>
   obtain⟨h0,h⟩:=h;obtain⟨y,hy,hyl,hk⟩:=Aw h;simp only[AU]at hx hi;subst hi;obtain⟨ad,cap,rfl,_,sB⟩:=hx;have rh:j.toNat<xs.length:=(mT.1 hy).1;obtain⟨b,o,size,rfl,hb,hss,sv⟩:=sB (by intro e;rw[e]at rh;simp at rh);refine⟨_,_,hk,rm _ _ _ _ _ _ h0 (by omega),?_⟩;have GH:size=ei.size:=by rw[<- hyl];exact (hss y (mS hy)).symm
   subst GH;simp only[AU];exact⟨b,o+j.toNat*ei.size,rfl,hb,KG hss sv _ _ hy⟩
  | _=>exact h.elim
 | _=>exact h.elim
def B1 (P:Program)(t:TypeId):Bool:=
 match P.underlying t with
 | some (.slice _)=>true
 | _=>false
theorem gG {t ty:TypeId}{x:AV}{ux:Value}(hr:Rel F os s a w)(ht:B1 P t=true)(h:cA s.st x K)(hx:AU F w os x ux):Yields P F w os (Builtin.len_ #[t] ty #[ux]) K:=by
 unfold B1 at ht;split at ht
 case h_2=>cases ht
 rename_i e hu;have rm:∀ad n c,(Builtin.len_ #[t] ty #[.slice ad n c]).run P w=.ok (.int .i64 n) w:=λad n c=>by
  simp[Builtin.len_,ni hu,goInt]
 cases x with
 | own id g n=>
  obtain⟨row,rK,hg,hk⟩:=Aw h;obtain⟨ow,how,rfl⟩:=hr.row rK;simp only[AU]at hx;obtain⟨o',sA,uK,_,hv⟩:=hx;rw[how]at sA;cases sA;obtain⟨hl,hv⟩:=hv hg;rcases hv with ⟨_,ad,rfl⟩|⟨b,_,rfl⟩
  ·exact .int hk (rm _ _ _)
  ·exact .int hk (rm _ _ _)
 | sl xs=>
  simp only[AU]at hx;obtain⟨ad,cap,rfl,_,_⟩:=hx;exact .int h (rm _ _ _)
 | zc=>
  simp only[AU]at hx;obtain⟨ad,rfl⟩:=hx;exact .int h (rm _ _ _)
 | _=>exact h.elim
theorem Xq {x:AV}{ux:Value}{i:Nat}(h:QI x i K)(hx:AU F w os x ux):Yields P F w os (Instr.extract ux i) K:=by
 cases x with
 | C7 vs=>
  obtain⟨y,hy,hk⟩:=Aw h;simp only[AU]at hx;obtain⟨us,rfl,hl⟩:=hx;obtain⟨u,hu,hru⟩:=BQ hl i y hy;exact⟨y,u,hk,by simp[Instr.extract,hu],hru⟩
 | _=>exact h.elim
theorem aq {t:TypeId}{f:Nat}{x:AV}{ux:Value}(h:Mf P t x f K)(hx:AU F w os x ux):Yields P F w os (Instr.field t ux f) K:=by
 unfold Mf at h;split at h
 ·rename_i cs fs hu;obtain⟨g,hg,h⟩:=Aw h;obtain⟨ti,ht,h⟩:=Aw h;simp only[AU]at hx;obtain⟨us,rfl,hl⟩:=hx;obtain⟨d,i,hud,hi,e1,e2⟩:=IE ht;have uR:=KW (w:=w) hud;rw[<- e1]at uR;have hlen:=A3 hl;unfold KT at h;split at h
  ·rename_i vF;rw[vF]at uR;refine⟨_,.agg (us.toArray.extract g.offset (g.offset+ti.2)),h.2,?_,?_⟩
   ·simp[Instr.field,ni hu,hg,asAgg,part,uR,sizeOf,typeInfo,hi,e2]
   ·simp only[AU];refine⟨(us.drop g.offset).take ti.2,by simp,Cq (by simp;omega) λj c u hc tZ=>?_⟩;simp only[nJ,ng]at hc tZ;split at hc
    ·rename_i hj;rw[me hj]at tZ;obtain⟨u2,uJ,hr2⟩:=BQ hl _ _ hc;rw[uJ]at tZ;cases tZ;exact hr2
    ·cases hc
  ·rename_i vF;simp only[qW]at vF;rw[vF]at uR;obtain⟨c,hc,hk⟩:=Aw h;obtain⟨u,tZ,hru⟩:=BQ hl _ _ hc;exact⟨c,u,hk,by simp[Instr.field,ni hu,hg,asAgg,part,uR,tZ],hru⟩
 ·exact h.elim
end Go.Abs
