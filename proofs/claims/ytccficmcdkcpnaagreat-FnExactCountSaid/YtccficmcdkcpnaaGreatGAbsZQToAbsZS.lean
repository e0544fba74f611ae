import Derived.Test.YtccficmcdkcpnaaGreatGAbsXToAbsZN
import Derived.Test.YtccficmcdkcpnaaGreatAbsQ
set_option linter.all false
namespace Go.Abs
open Go
def Grow (w w':World):Prop:=w.heap.size<=w'.heap.size/\∀b,b<w.heap.size->w'.heap[b]?=w.heap[b]?
theorem Grow.refl (w:World):Grow w w:=⟨uq _,λ_ _=>rfl⟩
theorem Grow.trans {w1 w2 w3:World}(h:Grow w1 w2)(g:Grow w2 w3):Grow w1 w3:=⟨wx h.1 g.1,λb hb=>(g.2 b (vi hb h.1)).trans (h.2 b hb)⟩
def Ce {α:Type}(m:Sem α):Prop:=∀P w v w',m.run P w=.ok v w'->Grow w w'
theorem Ce.pure {α:Type}(a:α):Ce (pure a:Sem α):=λ_ w _ _ h=>by cases h;exact Grow.refl w
theorem Ce.halt {α:Type}(h:Halt):Ce (.halt h:Sem α):=λ_ _ _ _ h=>by cases h
theorem Ce.bind {α β:Type}{m:Sem α}{f:α->Sem β}(hm:Ce m)(hf :∀a,Ce (f a)):Ce (m >>= f):=λP w v w' h=>by
 rw[vU]at h;cases hr:m.run P w with
 | ok a w2=>rw[hr]at h;exact (hm P w a w2 hr).trans (hf a P w2 v w' h)
 | halt x w2=>rw[hr]at h;cases h
theorem Ce.load (a:Addr):Ce (Go.load a):=λP w v w' h=>by
 unfold Go.load at h;simp only[Sem.run]at h;split at h
 ·cases h;exact Grow.refl w
 ·split at h
  ·cases h;exact Grow.refl w
  ·cases h
theorem Ce.program:Ce Go.program:=λP w v w' h=>by cases h;exact Grow.refl w
theorem Ce.shape (r:Nat):Ce (Go.shape r):=λP w v w' h=>by cases h;exact Grow.refl w
theorem Ce.newObj (o:Obj):Ce (Go.newObj o):=λP w v w' h=>by
 cases h;exact⟨by simp,λb hb=>by simp[Array.getElem?_push,Nat.ne_of_lt hb]⟩
theorem Ce.choose (q:Question):Ce (Go.choose q):=λP w v w' h=>by
 unfold Go.choose at h;simp only[Sem.run]at h;split at h<;>cases h<;>exact Grow.refl w
theorem Ce.typeInfo (t:TypeId):Ce (Go.typeInfo t):=.bind .program λp=>by split;exact .pure _;exact .halt _
theorem Ce.underlying (t:TypeId):Ce (Go.underlying t):=.bind .program λp=>by split;exact .pure _;exact .halt _
theorem Ce.sizeOf (t:TypeId):Ce (Go.sizeOf t):=.bind (.typeInfo t) λ_=>.pure _
theorem Ce.zeroValue (t:TypeId):Ce (Go.zeroValue t):=.bind (.typeInfo t) λ_=>by split;exact .pure _;exact .halt _
theorem Ce.isAgg (t:TypeId):Ce (Go.isAgg t):=.bind (.underlying t) λ_=>by split<;>exact .pure _
theorem Ce.loadCellsFrom (a:Addr):∀(n i:Nat) (acc:Array Value),Ce (Go.loadCellsFrom a i n acc)
 | 0,_,_=>.pure _
 | n+1,i,acc=>.bind (.load _) λv=>Ce.loadCellsFrom a n (i+1) (acc.push v)
theorem Ce.loadVar (t:TypeId)(a:Addr):Ce (Go.loadVar t a):=.bind (.isAgg t) λb=>by
 split
 ·exact .bind (.sizeOf t) λn=>.bind (.loadCellsFrom a n 0 _) λ_=>.pure _
 ·exact .load a
theorem Ce.sureAddr (v:Value):Ce (Instr.sureAddr v):=by unfold Instr.sureAddr;split;exact .pure _;exact .halt _
theorem Ce.loadAt (t:TypeId)(v:Value):Ce (Instr.loadAt t v):=.bind (.sureAddr v) λa=>.loadVar t a
theorem Ce.getObj (r:Nat):Ce (Go.getObj r):=λP w v w' h=>by
 unfold Go.getObj at h;simp only[Sem.run]at h;split at h
 ·cases h
 ·cases h;exact Grow.refl w
 ·cases h
theorem Ce.viewAt (r:Nat):Ce (Go.viewAt r):=by
 unfold Go.viewAt;refine .bind (.shape r) λs=>?_
 repeat' first|exact .pure _|exact .halt _|exact .bind (.getObj r) (λo=>by split<;>exact .pure _)|split
theorem Ce.noView (a:Addr):Ce (Go.noView a):=by
 unfold Go.noView;refine .bind (.viewAt _) λs=>?_;split
 ·exact .halt _
 ·exact .pure _
theorem Ce.byteOf (a:Addr):Ce (Go.byteOf a):=by
 unfold Go.byteOf;dsimp only;split
 ·exact .pure _
 ·refine .bind .program λp=>.bind (.noView a) λ_=>.bind (.shape _) λs=>?_
  repeat' first|exact .pure _|exact .halt _|split
theorem Ce.fieldPlace (a:Addr)(f:Field):Ce (fieldPlace a f):=.bind (.sizeOf _) λn=>by
 split
 ·exact .bind (.byteOf _) λ_=>.bind (.byteOf _) λ_=>.pure _
 ·exact .pure _
theorem Ce.fieldAt (s:TypeId)(v:Value)(f:Nat):Ce (Instr.fieldAt s v f):=by
 unfold Instr.fieldAt;refine .bind (.underlying s) λd=>?_;split
 ·split
  ·exact .bind (.sureAddr v) λa=>.bind (.fieldPlace a _) λ_=>.pure _
  ·exact .halt _
 ·exact .halt _
theorem Ce.asIntOf (v:Value):Ce (Go.asIntOf v):=by
 unfold Go.asIntOf;split
 ·exact .pure _
 ·exact .halt _
 ·exact .halt _
theorem Ce.Td {α:Type}(x y:Int)(s:Bool)(c:BoundsCode):Ce (runtimePanic (.bounds x y s c):Sem α):=.bind .program λ_=>.halt _
theorem Ce.boundsPanic {α:Type}(k:IntKind)(x y:Int)(c:BoundsCode):Ce (Go.boundsPanic k x y c:Sem α):=by
 unfold Go.boundsPanic;dsimp only;split
 ·exact Ce.bind (Ce.bind (.choose _) λ_=>.pure _) λ_=>.Td _ _ _ _
 ·exact Ce.bind (.pure _) λ_=>.Td _ _ _ _
theorem Ce.indexAt (t:TypeId)(x i:Value):Ce (Instr.indexAt t x i):=by
 unfold Instr.indexAt;dsimp only;refine .bind (.asIntOf i) λki=>.bind (.underlying t) λd=>?_
 repeat' first|exact .pure _|exact .halt _|exact .boundsPanic _ _ _ _|exact .sureAddr _|exact .underlying _|exact .sizeOf _|(refine .bind ?_ λ_=>?_)|split
theorem Ce.newVar (t:TypeId)(v:Value):Ce (Go.newVar t v):=.bind (.newObj _) λ_=>.pure _
theorem Ce.alloc (t:TypeId):Ce (Instr.alloc t true (.tuple #[])):=.bind (.zeroValue t) λz=>.bind (.newVar t z) λ_=>.pure _
theorem Ce.box (t:TypeId)(v:Value):Ce (Instr.box t v):=.bind (.newVar t v) λ_=>.pure _
theorem Ce.buildSlice (t:TypeId)(n:Nat)(ps:Array (Nat×Value)):Ce (Instr.buildSlice t n ps):=by
 unfold Instr.buildSlice;dsimp only
 repeat' first|exact .pure _|exact .halt _|exact .underlying _|exact .sizeOf _|exact .zeroValue _|exact .newObj _|(refine .bind ?_ λ_=>?_)|split
def Still (P:Program){α:Type}(m:Sem α):Prop:=∀w v w1,m.run P w=.ok v w1->w1=w/\∀w',m.run P w'=.ok v w'
section
variable {P : Program}
theorem Still.pure {α:Type}(a:α):Still P (pure a:Sem α):=λw _ _ h=>by cases h;exact⟨rfl,λ_=>rfl⟩
theorem Still.halt {α:Type}(h:Halt):Still P (.halt h:Sem α):=λ_ _ _ h=>by cases h
theorem Still.never {α:Type}{m:Sem α}(h :∀w v w1,m.run P w≠.ok v w1):Still P m:=λw v w1 e=>absurd e (h w v w1)
theorem Still.bind {α β:Type}{m:Sem α}{f:α->Sem β}(hm:Still P m)(hf :∀a,Still P (f a)):Still P (m >>= f):=λw v w1 h=>by
 rw[vU]at h;cases hr:m.run P w with
 | ok a w2=>
  rw[hr]at h;obtain⟨rfl,h1⟩:=hm w a w2 hr;obtain⟨rfl,h2⟩:=hf a w2 v w1 h;exact⟨rfl,λw'=>by rw[vU,h1 w'];exact h2 w'⟩
 | halt x w2=>rw[hr]at h;cases h
theorem Still.program:Still P Go.program:=λw v w1 h=>by cases h;exact⟨rfl,λ_=>rfl⟩
theorem Still.typeInfo (t:TypeId):Still P (Go.typeInfo t):=.bind .program λp=>by split;exact .pure _;exact .halt _
theorem Still.underlying (t:TypeId):Still P (Go.underlying t):=.bind .program λp=>by split;exact .pure _;exact .halt _
theorem Still.sizeOf (t:TypeId):Still P (Go.sizeOf t):=.bind (.typeInfo t) λ_=>.pure _
theorem Still.sureAddr (v:Value):Still P (Instr.sureAddr v):=by unfold Instr.sureAddr;split;exact .pure _;exact .halt _
theorem Still.asIntOf (v:Value):Still P (Go.asIntOf v):=by
 unfold Go.asIntOf;split
 ·exact .pure _
 ·exact .halt _
 ·exact .halt _
theorem Still.boundsPanic {α:Type}(k:IntKind)(x y:Int)(c:BoundsCode):Still P (Go.boundsPanic k x y c:Sem α):=.never λw v w1 h=>by
 unfold Go.boundsPanic at h;dsimp only at h;have hn:∀(s:Bool) w2,(runtimePanic (.bounds (IntKind.i64.wrap x) y s c):Sem α).run P w2≠.ok v w1:=λs w2 h=>by
  unfold runtimePanic at h;rw[vU]at h;cases h
 split at h
 ·rw[vU]at h;generalize ((λx=>x==1) <$> Go.choose (Question.extern "runtime.boundsError.signed" 2)).run P w=r at h;cases r with
  | ok a w2=>exact hn _ _ h
  | halt=>cases h
 ·exact hn _ _ h
theorem Still.indexAt (t:TypeId)(x i:Value):Still P (Instr.indexAt t x i):=by
 unfold Instr.indexAt;dsimp only;refine .bind (.asIntOf i) λki=>.bind (.underlying t) λd=>?_
 repeat' first|exact .pure _|exact .halt _|exact .boundsPanic _ _ _ _|exact .sureAddr _|exact .underlying _|exact .sizeOf _|(refine .bind ?_ λ_=>?_)|split
theorem Still.len {t ty:TypeId}{x:Value}(ht:Cn P t=true):Still P (Builtin.len_ #[t] ty #[x]):=λw v w1 h=>by
 unfold Cn at ht;split at ht
 ·rename_i e he;have hr:∀w',(Builtin.len_ #[t] ty #[x]).run P w'=(match x with|.slice _ n _=>.ok (goInt n) w'|_=>.halt (.stuck "len: string, array, pointer to array, slice, map or channel expected") w'):=λw'=>by
   unfold Builtin.len_;simp only[xp,vC,vU,vn he,vS];cases x<;>rfl
  rw[hr]at h;cases x<;>simp at h;obtain⟨rfl,rfl⟩:=h;exact⟨rfl,λw'=>hr w'⟩
 ·cases ht
end
def V1 (o:Oper):Bool:=match o.op with
 | .move _|.assign _|.load ..|.fieldAddr ..|.indexAddr ..|.alloc _|.box ..|.buildSlice ..=>true
 | .call ⟨.builtin .len,_,_⟩=>true
 | _=>false
theorem Nd {P:Program}{m:Sem Value}{w w':World}{n:Next}(hm:Ce m)(h:(do pure (Next.value (← m)):Sem Next).run P w=.ok n w'):(∃u,n=.value u)/\Grow w w':=by
 rw[vU]at h;cases hr:m.run P w with
 | ok a w2=>rw[hr]at h;cases h;exact⟨⟨_,rfl⟩,hm P w _ _ hr⟩
 | halt x w2=>rw[hr]at h;cases h
theorem Ce.len (ts:Array TypeId)(ty:TypeId)(xs:Array Value):Ce (Builtin.len_ ts ty xs):=by
 unfold Builtin.len_
 repeat' first|exact .pure _|exact .halt _|exact .underlying _|exact .getObj _|(refine .bind ?_ λ_=>?_)|split
theorem gT {P:Program}{o:Oper}{ρ:Operand->Value}{w w':World}{n:Next}(h:V1 o=true)(hr:(execOp ρ o).run P w=.ok n w'):(∃u,n=.value u)/\Grow w w':=by
 unfold V1 at h;unfold execOp at hr;split at h<;>rename_i ho<;>try (cases h;done)
 all_goals rw[ho]at hr
 ·cases hr;exact⟨⟨_,rfl⟩,.refl _⟩
 ·cases hr;exact⟨⟨_,rfl⟩,.refl _⟩
 ·exact Nd (.loadAt _ _) hr
 ·exact Nd (.fieldAt _ _ _) hr
 ·exact Nd (.indexAt _ _ _) hr
 ·exact Nd (.alloc _) hr
 ·exact Nd (.box _ _) hr
 ·exact Nd (.buildSlice _ _ _) hr
 ·exact Nd (.len _ _ _) hr
section
variable {P : Program} {ops : Array Oper} {Q : Exit -> Act -> World -> Prop} {md : Region.Mode} {S : World -> Prop}
theorem jD {i:Nat}{o:Oper}{K:Act->World->Prop}{a:Act}{w0 w:World}(hi:ops[i]?=some o)(ht:V1 o=true)(hG:Grow w0 w)(h:wpOp P ops Q i K a w):wpOp P ops Q i (λa' w'=>Grow w0 w'/\K a' w') a w:=by
 unfold wpOp at *;simp only[hi] at *;split
 ·rename_i hw;rw[uX hw]at h;refine h.imp (λh=>?_) id;unfold Oper.wp at *;cases hr:(execOp a.eval o).run P w with
  | ok n w'=>
   obtain⟨⟨u,rfl⟩,g⟩:=gT ht hr;rw[hr]at h;simp only[Oper.upon]at h⊢;exact⟨hG.trans g,h⟩
  | halt x w'=>
   rw[hr]at h;cases x<;>simp only[Oper.upon]at h⊢;exact h
 ·rename_i hw;rw[uY hw]at h;exact⟨hG,h⟩
theorem eK {i:Nat}{oi:Oper}{v:Value}{w0:World}{wt:Nat->Bool}(hi:ops[i]?=some oi)(hsel :∀(j:Nat) (o:Oper) cs b,ops[j]?=some o->o.op≠.select cs b)
  (hQ :∀c a w,Q (.panic c) (a.put oi.dst v) w->Q (.panic c) a w)
  (hcl :∀j oj,ops[j]?=some oj->wt j=true->∃e∈oj.after,Region.binds md e=true/\(e.on=i∨wt e.on=true)) :
  ∀(fuel:Nat) (zU:Array Bool) (a:Act) (w:World),
   (∀j oj,ops[j]?=some oj->j≠i->zU.getD j true=false->(∀e∈oj.after,Region.binds md e=true->e.on≠i)->oi.apart ops oj=true)->
   (∀j,wt j=true->zU.getD j true=false)->
   (∀j oj,ops[j]?=some oj->j≠i->zU.getD j true=false->wt j=false->V1 oj=true)->
   i∈Region.ready md ops zU->YieldsIf P ops (Grow w0) oi v a->Grow w0 w->S w->
   wpAnyH P md ops Q S fuel (zU.setIfInBounds i true) (a.put oi.dst v) w->wpAnyH P md ops Q S (fuel+1) zU a w:=by
 intro fuel
 induction fuel with
 | zero=>
  intro zU a w _ _ _ hr hy hG hS H;refine⟨λh=>(by rw[h]at hr;cases hr),λj hj=>?_⟩;by_cases hji:j=i
  ·subst hji;exact hy.wpOp hi hG ⟨hS,H⟩
  ·have:=yQ hj hji;rw[H.1]at this;cases this
 | succ fuel ih=>
  intro zU a w hfree hwt htm hr hy hG hS H;refine⟨λh=>(by rw[h]at hr;cases hr),λj hj=>?_⟩;by_cases hji:j=i
  ·subst hji;exact hy.wpOp hi hG ⟨hS,H⟩
  ·have h1:=H.2 j (yQ hj hji);obtain⟨hjun,oj,hoj,hall⟩:=yb.1 hj;have off:∀(k:Nat),zU.getD k true=false->∀e∈oj.after,Region.binds md e=true->e.on≠k:=λk hk e he hb heq=>by
    have h1:=hall e he hb;rw[heq]at h1;rcases wy k zU.size with h'|h'
    ·simp[h']at hk h1;rw[hk]at h1;cases h1
    ·simp[Array.getElem?_eq_none h']at h1
   have hnot:=off i (yb.1 hr).1;have hnw:wt j=false:=by
    cases hw:wt j with
    | false=>rfl
    | true=>
     obtain⟨e,he,hb,h|h⟩:=hcl j oj hoj hw
     ·exact absurd h (hnot e he hb)
     ·exact absurd rfl (off e.on (hwt _ h) e he hb)
   have h2:=jD hoj (htm j oj hoj hji hjun hnw) hG (wpOp_putIf hoj (hfree j oj hoj hji hjun hnot) (λcs b=>hsel i oi cs b hi) (λcs b=>hsel j oj cs b hoj) hQ hy h1);have hset:∀k,(zU.setIfInBounds j true).getD k true=false->zU.getD k true=false:=λk hun=>by
    by_cases hjk:j=k
    ·subst hjk;exact hjun
    ·rw[getD_set_ne true hjk]at hun;exact hun
   refine wpOp_mono (λa' w' h3=>⟨h3.2.2.1,ih (zU.setIfInBounds j true) a' w' (λk ok hk hki hun hno=>hfree k ok hk hki (hset k hun) hno) (λk hk=>?_) (λk ok hk hki hun hw=>htm k ok hk hki (hset k hun) hw) (yQ hr (wR hji)) h3.2.1 h3.1 h3.2.2.1 ?_⟩) h2
   ·rw[getD_set_ne true (λe=>by subst e;rw[hk]at hnw;cases hnw)];exact hwt k hk
   ·rw[Array.setIfInBounds_comm _ _ hji];exact h3.2.2.2
theorem Zk:∀(fuel:Nat) (zU:Array Bool) (a:Act) (w:World),wpAny P md ops Q fuel zU a w->wpAnyH P md ops Q (λ_=>True) fuel zU a w
 | 0,_,_,_,h=>h
 | fuel+1,_,_,_,h=>⟨h.1,λi hi=>wpOp_mono (λa' w' h'=>⟨uM,Zk fuel _ a' w' h'⟩) (h.2 i hi)⟩
def waiters (ops:Array Oper)(i:Nat):List Bool:=
 ops.toList.foldl (λacc o=>acc++[o.after.any λe=>Region.binds .any e&&(Nat.beq e.on i || acc.getD e.on false)]) []
def kP (ops:Array Oper)(zU:Array Bool)(i:Nat):Bool:=
 let wt:=waiters ops i
 (List.range ops.size).all λj=>match ops[j]? with
  | none=>true
  | some o=>(bif wt.getD j false then !zU.getD j true&&o.after.any (λe=>Region.binds .any e&&(Nat.beq e.on i || wt.getD e.on false)) else true)&&(Nat.beq j i || zU.getD j true || wt.getD j false || V1 o)
def PO (ops:Array Oper)(zU:Array Bool)(i n:Nat)(d:Option Tmp):Bool:=
 Region.noSelect ops&&Region.free .any ops zU i&&(Region.ready .any ops zU).contains i&&DK n d&&Nat.beq (waiters ops i).length ops.size&&kP ops zU i
theorem Uj {i:Nat}{oi:Oper}{v:Value}{fuel n:Nat}{zU:Array Bool}{a:Act}{w:World}(hi:ops[i]?=some oi)(hc:PO ops zU i n oi.dst=true)
  (hQ :∀c a w,Q (.panic c) (a.put oi.dst v) w->Q (.panic c) a w) (hy:YieldsIf P ops (Grow w) oi v a) (hS:S w)
  (h:wpAnyH P .any ops Q S fuel (zU.setIfInBounds i true) (a.put oi.dst v) w):wpAnyH P .any ops Q S (fuel+1) zU a w:=by
 unfold PO at hc;simp only[uT]at hc;obtain⟨⟨⟨⟨⟨c1,c2⟩,c3⟩,_⟩,c5⟩,c6⟩:=hc;have c5:=vw c5;unfold kP at c6;have c6:=λ(j:Nat) (o:Oper) (ho:ops[j]?=some o)=>by
  have:=uS.1 c6 j (wQ.2 (vR.1 ho).1);rw[ho]at this;simpa only[uT] using this
 have hlt:∀j,(waiters ops i).getD j false=true->∃o,ops[j]?=some o:=λj hj=>by
  rcases wy j ops.size with h'|h'
  ·exact⟨_,vk h'⟩
  ·rw[xV,vf (by omega)]at hj;cases hj
 refine eK (wt:=λj=>(waiters ops i).getD j false) hi (Region.noSelect_spec c1) hQ ?_ fuel zU a w (Region.free_spec hi c2) ?_ ?_ (by simpa using c3) hy (.refl w) hS h
 ·intro j oj hj hw;have:=(c6 j oj hj).1;rw[hw,cond_true,uT]at this;obtain⟨e,he,h2⟩:=Array.any_eq_true'.1 this.2;simp only[uT,xH]at h2;exact⟨e,he,h2.1,h2.2.imp vw id⟩
 ·intro j hw;obtain⟨oj,hj⟩:=hlt j hw;have:=(c6 j oj hj).1;rw[hw,cond_true,uT]at this;simpa using this.1
 ·intro j oj hj hji hun hw;have:=(c6 j oj hj).2;rw[hun,hw]at this;simpa [hji] using this
end
def Tx (P:Program)(s:St)(o:Oper)(v:AV):Prop:=
 o.guard=none/\∀F os a w,Rel F os s a w->∃u,(∀w',Grow w w'->(execOp a.eval o).run P w'=.ok (.value u) w')/\Ae F w os v u
section
variable {P : Program} {s : St} {o : Oper} {v : AV} {n : Nat} {e : Nat -> AV} {st : List Row} {t : Tmp} {ty : TypeId} {ps : String} {ed : Array Edge} {x : Operand}
theorem R6.G (h:R6 P s o v):Tx P s o v:=⟨h.1,λF os a w hr=>let ⟨u,h1,h2⟩:=h.2 F os a w hr;⟨u,λw' g=>h1 w' (λb hb=>g.2 b (hr.GK b hb)),h2⟩⟩
theorem Vv (hq:AQ P s o.op v)(hg:o.guard=none)(hs :∀ρ,Still P (execOp ρ o)):Pd P s o v:=
 ⟨hg,λF os a w hr=>by
  obtain⟨x,u,rfl,h1,h2⟩:=U5 hr (hq (·=v) rfl);exact⟨u,(hs _ w _ _ h1).2,h2⟩⟩
theorem ZZ {F:Nat->Prop}{os:List Own}{a:Act}{w:World}{id g i off:Nat}{el:TypeId}{size:Nat}{xs:List (List AV)}{cs:List AV}(hr:Rel F os ⟨n,e,st⟩ a w)(h:St.ev ⟨n,e,st⟩ x=.ptr id g i off)(zh:st[id]?=some ⟨g,el,size,xs⟩)(hi:xs[i]?=some cs):
  ∃b,a.eval x=.pointer (some ⟨b,i*size+off,none⟩)/\b<w.heap.size/\∀j c,cs[j]?=some c->∃u,w.cell? ⟨b,i*size+j,none⟩=some u/\Ae F w os c u:=by
 have h1:=hr.ev x;rw[h]at h1;simp only[Ae]at h1;obtain⟨o,ho,_,_,h2⟩:=h1;have hst:os.map Own.row=st:=hr.st;have hg:o.row=⟨g,el,size,xs⟩:=by
  rw[<- hst,uP,ho]at zh;simpa using zh
 rw[hg]at h2;obtain⟨_,_,b,hb,hv⟩:=h2 rfl;obtain⟨_,cur,h3,_,_,_,h6⟩:=(hr.rows id o ho).some b hb;rw[hg]at h3 h6;refine⟨b,hv,(vR.1 h3).1,λj c hc=>?_⟩;obtain⟨u,h7,h8⟩:=h6 i cs hi j c hc;exact⟨u,by simp only[World.cell?,h3];exact h7,h8⟩
theorem R5 {id g i off sz:Nat}{tt el:TypeId}{size:Nat}{xs:List (List AV)}{cs:List AV}{c:AV}(hti:DJ P tt=some (false,sz))(h:St.ev ⟨n,e,st⟩ x=.ptr id g i off)(zh:st[id]?=some ⟨g,el,size,xs⟩)(hi:xs[i]?=some cs)(hc:cs[off]?=some c):Tx P ⟨n,e,st⟩ ⟨some t,.load tt x,ty,ps,ed,none⟩ c:=
 ⟨rfl,λF os a w hr=>by
  obtain⟨b,e2,hb,hcs⟩:=ZZ hr h zh hi;obtain⟨d,i',hud,hi',e1,e3⟩:=LG hti;obtain⟨u,hu1,hu2⟩:=hcs off c hc;refine⟨u,λw' hw'=>?_,hu2⟩;have hag:=Nr (w:=w') hud;rw[<- e1]at hag;have hcell:w'.cell? ⟨b,i*size+off,none⟩=some u:=by rw[<- hu1];exact xJ (hw'.2 b hb)
  simp[execOp,e2,Instr.loadAt,Instr.sureAddr,loadVar,hag,hcell]⟩
theorem fQ {id g i off sz:Nat}{tt el:TypeId}{size:Nat}{xs:List (List AV)}{cs:List AV}(hti:DJ P tt=some (true,sz))(h:St.ev ⟨n,e,st⟩ x=.ptr id g i off)(zh:st[id]?=some ⟨g,el,size,xs⟩)(hi:xs[i]?=some cs)(hl:off+sz<=cs.length):Tx P ⟨n,e,st⟩ ⟨some t,.load tt x,ty,ps,ed,none⟩ (.agg ((cs.drop off).take sz)):=
 ⟨rfl,λF os a w hr=>by
  obtain⟨b,e2,hb,hx⟩:=ZZ hr h zh hi;obtain⟨d,i',hud,hi',e1,e3⟩:=LG hti;have hch:∃f:Nat->Value,∀j,j<sz->w.cell? ((⟨b,i*size+off,none⟩:Addr).add j)=some (f j)/\∀c,cs[off+j]?=some c->Ae F w os c (f j):=
   ⟨λj=>(w.cell? ((⟨b,i*size+off,none⟩:Addr).add j)).getD undef,λj hj=>by
    have hlt:off+j<cs.length:=by omega
    obtain⟨u,hu1,hu2⟩:=hx (off+j) cs[off+j] (uQ hlt);have hu1':w.cell? ((⟨b,i*size+off,none⟩:Addr).add j)=some u:=by rw[DM,<- hu1,wZ]
    simp only[hu1',wq];refine⟨uM,λc hc=>?_⟩;rw[uQ hlt,uO]at hc;exact hc▸hu2⟩
  obtain⟨f,hf⟩:=hch;refine⟨.agg ((List.range sz).map f).toArray,λw' hw'=>?_,?_⟩
  ·have hag:=Nr (w:=w') hud;rw[<- e1]at hag;have hsz:(sizeOf tt).run P w'=.ok i'.size w':=by simp[sizeOf,typeInfo,hi']
   have hlc:=run_loadCells (P:=P) w' ⟨b,i*size+off,none⟩ sz f (λj hj=>by
    rw[<- (hf j hj).1,DM];exact xJ (hw'.2 b hb))
   simp only at e3;simp[execOp,e2,Instr.loadAt,Instr.sureAddr,loadVar,hag,hsz,<- e3,hlc]
  ·simp only[Ae];refine⟨_,rfl,DZ (by simp;omega) λj c u hc hu=>?_⟩;simp only[vN,vZ]at hc;split at hc
   ·rename_i hj;simp only[uP,wY hj,vY,uO]at hu;subst hu;exact (hf j hj).2 c hc
   ·cases hc⟩
def hE (T:Mo P)(s:St):Op->Option AV
 | .move x=>fo (s.ev x)
 | .assign x=>fo (s.ev x)
 | .fieldAddr t x f=>match s.ev x with
  | .Bj cs off=>(QV T.f t f).bind λj=>some (.Bj cs (off+j))
  | .ptr id g i off=>(QV T.f t f).bind λj=>cG g s.st[id]? λr=>bif Nat.ble (off+j) r.size then some (.ptr id g i (off+j)) else none
  | _=>none
 | .load t x=>ZY T s t (s.ev x)
 | _=>none
def iF:Op->Bool
 | .load ..=>false
 | _=>true
theorem rO {T:Mo P}{op:Op}(h:hE T ⟨n,e,st⟩ op=some v):(iF op=true/\Pd P ⟨n,e,st⟩ ⟨some t,op,ty,ps,ed,none⟩ v)∨(iF op=false/\Tx P ⟨n,e,st⟩ ⟨some t,op,ty,ps,ed,none⟩ v):=by
 unfold hE at h;split at h
 ·exact .inl ⟨rfl,BY (Rc h)⟩
 ·exact .inl ⟨rfl,lW (Rc h)⟩
 ·split at h
  ·rename_i hx;obtain⟨j,h1,h2⟩:=vO.1 h;cases h2;exact .inl ⟨rfl,GH (T3 h1) hx rfl⟩
  ·rename_i hx;obtain⟨j,h1,h2⟩:=vO.1 h;obtain⟨el,size,xs,hr,h2⟩:=Pp h2;simp only at h2;cases hb:Nat.ble (_+j) size with
   | false=>rw[hb]at h2;cases h2
   | true=>rw[hb]at h2;cases h2;exact .inl ⟨rfl,Gj (T3 h1) hx hr (wF hb) rfl⟩
  ·cases h
 ·refine .inr ⟨rfl,?_⟩;unfold ZY at h;split at h
  ·rename_i hx;obtain⟨⟨b,sz⟩,h1,h2⟩:=vO.1 h;rcases OF h2 with ⟨hb,h3⟩|⟨hb,h3,rfl⟩<;>simp only at hb<;>subst hb
   ·exact (Ge (Mb h1) hx h3).G
   ·exact (Hc (Mb h1) hx h3 rfl).G
  ·rename_i hx;obtain⟨el,size,xs,hr,h⟩:=Pp h;obtain⟨cs,hi,h⟩:=vO.1 h;obtain⟨⟨b,sz⟩,h1,h2⟩:=vO.1 h;rcases OF h2 with ⟨hb,h3⟩|⟨hb,h3,rfl⟩<;>simp only at hb<;>subst hb
   ·exact R5 (Mb h1) hx hr hi h3
   ·exact fQ (Mb h1) hx hr hi h3
  ·cases h
 ·cases h
def T4 (P:Program):Op->Bool
 | .indexAddr ..=>true
 | .call ⟨.builtin .len,xs,ts⟩=>match xs.toList,ts.toList with
  | [_],[t]=>Cn P t
  | _,_=>false
 | _=>false
theorem ZO {op:Op}(h:T4 P op=true)(ρ:Operand->Value):Still P (execOp ρ ⟨some t,op,ty,ps,ed,none⟩):=by
 unfold T4 at h;split at h
 ·exact Still.bind (.indexAt _ _ _) λ_=>.pure _
 ·rename_i xs ts;split at h
  ·rename_i x t' h1 h2;obtain rfl:xs=#[x]:=by rw[<- xU (xs:=xs),h1]
   obtain rfl:ts=#[t']:=by rw[<- xU (xs:=ts),h2]
   exact Still.bind (m:=Builtin.len_ #[t'] ty (#[x].map ρ)) (by simpa using Still.len h) λ_=>.pure _
  ·cases h
 ·cases h
end
def Z3 (ops:Array Oper)(zU:Array Bool)(i n:Nat)(d:Option Tmp):Bool:=
 Region.noSelect ops&&Region.free .any ops zU i&&(Region.ready .any ops zU).contains i&&DK n d
def aP (ops:Array Oper)(zU:Array Bool)(i n:Nat)(d:Option Tmp)(op:Op):Bool:=
 bif iF op then Z3 ops zU i n d else PO ops zU i n d
section
variable {P : Program} {k : Nat} {ops : Array Oper} {Q : Exit -> St -> Prop} {N f : Nat} {zU : Array Bool} {s : St} {o : Oper} {v : AV} {n : Nat} {e : Nat -> AV} {st : List Row} {t : Tmp} {op : Op} {ty : TypeId} {ps : String} {ed : Array Edge}
theorem QG {K:Prop}{i:Nat}{d:Option Tmp}(hc:Z3 ops zU i n d=true)(h:Region.noSelect ops=true->Region.free .any ops zU i=true->(Region.ready .any ops zU).contains i=true->DK n d=true->K):K:=by
 unfold Z3 at hc;simp only[uT]at hc;exact h hc.1.1.1 hc.1.1.2 hc.1.2 hc.2
theorem Zg (i:Nat)(hn:s.n=N)(ho:ops[i]?=some o)(hc:PO ops zU i N o.dst=true)(hh:Tx P s o v)(h:AX P k ops Q N f (zU.setIfInBounds i true) (s.put o.dst v)):AX P k ops Q N (f+1) zU s:=
 ⟨hn,λF0 os0 w0 F os a w hrel he=>by
  obtain⟨hg,hh⟩:=hh;obtain⟨u,hu,hv⟩:=hh F os a w hrel;have hd:DK s.n o.dst=true:=by
   unfold PO at hc;simp only[uT]at hc;rw[hn];exact hc.1.1.2
  exact wpAny_of_held (S:=λ_=>True) _ _ _ _ (Uj ho hc (λc a w ⟨_,_,_,hp,_⟩=>nomatch hp.1) (.inl ⟨by unfold Region.wanted;rw[hg],hu⟩) uM (Zk _ _ _ _ (h.2 F0 os0 w0 F os _ w (hrel.put hd hv) he)))⟩
theorem Ux (i:Nat)(hn:s.n=N)(ho:ops[i]?=some o)(hc:PO ops zU i N o.dst=true)(hh:Tx P s o v)(h:AY P k ops Q N f (zU.setIfInBounds i true) (s.put o.dst v)):AY P k ops Q N (f+1) zU s:=
 ⟨hn,λF0 os0 w0 F os a w hrel he=>by
  obtain⟨hg,hh⟩:=hh;obtain⟨u,hu,hv⟩:=hh F os a w hrel;have hd:DK s.n o.dst=true:=by
   unfold PO at hc;simp only[uT]at hc;rw[hn];exact hc.1.1.2
  exact Uj ho hc (λc a w ⟨_,_,_,hp,_⟩=>nomatch hp.1) (.inl ⟨by unfold Region.wanted;rw[hg],hu⟩) he.Jx (h.2 F0 os0 w0 F os _ w (hrel.put hd hv) he)⟩
theorem fO (T:Mo P)(i:Nat)(ho:ops[i]?=some ⟨some t,op,ty,ps,ed,none⟩)(hc:aP ops zU i n (some t) op=true)(h:hE T ⟨n,e,st⟩ op=some v)(hk:AX P k ops Q n f (zU.setIfInBounds i true) ⟨n,EW e t v,st⟩):AX P k ops Q n (f+1) zU ⟨n,e,st⟩:=by
 unfold aP at hc;rcases rO (t:=t) (ty:=ty) (ps:=ps) (ed:=ed) h with ⟨hp,hh⟩|⟨hp,hh⟩
 ·rw[hp]at hc;exact QG hc λa b c d=>OQ i rfl ho a b c d hh hk
 ·rw[hp]at hc;exact Zg i rfl ho hc hh hk
theorem AY.hq (T:Mo P)(i:Nat)(ho:ops[i]?=some ⟨some t,op,ty,ps,ed,none⟩)(hc:aP ops zU i n (some t) op=true)(h:hE T ⟨n,e,st⟩ op=some v)(hk:AY P k ops Q n f (zU.setIfInBounds i true) ⟨n,EW e t v,st⟩):AY P k ops Q n (f+1) zU ⟨n,e,st⟩:=by
 unfold aP at hc;rcases rO (t:=t) (ty:=ty) (ps:=ps) (ed:=ed) h with ⟨hp,hh⟩|⟨hp,hh⟩
 ·rw[hp]at hc;exact QG hc λa b c d=>S0 i rfl ho a b c d hh hk
 ·rw[hp]at hc;exact Ux i rfl ho hc hh hk
theorem AX.ha (i:Nat)(ho:ops[i]?=some ⟨some t,op,ty,ps,ed,none⟩)(hc:Z3 ops zU i n (some t)=true)(hs:T4 P op=true)(h:AQ P ⟨n,e,st⟩ op v)(hk:AX P k ops Q n f (zU.setIfInBounds i true) ⟨n,EW e t v,st⟩):AX P k ops Q n (f+1) zU ⟨n,e,st⟩:=
 QG hc λa b c d=>OQ i rfl ho a b c d (Vv h rfl λρ=>ZO hs ρ) hk
theorem AY.ha (i:Nat)(ho:ops[i]?=some ⟨some t,op,ty,ps,ed,none⟩)(hc:Z3 ops zU i n (some t)=true)(hs:T4 P op=true)(h:AQ P ⟨n,e,st⟩ op v)(hk:AY P k ops Q n f (zU.setIfInBounds i true) ⟨n,EW e t v,st⟩):AY P k ops Q n (f+1) zU ⟨n,e,st⟩:=
 QG hc λa b c d=>S0 i rfl ho a b c d (Vv h rfl λρ=>ZO hs ρ) hk
end
end Go.Abs
namespace Go.Abs
open Go
end Go.Abs
