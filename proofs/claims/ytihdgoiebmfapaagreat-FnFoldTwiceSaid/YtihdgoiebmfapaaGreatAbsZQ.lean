import Derived.Test.YtihdgoiebmfapaaGreatGAbsXToAbsZN
import Derived.Test.YtihdgoiebmfapaaGreatAbsQ
set_option linter.all false
namespace Go.Abs
open Go
def Grow (w w':World):Prop:=w.heap.size<=w'.heap.size/\∀b,b<w.heap.size->w'.heap[b]?=w.heap[b]?
theorem Grow.refl (w:World):Grow w w:=⟨jv _,λ_ _=>rfl⟩
theorem Grow.trans {w1 w2 w3:World}(h:Grow w1 w2)(g:Grow w2 w3):Grow w1 w3:=⟨mB h.1 g.1,λb hb=>(g.2 b (ke hb h.1)).trans (h.2 b hb)⟩
def Cq {α:Type}(m:Sem α):Prop:=∀P w v w',m.run P w=.ok v w'->Grow w w'
theorem Cq.pure {α:Type}(a:α):Cq (pure a:Sem α):=λ_ w _ _ h=>by cases h;exact Grow.refl w
theorem Cq.halt {α:Type}(h:Halt):Cq (.halt h:Sem α):=λ_ _ _ _ h=>by cases h
theorem Cq.bind {α β:Type}{m:Sem α}{f:α->Sem β}(hm:Cq m)(hf :∀a,Cq (f a)):Cq (m >>= f):=λP w v w' h=>by
 rw[kX]at h;cases hr:m.run P w with
 | ok a w2=>rw[hr]at h;exact (hm P w a w2 hr).trans (hf a P w2 v w' h)
 | halt x w2=>rw[hr]at h;cases h
theorem Cq.load (a:Addr):Cq (Go.load a):=λP w v w' h=>by
 unfold Go.load at h;simp only[Sem.run]at h;split at h
 ·cases h;exact Grow.refl w
 ·split at h
  ·cases h;exact Grow.refl w
  ·cases h
theorem Cq.program:Cq Go.program:=λP w v w' h=>by cases h;exact Grow.refl w
theorem Cq.shape (r:Nat):Cq (Go.shape r):=λP w v w' h=>by cases h;exact Grow.refl w
theorem Cq.newObj (o:Obj):Cq (Go.newObj o):=λP w v w' h=>by
 cases h;exact⟨by simp,λb hb=>by simp[Array.getElem?_push,Nat.ne_of_lt hb]⟩
theorem Cq.choose (q:Question):Cq (Go.choose q):=λP w v w' h=>by
 unfold Go.choose at h;simp only[Sem.run]at h;split at h<;>cases h<;>exact Grow.refl w
theorem Cq.typeInfo (t:TypeId):Cq (Go.typeInfo t):=.bind .program λp=>by split;exact .pure _;exact .halt _
theorem Cq.underlying (t:TypeId):Cq (Go.underlying t):=.bind .program λp=>by split;exact .pure _;exact .halt _
theorem Cq.sizeOf (t:TypeId):Cq (Go.sizeOf t):=.bind (.typeInfo t) λ_=>.pure _
theorem Cq.zeroValue (t:TypeId):Cq (Go.zeroValue t):=.bind (.typeInfo t) λ_=>by split;exact .pure _;exact .halt _
theorem Cq.isAgg (t:TypeId):Cq (Go.isAgg t):=.bind (.underlying t) λ_=>by split<;>exact .pure _
theorem Cq.loadCellsFrom (a:Addr):∀(n i:Nat) (acc:Array Value),Cq (Go.loadCellsFrom a i n acc)
 | 0,_,_=>.pure _
 | n+1,i,acc=>.bind (.load _) λv=>Cq.loadCellsFrom a n (i+1) (acc.push v)
theorem Cq.loadVar (t:TypeId)(a:Addr):Cq (Go.loadVar t a):=.bind (.isAgg t) λb=>by
 split
 ·exact .bind (.sizeOf t) λn=>.bind (.loadCellsFrom a n 0 _) λ_=>.pure _
 ·exact .load a
theorem Cq.sureAddr (v:Value):Cq (Instr.sureAddr v):=by unfold Instr.sureAddr;split;exact .pure _;exact .halt _
theorem Cq.loadAt (t:TypeId)(v:Value):Cq (Instr.loadAt t v):=.bind (.sureAddr v) λa=>.loadVar t a
theorem Cq.getObj (r:Nat):Cq (Go.getObj r):=λP w v w' h=>by
 unfold Go.getObj at h;simp only[Sem.run]at h;split at h
 ·cases h
 ·cases h;exact Grow.refl w
 ·cases h
theorem Cq.viewAt (r:Nat):Cq (Go.viewAt r):=by
 unfold Go.viewAt;refine .bind (.shape r) λs=>?_
 repeat' first|exact .pure _|exact .halt _|exact .bind (.getObj r) (λo=>by split<;>exact .pure _)|split
theorem Cq.noView (a:Addr):Cq (Go.noView a):=by
 unfold Go.noView;refine .bind (.viewAt _) λs=>?_;split
 ·exact .halt _
 ·exact .pure _
theorem Cq.byteOf (a:Addr):Cq (Go.byteOf a):=by
 unfold Go.byteOf;dsimp only;split
 ·exact .pure _
 ·refine .bind .program λp=>.bind (.noView a) λ_=>.bind (.shape _) λs=>?_
  repeat' first|exact .pure _|exact .halt _|split
theorem Cq.fieldPlace (a:Addr)(f:Field):Cq (fieldPlace a f):=.bind (.sizeOf _) λn=>by
 split
 ·exact .bind (.byteOf _) λ_=>.bind (.byteOf _) λ_=>.pure _
 ·exact .pure _
theorem Cq.fieldAt (s:TypeId)(v:Value)(f:Nat):Cq (Instr.fieldAt s v f):=by
 unfold Instr.fieldAt;refine .bind (.underlying s) λd=>?_;split
 ·split
  ·exact .bind (.sureAddr v) λa=>.bind (.fieldPlace a _) λ_=>.pure _
  ·exact .halt _
 ·exact .halt _
theorem Cq.asIntOf (v:Value):Cq (Go.asIntOf v):=by
 unfold Go.asIntOf;split
 ·exact .pure _
 ·exact .halt _
 ·exact .halt _
theorem Cq.O0 {α:Type}(x y:Int)(s:Bool)(c:BoundsCode):Cq (runtimePanic (.bounds x y s c):Sem α):=.bind .program λ_=>.halt _
theorem Cq.boundsPanic {α:Type}(k:IntKind)(x y:Int)(c:BoundsCode):Cq (Go.boundsPanic k x y c:Sem α):=by
 unfold Go.boundsPanic;dsimp only;split
 ·exact Cq.bind (Cq.bind (.choose _) λ_=>.pure _) λ_=>.O0 _ _ _ _
 ·exact Cq.bind (.pure _) λ_=>.O0 _ _ _ _
theorem Cq.indexAt (t:TypeId)(x i:Value):Cq (Instr.indexAt t x i):=by
 unfold Instr.indexAt;dsimp only;refine .bind (.asIntOf i) λki=>.bind (.underlying t) λd=>?_
 repeat' first|exact .pure _|exact .halt _|exact .boundsPanic _ _ _ _|exact .sureAddr _|exact .underlying _|exact .sizeOf _|(refine .bind ?_ λ_=>?_)|split
theorem Cq.newVar (t:TypeId)(v:Value):Cq (Go.newVar t v):=.bind (.newObj _) λ_=>.pure _
theorem Cq.alloc (t:TypeId):Cq (Instr.alloc t true (.tuple #[])):=.bind (.zeroValue t) λz=>.bind (.newVar t z) λ_=>.pure _
theorem Cq.box (t:TypeId)(v:Value):Cq (Instr.box t v):=.bind (.newVar t v) λ_=>.pure _
theorem Cq.buildSlice (t:TypeId)(n:Nat)(ps:Array (Nat×Value)):Cq (Instr.buildSlice t n ps):=by
 unfold Instr.buildSlice;dsimp only
 repeat' first|exact .pure _|exact .halt _|exact .underlying _|exact .sizeOf _|exact .zeroValue _|exact .newObj _|(refine .bind ?_ λ_=>?_)|split
def Still (P:Program){α:Type}(m:Sem α):Prop:=∀w v w1,m.run P w=.ok v w1->w1=w/\∀w',m.run P w'=.ok v w'
section
variable {P : Program}
theorem Still.pure {α:Type}(a:α):Still P (pure a:Sem α):=λw _ _ h=>by cases h;exact⟨rfl,λ_=>rfl⟩
theorem Still.halt {α:Type}(h:Halt):Still P (.halt h:Sem α):=λ_ _ _ h=>by cases h
theorem Still.never {α:Type}{m:Sem α}(h :∀w v w1,m.run P w≠.ok v w1):Still P m:=λw v w1 e=>absurd e (h w v w1)
theorem Still.bind {α β:Type}{m:Sem α}{f:α->Sem β}(hm:Still P m)(hf :∀a,Still P (f a)):Still P (m >>= f):=λw v w1 h=>by
 rw[kX]at h;cases hr:m.run P w with
 | ok a w2=>
  rw[hr]at h;obtain⟨rfl,h1⟩:=hm w a w2 hr;obtain⟨rfl,h2⟩:=hf a w2 v w1 h;exact⟨rfl,λw'=>by rw[kX,h1 w'];exact h2 w'⟩
 | halt x w2=>rw[hr]at h;cases h
theorem Still.program:Still P Go.program:=λw v w1 h=>by cases h;exact⟨rfl,λ_=>rfl⟩
theorem Still.typeInfo (t:TypeId):Still P (Go.typeInfo t):=.bind .program λp=>by split;exact .pure _;exact .halt _
theorem Still.underlying (t:TypeId):Still P (Go.underlying t):=.bind .program λp=>by split;exact .pure _;exact .halt _
theorem Still.sizeOf (t:TypeId):Still P (Go.sizeOf t):=.bind (.typeInfo t) λ_=>.pure _
theorem Still.sureAddr (v:Value):Still P (Instr.sureAddr v):=by unfold Instr.sureAddr;split;exact .pure _;exact .halt _
theorem Still.asIntOf (v:Value):Still P (Go.asIntOf v):=by
 unfold Go.asIntOf;split
 ·exact .pure _
 ·exact .halt _
 ·exact .halt _
theorem Still.boundsPanic {α:Type}(k:IntKind)(x y:Int)(c:BoundsCode):Still P (Go.boundsPanic k x y c:Sem α):=.never λw v w1 h=>by
 unfold Go.boundsPanic at h;dsimp only at h;have hn:∀(s:Bool) w2,(runtimePanic (.bounds (IntKind.i64.wrap x) y s c):Sem α).run P w2≠.ok v w1:=λs w2 h=>by
  unfold runtimePanic at h;rw[kX]at h;cases h
 split at h
 ·rw[kX]at h;generalize ((λx=>x==1) <$> Go.choose (Question.extern "runtime.boundsError.signed" 2)).run P w=r at h;cases r with
  | ok a w2=>exact hn _ _ h
  | halt=>cases h
 ·exact hn _ _ h
theorem Still.indexAt (t:TypeId)(x i:Value):Still P (Instr.indexAt t x i):=by
 unfold Instr.indexAt;dsimp only;refine .bind (.asIntOf i) λki=>.bind (.underlying t) λd=>?_
 repeat' first|exact .pure _|exact .halt _|exact .boundsPanic _ _ _ _|exact .sureAddr _|exact .underlying _|exact .sizeOf _|(refine .bind ?_ λ_=>?_)|split
theorem Still.len {t ty:TypeId}{x:Value}(ht:DT P t=true):Still P (Builtin.len_ #[t] ty #[x]):=λw v w1 h=>by
 unfold DT at ht;split at ht
 ·rename_i e he;have hr:∀w',(Builtin.len_ #[t] ty #[x]).run P w'=(match x with|.slice _ n _=>.ok (goInt n) w'|_=>.halt (.stuck "len: string, array, pointer to array, slice, map or channel expected") w'):=λw'=>by
   unfold Builtin.len_;simp only[mN,kK,kX,kg he,kV];cases x<;>rfl
  rw[hr]at h;cases x<;>simp at h;obtain⟨rfl,rfl⟩:=h;exact⟨rfl,λw'=>hr w'⟩
 ·cases ht
end
def SP (o:Oper):Bool:=match o.op with
 | .move _|.assign _|.load ..|.fieldAddr ..|.indexAddr ..|.alloc _|.box ..|.buildSlice ..=>true
 | .call ⟨.builtin .len,_,_⟩=>true
 | _=>false
theorem Ks {P:Program}{m:Sem Value}{w w':World}{n:Next}(hm:Cq m)(h:(do pure (Next.value (← m)):Sem Next).run P w=.ok n w'):(∃u,n=.value u)/\Grow w w':=by
 rw[kX]at h;cases hr:m.run P w with
 | ok a w2=>rw[hr]at h;cases h;exact⟨⟨_,rfl⟩,hm P w _ _ hr⟩
 | halt x w2=>rw[hr]at h;cases h
theorem Cq.len (ts:Array TypeId)(ty:TypeId)(xs:Array Value):Cq (Builtin.len_ ts ty xs):=by
 unfold Builtin.len_
 repeat' first|exact .pure _|exact .halt _|exact .underlying _|exact .getObj _|(refine .bind ?_ λ_=>?_)|split
theorem Y9 {P:Program}{o:Oper}{ρ:Operand->Value}{w w':World}{n:Next}(h:SP o=true)(hr:(execOp ρ o).run P w=.ok n w'):(∃u,n=.value u)/\Grow w w':=by
 unfold SP at h;unfold execOp at hr;split at h<;>rename_i ho<;>try (cases h;done)
 all_goals rw[ho]at hr
 ·cases hr;exact⟨⟨_,rfl⟩,.refl _⟩
 ·cases hr;exact⟨⟨_,rfl⟩,.refl _⟩
 ·exact Ks (.loadAt _ _) hr
 ·exact Ks (.fieldAt _ _ _) hr
 ·exact Ks (.indexAt _ _ _) hr
 ·exact Ks (.alloc _) hr
 ·exact Ks (.box _ _) hr
 ·exact Ks (.buildSlice _ _ _) hr
 ·exact Ks (.len _ _ _) hr
section
variable {P : Program} {ops : Array Oper} {Q : Exit -> Act -> World -> Prop} {md : Region.Mode} {S : World -> Prop}
theorem ZY {i:Nat}{o:Oper}{K:Act->World->Prop}{a:Act}{w0 w:World}(hi:ops[i]?=some o)(ht:SP o=true)(hG:Grow w0 w)(h:wpOp P ops Q i K a w):wpOp P ops Q i (λa' w'=>Grow w0 w'/\K a' w') a w:=by
 unfold wpOp at *;simp only[hi] at *;split
 ·rename_i hw;rw[jm hw]at h;refine h.imp (λh=>?_) id;unfold Oper.wp at *;cases hr:(execOp a.eval o).run P w with
  | ok n w'=>
   obtain⟨⟨u,rfl⟩,g⟩:=Y9 ht hr;rw[hr]at h;simp only[Oper.upon]at h⊢;exact⟨hG.trans g,h⟩
  | halt x w'=>
   rw[hr]at h;cases x<;>simp only[Oper.upon]at h⊢;exact h
 ·rename_i hw;rw[jn hw]at h;exact⟨hG,h⟩
theorem XQ {i:Nat}{oi:Oper}{v:Value}{w0:World}{wt:Nat->Bool}(hi:ops[i]?=some oi)(AAM :∀(j:Nat) (o:Oper) cs b,ops[j]?=some o->o.op≠.select cs b)
  (hQ :∀c a w,Q (.panic c) (a.put oi.dst v) w->Q (.panic c) a w)
  (tB :∀j oj,ops[j]?=some oj->wt j=true->∃e∈oj.after,Region.binds md e=true/\(e.on=i∨wt e.on=true)) :
  ∀(fuel:Nat) (oS:Array Bool) (a:Act) (w:World),
   (∀j oj,ops[j]?=some oj->j≠i->oS.getD j true=false->(∀e∈oj.after,Region.binds md e=true->e.on≠i)->oi.apart ops oj=true)->
   (∀j,wt j=true->oS.getD j true=false)->
   (∀j oj,ops[j]?=some oj->j≠i->oS.getD j true=false->wt j=false->SP oj=true)->
   i∈Region.ready md ops oS->YieldsIf P ops (Grow w0) oi v a->Grow w0 w->S w->
   wpAnyH P md ops Q S fuel (oS.setIfInBounds i true) (a.put oi.dst v) w->wpAnyH P md ops Q S (fuel+1) oS a w:=by
 intro fuel
 induction fuel with
 | zero=>
  intro oS a w _ _ _ hr hy hG hS H;refine⟨λh=>(by rw[h]at hr;cases hr),λj hj=>?_⟩;by_cases ql:j=i
  ·subst ql;exact hy.wpOp hi hG ⟨hS,H⟩
  ·have:=mS hj ql;rw[H.1]at this;cases this
 | succ fuel ih=>
  intro oS a w rE wY wm hr hy hG hS H;refine⟨λh=>(by rw[h]at hr;cases hr),λj hj=>?_⟩;by_cases ql:j=i
  ·subst ql;exact hy.wpOp hi hG ⟨hS,H⟩
  ·have h1:=H.2 j (mS hj ql);obtain⟨rq,oj,rF,qB⟩:=mV.1 hj;have off:∀(k:Nat),oS.getD k true=false->∀e∈oj.after,Region.binds md e=true->e.on≠k:=λk hk e he hb heq=>by
    have h1:=qB e he hb;rw[heq]at h1;rcases la k oS.size with h'|h'
    ·simp[h']at hk h1;rw[hk]at h1;cases h1
    ·simp[mm h']at h1
   have tr:=off i (mV.1 hr).1;have vY:wt j=false:=by
    cases hw:wt j with
    | false=>rfl
    | true=>
     obtain⟨e,he,hb,h|h⟩:=tB j oj rF hw
     ·exact absurd h (tr e he hb)
     ·exact absurd rfl (off e.on (wY _ h) e he hb)
   have h2:=ZY rF (wm j oj rF ql rq vY) hG (wpOp_putIf rF (rE j oj rF ql rq tr) (λcs b=>AAM i oi cs b hi) (λcs b=>AAM j oj cs b rF) hQ hy h1);have rm:∀k,(oS.setIfInBounds j true).getD k true=false->oS.getD k true=false:=λk qo=>by
    by_cases hjk:j=k
    ·subst hjk;exact rq
    ·rw[nD true hjk]at qo;exact qo
   refine wpOp_mono (λa' w' h3=>⟨h3.2.2.1,ih (oS.setIfInBounds j true) a' w' (λk ok hk xE qo yy=>rE k ok hk xE (rm k qo) yy) (λk hk=>?_) (λk ok hk xE qo hw=>wm k ok hk xE (rm k qo) hw) (mS hr (lK ql)) h3.2.1 h3.1 h3.2.2.1 ?_⟩) h2
   ·rw[nD true (λe=>by subst e;rw[hk]at vY;cases vY)];exact wY k hk
   ·rw[mY _ _ ql];exact h3.2.2.2
theorem VH:∀(fuel:Nat) (oS:Array Bool) (a:Act) (w:World),wpAny P md ops Q fuel oS a w->wpAnyH P md ops Q (λ_=>True) fuel oS a w
 | 0,_,_,_,h=>h
 | fuel+1,_,_,_,h=>⟨h.1,λi hi=>wpOp_mono (λa' w' h'=>⟨jf,VH fuel _ a' w' h'⟩) (h.2 i hi)⟩
def waiters (ops:Array Oper)(i:Nat):List Bool:=
 ops.toList.foldl (λacc o=>acc++[o.after.any λe=>Region.binds .any e&&(Nat.beq e.on i || acc.getD e.on false)]) []
def bV (ops:Array Oper)(oS:Array Bool)(i:Nat):Bool:=
 let wt:=waiters ops i
 (List.range ops.size).all λj=>match ops[j]? with
  | none=>true
  | some o=>(bif wt.getD j false then !oS.getD j true&&o.after.any (λe=>Region.binds .any e&&(Nat.beq e.on i || wt.getD e.on false)) else true)&&(Nat.beq j i || oS.getD j true || wt.getD j false || SP o)
def MK (ops:Array Oper)(oS:Array Bool)(i n:Nat)(d:Option Tmp):Bool:=
 Region.noSelect ops&&Region.free .any ops oS i&&(Region.ready .any ops oS).contains i&&DC n d&&Nat.beq (waiters ops i).length ops.size&&bV ops oS i
theorem Qg {i:Nat}{oi:Oper}{v:Value}{fuel n:Nat}{oS:Array Bool}{a:Act}{w:World}(hi:ops[i]?=some oi)(hc:MK ops oS i n oi.dst=true)
  (hQ :∀c a w,Q (.panic c) (a.put oi.dst v) w->Q (.panic c) a w) (hy:YieldsIf P ops (Grow w) oi v a) (hS:S w)
  (h:wpAnyH P .any ops Q S fuel (oS.setIfInBounds i true) (a.put oi.dst v) w):wpAnyH P .any ops Q S (fuel+1) oS a w:=by
 unfold MK at hc;simp only[kF]at hc;obtain⟨⟨⟨⟨⟨c1,c2⟩,c3⟩,_⟩,c5⟩,c6⟩:=hc;have c5:=lZ c5;unfold bV at c6;have c6:=λ(j:Nat) (o:Oper) (ho:ops[j]?=some o)=>by
  have:=jq.1 c6 j (lp.2 (kR.1 ho).1);rw[ho]at this;simpa only[kF] using this
 have pG:∀j,(waiters ops i).getD j false=true->∃o,ops[j]?=some o:=λj hj=>by
  rcases la j ops.size with h'|h'
  ·exact⟨_,lA h'⟩
  ·rw[ll,kq (by omega)]at hj;cases hj
 refine XQ (wt:=λj=>(waiters ops i).getD j false) hi (Region.noSelect_spec c1) hQ ?_ fuel oS a w (nb hi c2) ?_ ?_ (by simpa using c3) hy (.refl w) hS h
 ·intro j oj hj hw;have:=(c6 j oj hj).1;rw[hw,cond_true,kF]at this;obtain⟨e,he,h2⟩:=Array.any_eq_true'.1 this.2;simp only[kF,Bool.or_eq_true]at h2;exact⟨e,he,h2.1,h2.2.imp lZ id⟩
 ·intro j hw;obtain⟨oj,hj⟩:=pG j hw;have:=(c6 j oj hj).1;rw[hw,cond_true,kF]at this;simpa using this.1
 ·intro j oj hj ql qo hw;have:=(c6 j oj hj).2;rw[qo,hw]at this;simpa [ql] using this
end
def Pp (P:Program)(s:St)(o:Oper)(v:AV):Prop:=
 o.guard=none/\∀F os a w,Rel F os s a w->∃u,(∀w',Grow w w'->(execOp a.eval o).run P w'=.ok (.value u) w')/\Ae F w os v u
section
variable {P : Program} {s : St} {o : Oper} {v : AV} {n : Nat} {e : Nat -> AV} {st : List Row} {t : Tmp} {ty : TypeId} {ps : String} {ed : Array Edge} {x : Operand}
theorem P1.G (h:P1 P s o v):Pp P s o v:=⟨h.1,λF os a w hr=>let ⟨u,h1,h2⟩:=h.2 F os a w hr;⟨u,λw' g=>h1 w' (λb hb=>g.2 b (hr.FR b hb)),h2⟩⟩
theorem SN (hq:AQ P s o.op v)(hg:o.guard=none)(hs :∀ρ,Still P (execOp ρ o)):OW P s o v:=
 ⟨hg,λF os a w hr=>by
  obtain⟨x,u,rfl,h1,h2⟩:=Qt hr (hq (·=v) rfl);exact⟨u,(hs _ w _ _ h1).2,h2⟩⟩
theorem U5 {F:Nat->Prop}{os:List Own}{a:Act}{w:World}{id g i off:Nat}{el:TypeId}{size:Nat}{xs:List (List AV)}{cs:List AV}(hr:Rel F os ⟨n,e,st⟩ a w)(h:St.ev ⟨n,e,st⟩ x=.ptr id g i off)(oY:st[id]?=some ⟨g,el,size,xs⟩)(hi:xs[i]?=some cs):
  ∃b,a.eval x=.pointer (some ⟨b,i*size+off,none⟩)/\b<w.heap.size/\∀j c,cs[j]?=some c->∃u,w.cell? ⟨b,i*size+j,none⟩=some u/\Ae F w os c u:=by
 have h1:=hr.ev x;rw[h]at h1;simp only[Ae]at h1;obtain⟨o,ho,_,_,h2⟩:=h1;have pI:os.map Own.row=st:=hr.st;have hg:o.row=⟨g,el,size,xs⟩:=by
  rw[<- pI,ji,ho]at oY;simpa using oY
 rw[hg]at h2;obtain⟨_,_,b,hb,hv⟩:=h2 rfl;obtain⟨_,cur,h3,_,_,_,h6⟩:=(hr.rows id o ho).some b hb;rw[hg]at h3 h6;refine⟨b,hv,(kR.1 h3).1,λj c hc=>?_⟩;obtain⟨u,h7,h8⟩:=h6 i cs hi j c hc;exact⟨u,by simp only[World.cell?,h3];exact h7,h8⟩
theorem ZW {id g i off sz:Nat}{tt el:TypeId}{size:Nat}{xs:List (List AV)}{cs:List AV}{c:AV}(xO:D7 P tt=some (false,sz))(h:St.ev ⟨n,e,st⟩ x=.ptr id g i off)(oY:st[id]?=some ⟨g,el,size,xs⟩)(hi:xs[i]?=some cs)(hc:cs[off]?=some c):Pp P ⟨n,e,st⟩ ⟨some t,.load tt x,ty,ps,ed,none⟩ c:=
 ⟨rfl,λF os a w hr=>by
  obtain⟨b,e2,hb,qk⟩:=U5 hr h oY hi;obtain⟨d,i',hud,rD,e1,e3⟩:=I5 xO;obtain⟨u,hu1,qz⟩:=qk off c hc;refine⟨u,λw' xP=>?_,qz⟩;have rR:=Kf (w:=w') hud;rw[<- e1]at rR;have pb:w'.cell? ⟨b,i*size+off,none⟩=some u:=by rw[<- hu1];exact mF (xP.2 b hb)
  simp[execOp,e2,Instr.loadAt,Instr.sureAddr,loadVar,rR,pb]⟩
theorem Yb {id g i off sz:Nat}{tt el:TypeId}{size:Nat}{xs:List (List AV)}{cs:List AV}(xO:D7 P tt=some (true,sz))(h:St.ev ⟨n,e,st⟩ x=.ptr id g i off)(oY:st[id]?=some ⟨g,el,size,xs⟩)(hi:xs[i]?=some cs)(hl:off+sz<=cs.length):Pp P ⟨n,e,st⟩ ⟨some t,.load tt x,ty,ps,ed,none⟩ (.agg ((cs.drop off).take sz)):=
 ⟨rfl,λF os a w hr=>by
  obtain⟨b,e2,hb,hx⟩:=U5 hr h oY hi;obtain⟨d,i',hud,rD,e1,e3⟩:=I5 xO;have yX:∃f:Nat->Value,∀j,j<sz->w.cell? ((⟨b,i*size+off,none⟩:Addr).add j)=some (f j)/\∀c,cs[off+j]?=some c->Ae F w os c (f j):=
   ⟨λj=>(w.cell? ((⟨b,i*size+off,none⟩:Addr).add j)).getD undef,λj hj=>by
    have pG:off+j<cs.length:=by omega
    obtain⟨u,hu1,qz⟩:=hx (off+j) cs[off+j] (jl pG);have xQ:w.cell? ((⟨b,i*size+off,none⟩:Addr).add j)=some u:=by rw[DI,<- hu1,lS]
    simp only[xQ,lg];refine⟨jf,λc hc=>?_⟩;rw[jl pG,jh]at hc;exact hc▸qz⟩
  obtain⟨f,hf⟩:=yX;refine⟨.agg ((List.range sz).map f).toArray,λw' xP=>?_,?_⟩
  ·have rR:=Kf (w:=w') hud;rw[<- e1]at rR;have pL:(sizeOf tt).run P w'=.ok i'.size w':=by simp[sizeOf,typeInfo,rD]
   have vW:=run_loadCells (P:=P) w' ⟨b,i*size+off,none⟩ sz f (λj hj=>by
    rw[<- (hf j hj).1,DI];exact mF (xP.2 b hb))
   simp only at e3;simp[execOp,e2,Instr.loadAt,Instr.sureAddr,loadVar,rR,pL,<- e3,vW]
  ·simp only[Ae];refine⟨_,rfl,DZ (by simp;omega) λj c u hc hu=>?_⟩;simp only[kL,kW]at hc;split at hc
   ·rename_i hj;simp only[ji,lN hj,kb,jh]at hu;subst hu;exact (hf j hj).2 c hc
   ·cases hc⟩
def hE (T:KZ P)(s:St):Op->Option AV
 | .move x=>fo (s.ev x)
 | .assign x=>fo (s.ev x)
 | .fieldAddr t x f=>match s.ev x with
  | .Bh cs off=>(ND T.f t f).bind λj=>some (.Bh cs (off+j))
  | .ptr id g i off=>(ND T.f t f).bind λj=>XH g s.st[id]? λr=>bif Nat.ble (off+j) r.size then some (.ptr id g i (off+j)) else none
  | _=>none
 | .load t x=>Vw T s t (s.ev x)
 | _=>none
def Zn:Op->Bool
 | .load ..=>false
 | _=>true
theorem gC {T:KZ P}{op:Op}(h:hE T ⟨n,e,st⟩ op=some v):(Zn op=true/\OW P ⟨n,e,st⟩ ⟨some t,op,ty,ps,ed,none⟩ v)∨(Zn op=false/\Pp P ⟨n,e,st⟩ ⟨some t,op,ty,ps,ed,none⟩ v):=by
 unfold hE at h;split at h
 ·exact .inl ⟨rfl,Ia (OS h)⟩
 ·exact .inl ⟨rfl,cj (OS h)⟩
 ·split at h
  ·rename_i hx;obtain⟨j,h1,h2⟩:=kU.1 h;cases h2;exact .inl ⟨rfl,Md (Ps h1) hx rfl⟩
  ·rename_i hx;obtain⟨j,h1,h2⟩:=kU.1 h;obtain⟨el,size,xs,hr,h2⟩:=L8 h2;simp only at h2;cases hb:Nat.ble (_+j) size with
   | false=>rw[hb]at h2;cases h2
   | true=>rw[hb]at h2;cases h2;exact .inl ⟨rfl,Jz (Ps h1) hx hr (lr hb) rfl⟩
  ·cases h
 ·refine .inr ⟨rfl,?_⟩;unfold Vw at h;split at h
  ·rename_i hx;obtain⟨⟨b,sz⟩,h1,h2⟩:=kU.1 h;rcases Ky h2 with ⟨hb,h3⟩|⟨hb,h3,rfl⟩<;>simp only at hb<;>subst hb
   ·exact (OV (J8 h1) hx h3).G
   ·exact (TW (J8 h1) hx h3 rfl).G
  ·rename_i hx;obtain⟨el,size,xs,hr,h⟩:=L8 h;obtain⟨cs,hi,h⟩:=kU.1 h;obtain⟨⟨b,sz⟩,h1,h2⟩:=kU.1 h;rcases Ky h2 with ⟨hb,h3⟩|⟨hb,h3,rfl⟩<;>simp only at hb<;>subst hb
   ·exact ZW (J8 h1) hx hr hi h3
   ·exact Yb (J8 h1) hx hr hi h3
  ·cases h
 ·cases h
def UT (P:Program):Op->Bool
 | .indexAddr ..=>true
 | .call ⟨.builtin .len,xs,ts⟩=>match xs.toList,ts.toList with
  | [_],[t]=>DT P t
  | _,_=>false
 | _=>false
theorem Ui {op:Op}(h:UT P op=true)(ρ:Operand->Value):Still P (execOp ρ ⟨some t,op,ty,ps,ed,none⟩):=by
 unfold UT at h;split at h
 ·exact Still.bind (.indexAt _ _ _) λ_=>.pure _
 ·rename_i xs ts;split at h
  ·rename_i x t' h1 h2;obtain rfl:xs=#[x]:=by rw[<- mQ (xs:=xs),h1]
   obtain rfl:ts=#[t']:=by rw[<- mQ (xs:=ts),h2]
   exact Still.bind (m:=Builtin.len_ #[t'] ty (#[x].map ρ)) (by simpa using Still.len h) λ_=>.pure _
  ·cases h
 ·cases h
end
def Y1 (ops:Array Oper)(oS:Array Bool)(i n:Nat)(d:Option Tmp):Bool:=
 Region.noSelect ops&&Region.free .any ops oS i&&(Region.ready .any ops oS).contains i&&DC n d
def bL (ops:Array Oper)(oS:Array Bool)(i n:Nat)(d:Option Tmp)(op:Op):Bool:=
 bif Zn op then Y1 ops oS i n d else MK ops oS i n d
section
variable {P : Program} {k : Nat} {ops : Array Oper} {Q : Exit -> St -> Prop} {N f : Nat} {oS : Array Bool} {s : St} {o : Oper} {v : AV} {n : Nat} {e : Nat -> AV} {st : List Row} {t : Tmp} {op : Op} {ty : TypeId} {ps : String} {ed : Array Edge}
theorem NA {K:Prop}{i:Nat}{d:Option Tmp}(hc:Y1 ops oS i n d=true)(h:Region.noSelect ops=true->Region.free .any ops oS i=true->(Region.ready .any ops oS).contains i=true->DC n d=true->K):K:=by
 unfold Y1 at hc;simp only[kF]at hc;exact h hc.1.1.1 hc.1.1.2 hc.1.2 hc.2
theorem AX.calm (i:Nat)(hn:s.n=N)(ho:ops[i]?=some o)(hc:MK ops oS i N o.dst=true)(hh:Pp P s o v)(h:AX P k ops Q N f (oS.setIfInBounds i true) (s.put o.dst v)):AX P k ops Q N (f+1) oS s:=
 ⟨hn,λF0 os0 w0 F os a w hrel he=>by
  obtain⟨hg,hh⟩:=hh;obtain⟨u,hu,hv⟩:=hh F os a w hrel;have hd:DC s.n o.dst=true:=by
   unfold MK at hc;simp only[kF]at hc;rw[hn];exact hc.1.1.2
  exact wpAny_of_held (S:=λ_=>True) _ _ _ _ (Qg ho hc (λc a w ⟨_,_,_,hp,_⟩=>nomatch hp.1) (.inl ⟨by unfold Region.wanted;rw[hg],hu⟩) jf (VH _ _ _ _ (h.2 F0 os0 w0 F os _ w (hrel.put hd hv) he)))⟩
theorem AY.calm (i:Nat)(hn:s.n=N)(ho:ops[i]?=some o)(hc:MK ops oS i N o.dst=true)(hh:Pp P s o v)(h:AY P k ops Q N f (oS.setIfInBounds i true) (s.put o.dst v)):AY P k ops Q N (f+1) oS s:=
 ⟨hn,λF0 os0 w0 F os a w hrel he=>by
  obtain⟨hg,hh⟩:=hh;obtain⟨u,hu,hv⟩:=hh F os a w hrel;have hd:DC s.n o.dst=true:=by
   unfold MK at hc;simp only[kF]at hc;rw[hn];exact hc.1.1.2
  exact Qg ho hc (λc a w ⟨_,_,_,hp,_⟩=>nomatch hp.1) (.inl ⟨by unfold Region.wanted;rw[hg],hu⟩) he.IJ (h.2 F0 os0 w0 F os _ w (hrel.put hd hv) he)⟩
theorem BX (T:KZ P)(i:Nat)(ho:ops[i]?=some ⟨some t,op,ty,ps,ed,none⟩)(hc:bL ops oS i n (some t) op=true)(h:hE T ⟨n,e,st⟩ op=some v)(hk:AX P k ops Q n f (oS.setIfInBounds i true) ⟨n,EC e t v,st⟩):AX P k ops Q n (f+1) oS ⟨n,e,st⟩:=by
 unfold bL at hc;rcases gC (t:=t) (ty:=ty) (ps:=ps) (ed:=ed) h with ⟨hp,hh⟩|⟨hp,hh⟩
 ·rw[hp]at hc;exact NA hc λa b c d=>LG i rfl ho a b c d hh hk
 ·rw[hp]at hc;exact AX.calm i rfl ho hc hh hk
theorem Hv (T:KZ P)(i:Nat)(ho:ops[i]?=some ⟨some t,op,ty,ps,ed,none⟩)(hc:bL ops oS i n (some t) op=true)(h:hE T ⟨n,e,st⟩ op=some v)(hk:AY P k ops Q n f (oS.setIfInBounds i true) ⟨n,EC e t v,st⟩):AY P k ops Q n (f+1) oS ⟨n,e,st⟩:=by
 unfold bL at hc;rcases gC (t:=t) (ty:=ty) (ps:=ps) (ed:=ed) h with ⟨hp,hh⟩|⟨hp,hh⟩
 ·rw[hp]at hc;exact NA hc λa b c d=>TR i rfl ho a b c d hh hk
 ·rw[hp]at hc;exact AY.calm i rfl ho hc hh hk
theorem Hl (i:Nat)(ho:ops[i]?=some ⟨some t,op,ty,ps,ed,none⟩)(hc:Y1 ops oS i n (some t)=true)(hs:UT P op=true)(h:AQ P ⟨n,e,st⟩ op v)(hk:AX P k ops Q n f (oS.setIfInBounds i true) ⟨n,EC e t v,st⟩):AX P k ops Q n (f+1) oS ⟨n,e,st⟩:=
 NA hc λa b c d=>LG i rfl ho a b c d (SN h rfl λρ=>Ui hs ρ) hk
theorem IM (i:Nat)(ho:ops[i]?=some ⟨some t,op,ty,ps,ed,none⟩)(hc:Y1 ops oS i n (some t)=true)(hs:UT P op=true)(h:AQ P ⟨n,e,st⟩ op v)(hk:AY P k ops Q n f (oS.setIfInBounds i true) ⟨n,EC e t v,st⟩):AY P k ops Q n (f+1) oS ⟨n,e,st⟩:=
 NA hc λa b c d=>TR i rfl ho a b c d (SN h rfl λρ=>Ui hs ρ) hk
end
end Go.Abs
