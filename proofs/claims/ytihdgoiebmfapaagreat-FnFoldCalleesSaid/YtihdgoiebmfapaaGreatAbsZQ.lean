import Derived.Test.YtihdgoiebmfapaaGreatGAbsXToAbsZN
import Derived.Test.YtihdgoiebmfapaaGreatAbsQ
set_option linter.all false
namespace Go.Abs
open Go
def Grow (w w':World):Prop:=w.heap.size<=w'.heap.size/\∀b,b<w.heap.size->w'.heap[b]?=w.heap[b]?
theorem Grow.refl (w:World):Grow w w:=⟨ll _,λ_ _=>rfl⟩
theorem Grow.trans {w1 w2 w3:World}(h:Grow w1 w2)(g:Grow w2 w3):Grow w1 w3:=⟨nx h.1 g.1,λb hb=>(g.2 b (ma hb h.1)).trans (h.2 b hb)⟩
def Cr {α:Type}(m:Sem α):Prop:=∀P w v w',m.run P w=.ok v w'->Grow w w'
theorem Cr.pure {α:Type}(a:α):Cr (pure a:Sem α):=λ_ w _ _ h=>by cases h;exact Grow.refl w
theorem Cr.halt {α:Type}(h:Halt):Cr (.halt h:Sem α):=λ_ _ _ _ h=>by cases h
theorem Cr.bind {α β:Type}{m:Sem α}{f:α->Sem β}(hm:Cr m)(hf :∀a,Cr (f a)):Cr (m >>= f):=λP w v w' h=>by
 rw[mW]at h;cases hr:m.run P w with
 | ok a w2=>rw[hr]at h;exact (hm P w a w2 hr).trans (hf a P w2 v w' h)
 | halt x w2=>rw[hr]at h;cases h
theorem Cr.load (a:Addr):Cr (Go.load a):=λP w v w' h=>by
 unfold Go.load at h;simp only[Sem.run]at h;split at h
 ·cases h;exact Grow.refl w
 ·split at h
  ·cases h;exact Grow.refl w
  ·cases h
theorem Cr.program:Cr Go.program:=λP w v w' h=>by cases h;exact Grow.refl w
theorem Cr.shape (r:Nat):Cr (Go.shape r):=λP w v w' h=>by cases h;exact Grow.refl w
theorem Cr.newObj (o:Obj):Cr (Go.newObj o):=λP w v w' h=>by
 cases h;exact⟨by simp,λb hb=>by simp[Array.getElem?_push,Nat.ne_of_lt hb]⟩
theorem Cr.choose (q:Question):Cr (Go.choose q):=λP w v w' h=>by
 unfold Go.choose at h;simp only[Sem.run]at h;split at h<;>cases h<;>exact Grow.refl w
theorem Cr.typeInfo (t:TypeId):Cr (Go.typeInfo t):=.bind .program λp=>by split;exact .pure _;exact .halt _
theorem Cr.underlying (t:TypeId):Cr (Go.underlying t):=.bind .program λp=>by split;exact .pure _;exact .halt _
theorem Cr.sizeOf (t:TypeId):Cr (Go.sizeOf t):=.bind (.typeInfo t) λ_=>.pure _
theorem Cr.zeroValue (t:TypeId):Cr (Go.zeroValue t):=.bind (.typeInfo t) λ_=>by split;exact .pure _;exact .halt _
theorem Cr.isAgg (t:TypeId):Cr (Go.isAgg t):=.bind (.underlying t) λ_=>by split<;>exact .pure _
theorem Cr.loadCellsFrom (a:Addr):∀(n i:Nat) (acc:Array Value),Cr (Go.loadCellsFrom a i n acc)
 | 0,_,_=>.pure _
 | n+1,i,acc=>.bind (.load _) λv=>Cr.loadCellsFrom a n (i+1) (acc.push v)
theorem Cr.loadVar (t:TypeId)(a:Addr):Cr (Go.loadVar t a):=.bind (.isAgg t) λb=>by
 split
 ·exact .bind (.sizeOf t) λn=>.bind (.loadCellsFrom a n 0 _) λ_=>.pure _
 ·exact .load a
theorem Cr.sureAddr (v:Value):Cr (Instr.sureAddr v):=by unfold Instr.sureAddr;split;exact .pure _;exact .halt _
theorem Cr.loadAt (t:TypeId)(v:Value):Cr (Instr.loadAt t v):=.bind (.sureAddr v) λa=>.loadVar t a
theorem Cr.getObj (r:Nat):Cr (Go.getObj r):=λP w v w' h=>by
 unfold Go.getObj at h;simp only[Sem.run]at h;split at h
 ·cases h
 ·cases h;exact Grow.refl w
 ·cases h
theorem Cr.viewAt (r:Nat):Cr (Go.viewAt r):=by
 unfold Go.viewAt;refine .bind (.shape r) λs=>?_
 repeat' first|exact .pure _|exact .halt _|exact .bind (.getObj r) (λo=>by split<;>exact .pure _)|split
theorem Cr.noView (a:Addr):Cr (Go.noView a):=by
 unfold Go.noView;refine .bind (.viewAt _) λs=>?_;split
 ·exact .halt _
 ·exact .pure _
theorem Cr.byteOf (a:Addr):Cr (Go.byteOf a):=by
 unfold Go.byteOf;dsimp only;split
 ·exact .pure _
 ·refine .bind .program λp=>.bind (.noView a) λ_=>.bind (.shape _) λs=>?_
  repeat' first|exact .pure _|exact .halt _|split
theorem Cr.fieldPlace (a:Addr)(f:Field):Cr (fieldPlace a f):=.bind (.sizeOf _) λn=>by
 split
 ·exact .bind (.byteOf _) λ_=>.bind (.byteOf _) λ_=>.pure _
 ·exact .pure _
theorem Cr.fieldAt (s:TypeId)(v:Value)(f:Nat):Cr (Instr.fieldAt s v f):=by
 unfold Instr.fieldAt;refine .bind (.underlying s) λd=>?_;split
 ·split
  ·exact .bind (.sureAddr v) λa=>.bind (.fieldPlace a _) λ_=>.pure _
  ·exact .halt _
 ·exact .halt _
theorem Cr.asIntOf (v:Value):Cr (Go.asIntOf v):=by
 unfold Go.asIntOf;split
 ·exact .pure _
 ·exact .halt _
 ·exact .halt _
theorem Cr.Ps {α:Type}(x y:Int)(s:Bool)(c:BoundsCode):Cr (runtimePanic (.bounds x y s c):Sem α):=.bind .program λ_=>.halt _
theorem Cr.boundsPanic {α:Type}(k:IntKind)(x y:Int)(c:BoundsCode):Cr (Go.boundsPanic k x y c:Sem α):=by
 unfold Go.boundsPanic;dsimp only;split
 ·exact Cr.bind (Cr.bind (.choose _) λ_=>.pure _) λ_=>.Ps _ _ _ _
 ·exact Cr.bind (.pure _) λ_=>.Ps _ _ _ _
theorem Cr.indexAt (t:TypeId)(x i:Value):Cr (Instr.indexAt t x i):=by
 unfold Instr.indexAt;dsimp only;refine .bind (.asIntOf i) λki=>.bind (.underlying t) λd=>?_
 repeat' first|exact .pure _|exact .halt _|exact .boundsPanic _ _ _ _|exact .sureAddr _|exact .underlying _|exact .sizeOf _|(refine .bind ?_ λ_=>?_)|split
theorem Cr.newVar (t:TypeId)(v:Value):Cr (Go.newVar t v):=.bind (.newObj _) λ_=>.pure _
theorem Cr.alloc (t:TypeId):Cr (Instr.alloc t true (.tuple #[])):=.bind (.zeroValue t) λz=>.bind (.newVar t z) λ_=>.pure _
theorem Cr.box (t:TypeId)(v:Value):Cr (Instr.box t v):=.bind (.newVar t v) λ_=>.pure _
theorem Cr.buildSlice (t:TypeId)(n:Nat)(ps:Array (Nat×Value)):Cr (Instr.buildSlice t n ps):=by
 unfold Instr.buildSlice;dsimp only
 repeat' first|exact .pure _|exact .halt _|exact .underlying _|exact .sizeOf _|exact .zeroValue _|exact .newObj _|(refine .bind ?_ λ_=>?_)|split
def Still (P:Program){α:Type}(m:Sem α):Prop:=∀w v w1,m.run P w=.ok v w1->w1=w/\∀w',m.run P w'=.ok v w'
section
variable {P : Program}
theorem Still.pure {α:Type}(a:α):Still P (pure a:Sem α):=λw _ _ h=>by cases h;exact⟨rfl,λ_=>rfl⟩
theorem Still.halt {α:Type}(h:Halt):Still P (.halt h:Sem α):=λ_ _ _ h=>by cases h
theorem Still.never {α:Type}{m:Sem α}(h :∀w v w1,m.run P w≠.ok v w1):Still P m:=λw v w1 e=>absurd e (h w v w1)
theorem Still.bind {α β:Type}{m:Sem α}{f:α->Sem β}(hm:Still P m)(hf :∀a,Still P (f a)):Still P (m >>= f):=λw v w1 h=>by
 rw[mW]at h;cases hr:m.run P w with
 | ok a w2=>
  rw[hr]at h;obtain⟨rfl,h1⟩:=hm w a w2 hr;obtain⟨rfl,h2⟩:=hf a w2 v w1 h;exact⟨rfl,λw'=>by rw[mW,h1 w'];exact h2 w'⟩
 | halt x w2=>rw[hr]at h;cases h
theorem Still.program:Still P Go.program:=λw v w1 h=>by cases h;exact⟨rfl,λ_=>rfl⟩
theorem Still.typeInfo (t:TypeId):Still P (Go.typeInfo t):=.bind .program λp=>by split;exact .pure _;exact .halt _
theorem Still.underlying (t:TypeId):Still P (Go.underlying t):=.bind .program λp=>by split;exact .pure _;exact .halt _
theorem Still.sizeOf (t:TypeId):Still P (Go.sizeOf t):=.bind (.typeInfo t) λ_=>.pure _
theorem Still.sureAddr (v:Value):Still P (Instr.sureAddr v):=by unfold Instr.sureAddr;split;exact .pure _;exact .halt _
theorem Still.asIntOf (v:Value):Still P (Go.asIntOf v):=by
 unfold Go.asIntOf;split
 ·exact .pure _
 ·exact .halt _
 ·exact .halt _
theorem Still.boundsPanic {α:Type}(k:IntKind)(x y:Int)(c:BoundsCode):Still P (Go.boundsPanic k x y c:Sem α):=.never λw v w1 h=>by
 unfold Go.boundsPanic at h;dsimp only at h;have hn:∀(s:Bool) w2,(runtimePanic (.bounds (IntKind.i64.wrap x) y s c):Sem α).run P w2≠.ok v w1:=λs w2 h=>by
  unfold runtimePanic at h;rw[mW]at h;cases h
 split at h
 ·rw[mW]at h;generalize ((λx=>x==1) <$> Go.choose (Question.extern "runtime.boundsError.signed" 2)).run P w=r at h;cases r with
  | ok a w2=>exact hn _ _ h
  | halt=>cases h
 ·exact hn _ _ h
theorem Still.indexAt (t:TypeId)(x i:Value):Still P (Instr.indexAt t x i):=by
 unfold Instr.indexAt;dsimp only;refine .bind (.asIntOf i) λki=>.bind (.underlying t) λd=>?_
 repeat' first|exact .pure _|exact .halt _|exact .boundsPanic _ _ _ _|exact .sureAddr _|exact .underlying _|exact .sizeOf _|(refine .bind ?_ λ_=>?_)|split
theorem Still.len {t ty:TypeId}{x:Value}(ht:DW P t=true):Still P (Builtin.len_ #[t] ty #[x]):=λw v w1 h=>by
 unfold DW at ht;split at ht
 ·rename_i e he;have hr:∀w',(Builtin.len_ #[t] ty #[x]).run P w'=(match x with|.slice _ n _=>.ok (goInt n) w'|_=>.halt (.stuck "len: string, array, pointer to array, slice, map or channel expected") w'):=λw'=>by
   unfold Builtin.len_;simp only[oK,mI,mW,me he,mT];cases x<;>rfl
  rw[hr]at h;cases x<;>simp at h;obtain⟨rfl,rfl⟩:=h;exact⟨rfl,λw'=>hr w'⟩
 ·cases ht
end
def Sp (o:Oper):Bool:=match o.op with
 | .move _|.assign _|.load ..|.fieldAddr ..|.indexAddr ..|.alloc _|.box ..|.buildSlice ..=>true
 | .call ⟨.builtin .len,_,_⟩=>true
 | _=>false
theorem LH {P:Program}{m:Sem Value}{w w':World}{n:Next}(hm:Cr m)(h:(do pure (Next.value (← m)):Sem Next).run P w=.ok n w'):(∃u,n=.value u)/\Grow w w':=by
 rw[mW]at h;cases hr:m.run P w with
 | ok a w2=>rw[hr]at h;cases h;exact⟨⟨_,rfl⟩,hm P w _ _ hr⟩
 | halt x w2=>rw[hr]at h;cases h
theorem Cr.len (ts:Array TypeId)(ty:TypeId)(xs:Array Value):Cr (Builtin.len_ ts ty xs):=by
 unfold Builtin.len_
 repeat' first|exact .pure _|exact .halt _|exact .underlying _|exact .getObj _|(refine .bind ?_ λ_=>?_)|split
theorem aJ {P:Program}{o:Oper}{ρ:Operand->Value}{w w':World}{n:Next}(h:Sp o=true)(hr:(execOp ρ o).run P w=.ok n w'):(∃u,n=.value u)/\Grow w w':=by
 unfold Sp at h;unfold execOp at hr;split at h<;>rename_i ho<;>try (cases h;done)
 all_goals rw[ho]at hr
 ·cases hr;exact⟨⟨_,rfl⟩,.refl _⟩
 ·cases hr;exact⟨⟨_,rfl⟩,.refl _⟩
 ·exact LH (.loadAt _ _) hr
 ·exact LH (.fieldAt _ _ _) hr
 ·exact LH (.indexAt _ _ _) hr
 ·exact LH (.alloc _) hr
 ·exact LH (.box _ _) hr
 ·exact LH (.buildSlice _ _ _) hr
 ·exact LH (.len _ _ _) hr
section
variable {P : Program} {ops : Array Oper} {Q : Exit -> Act -> World -> Prop} {md : Region.Mode} {S : World -> Prop}
theorem cF {i:Nat}{o:Oper}{K:Act->World->Prop}{a:Act}{w0 w:World}(hi:ops[i]?=some o)(ht:Sp o=true)(hG:Grow w0 w)(h:wpOp P ops Q i K a w):wpOp P ops Q i (λa' w'=>Grow w0 w'/\K a' w') a w:=by
 unfold wpOp at *;simp only[hi] at *;split
 ·rename_i hw;rw[ld hw]at h;refine h.imp (λh=>?_) id;unfold Oper.wp at *;cases hr:(execOp a.eval o).run P w with
  | ok n w'=>
   obtain⟨⟨u,rfl⟩,g⟩:=aJ ht hr;rw[hr]at h;simp only[Oper.upon]at h⊢;exact⟨hG.trans g,h⟩
  | halt x w'=>
   rw[hr]at h;cases x<;>simp only[Oper.upon]at h⊢;exact h
 ·rename_i hw;rw[la hw]at h;exact⟨hG,h⟩
theorem Yj {i:Nat}{oi:Oper}{v:Value}{w0:World}{wt:Nat->Bool}(hi:ops[i]?=some oi)(hsel :∀(j:Nat) (o:Oper) cs b,ops[j]?=some o->o.op≠.select cs b)
  (hQ :∀c a w,Q (.panic c) (a.put oi.dst v) w->Q (.panic c) a w)
  (vK :∀j oj,ops[j]?=some oj->wt j=true->∃e∈oj.after,Region.binds md e=true/\(e.on=i∨wt e.on=true)) :
  ∀(fuel:Nat) (qW:Array Bool) (a:Act) (w:World),
   (∀j oj,ops[j]?=some oj->j≠i->qW.getD j true=false->(∀e∈oj.after,Region.binds md e=true->e.on≠i)->oi.apart ops oj=true)->
   (∀j,wt j=true->qW.getD j true=false)->
   (∀j oj,ops[j]?=some oj->j≠i->qW.getD j true=false->wt j=false->Sp oj=true)->
   i∈Region.ready md ops qW->YieldsIf P ops (Grow w0) oi v a->Grow w0 w->S w->
   wpAnyH P md ops Q S fuel (qW.setIfInBounds i true) (a.put oi.dst v) w->wpAnyH P md ops Q S (fuel+1) qW a w:=by
 intro fuel
 induction fuel with
 | zero=>
  intro qW a w _ _ _ hr hy hG hS H;refine⟨λh=>(by rw[h]at hr;cases hr),λj hj=>?_⟩;by_cases sb:j=i
  ·subst sb;exact hy.wpOp hi hG ⟨hS,H⟩
  ·have:=oP hj sb;rw[H.1]at this;cases this
 | succ fuel ih=>
  intro qW a w tE yj yy hr hy hG hS H;refine⟨λh=>(by rw[h]at hr;cases hr),λj hj=>?_⟩;by_cases sb:j=i
  ·subst sb;exact hy.wpOp hi hG ⟨hS,H⟩
  ·have h1:=H.2 j (oP hj sb);obtain⟨tp,oj,tF,rp⟩:=oR.1 hj;have off:∀(k:Nat),qW.getD k true=false->∀e∈oj.after,Region.binds md e=true->e.on≠k:=λk hk e he hb heq=>by
    have h1:=rp e he hb;rw[heq]at h1;rcases nb k qW.size with h'|h'
    ·simp[h']at hk h1;rw[hk]at h1;cases h1
    ·simp[od h']at h1
   have vw:=off i (oR.1 hr).1;have xV:wt j=false:=by
    cases hw:wt j with
    | false=>rfl
    | true=>
     obtain⟨e,he,hb,h|h⟩:=vK j oj tF hw
     ·exact absurd h (vw e he hb)
     ·exact absurd rfl (off e.on (yj _ h) e he hb)
   have h2:=cF tF (yy j oj tF sb tp xV) hG (wpOp_putIf tF (tE j oj tF sb tp vw) (λcs b=>hsel i oi cs b hi) (λcs b=>hsel j oj cs b tF) hQ hy h1);have tl:∀k,(qW.setIfInBounds j true).getD k true=false->qW.getD k true=false:=λk sf=>by
    by_cases hjk:j=k
    ·subst hjk;exact tp
    ·rw[pD true hjk]at sf;exact sf
   refine wpOp_mono (λa' w' h3=>⟨h3.2.2.1,ih (qW.setIfInBounds j true) a' w' (λk ok hk zL sf hno=>tE k ok hk zL (tl k sf) hno) (λk hk=>?_) (λk ok hk zL sf hw=>yy k ok hk zL (tl k sf) hw) (oP hr (nK sb)) h3.2.1 h3.1 h3.2.2.1 ?_⟩) h2
   ·rw[pD true (λe=>by subst e;rw[hk]at xV;cases xV)];exact yj k hk
   ·rw[oU _ _ sb];exact h3.2.2.2
theorem We:∀(fuel:Nat) (qW:Array Bool) (a:Act) (w:World),wpAny P md ops Q fuel qW a w->wpAnyH P md ops Q (λ_=>True) fuel qW a w
 | 0,_,_,_,h=>h
 | fuel+1,_,_,_,h=>⟨h.1,λi hi=>wpOp_mono (λa' w' h'=>⟨lU,We fuel _ a' w' h'⟩) (h.2 i hi)⟩
def waiters (ops:Array Oper)(i:Nat):List Bool:=
 ops.toList.foldl (λacc o=>acc++[o.after.any λe=>Region.binds .any e&&(Nat.beq e.on i || acc.getD e.on false)]) []
def cx (ops:Array Oper)(qW:Array Bool)(i:Nat):Bool:=
 let wt:=waiters ops i
 (List.range ops.size).all λj=>match ops[j]? with
  | none=>true
  | some o=>(bif wt.getD j false then !qW.getD j true&&o.after.any (λe=>Region.binds .any e&&(Nat.beq e.on i || wt.getD e.on false)) else true)&&(Nat.beq j i || qW.getD j true || wt.getD j false || Sp o)
def NA (ops:Array Oper)(qW:Array Bool)(i n:Nat)(d:Option Tmp):Bool:=
 Region.noSelect ops&&Region.free .any ops qW i&&(Region.ready .any ops qW).contains i&&DH n d&&Nat.beq (waiters ops i).length ops.size&&cx ops qW i
theorem RE {i:Nat}{oi:Oper}{v:Value}{fuel n:Nat}{qW:Array Bool}{a:Act}{w:World}(hi:ops[i]?=some oi)(hc:NA ops qW i n oi.dst=true)
  (hQ :∀c a w,Q (.panic c) (a.put oi.dst v) w->Q (.panic c) a w) (hy:YieldsIf P ops (Grow w) oi v a) (hS:S w)
  (h:wpAnyH P .any ops Q S fuel (qW.setIfInBounds i true) (a.put oi.dst v) w):wpAnyH P .any ops Q S (fuel+1) qW a w:=by
 unfold NA at hc;simp only[mE]at hc;obtain⟨⟨⟨⟨⟨c1,c2⟩,c3⟩,_⟩,c5⟩,c6⟩:=hc;have c5:=nZ c5;unfold cx at c6;have c6:=λ(j:Nat) (o:Oper) (ho:ops[j]?=some o)=>by
  have:=lh.1 c6 j (na.2 (mO.1 ho).1);rw[ho]at this;simpa only[mE] using this
 have qw:∀j,(waiters ops i).getD j false=true->∃o,ops[j]?=some o:=λj hj=>by
  rcases nb j ops.size with h'|h'
  ·exact⟨_,mw h'⟩
  ·rw[ni,mV (by omega)]at hj;cases hj
 refine Yj (wt:=λj=>(waiters ops i).getD j false) hi (Region.noSelect_spec c1) hQ ?_ fuel qW a w (pb hi c2) ?_ ?_ (by simpa using c3) hy (.refl w) hS h
 ·intro j oj hj hw;have:=(c6 j oj hj).1;rw[hw,cond_true,mE]at this;obtain⟨e,he,h2⟩:=Array.any_eq_true'.1 this.2;simp only[mE,Bool.or_eq_true]at h2;exact⟨e,he,h2.1,h2.2.imp nZ id⟩
 ·intro j hw;obtain⟨oj,hj⟩:=qw j hw;have:=(c6 j oj hj).1;rw[hw,cond_true,mE]at this;simpa using this.1
 ·intro j oj hj sb sf hw;have:=(c6 j oj hj).2;rw[sf,hw]at this;simpa [sb] using this
end
def QL (P:Program)(s:St)(o:Oper)(v:AV):Prop:=
 o.guard=none/\∀F os a w,Rel F os s a w->∃u,(∀w',Grow w w'->(execOp a.eval o).run P w'=.ok (.value u) w')/\Ae F w os v u
section
variable {P : Program} {s : St} {o : Oper} {v : AV} {n : Nat} {e : Nat -> AV} {st : List Row} {t : Tmp} {ty : TypeId} {ps : String} {ed : Array Edge} {x : Operand}
theorem QT.G (h:QT P s o v):QL P s o v:=⟨h.1,λF os a w hr=>let ⟨u,h1,h2⟩:=h.2 F os a w hr;⟨u,λw' g=>h1 w' (λb hb=>g.2 b (hr.FR b hb)),h2⟩⟩
theorem R8 (hq:AQ P s o.op v)(hg:o.guard=none)(hs :∀ρ,Still P (execOp ρ o)):Oe P s o v:=
 ⟨hg,λF os a w hr=>by
  obtain⟨x,u,rfl,h1,h2⟩:=Rj hr (hq (·=v) rfl);exact⟨u,(hs _ w _ _ h1).2,h2⟩⟩
theorem WE {F:Nat->Prop}{os:List Own}{a:Act}{w:World}{id g i off:Nat}{el:TypeId}{size:Nat}{xs:List (List AV)}{cs:List AV}(hr:Rel F os ⟨n,e,st⟩ a w)(h:St.ev ⟨n,e,st⟩ x=.ptr id g i off)(qc:st[id]?=some ⟨g,el,size,xs⟩)(hi:xs[i]?=some cs):
  ∃b,a.eval x=.pointer (some ⟨b,i*size+off,none⟩)/\b<w.heap.size/\∀j c,cs[j]?=some c->∃u,w.cell? ⟨b,i*size+j,none⟩=some u/\Ae F w os c u:=by
 have h1:=hr.ev x;rw[h]at h1;simp only[Ae]at h1;obtain⟨o,ho,_,_,h2⟩:=h1;have qz:os.map Own.row=st:=hr.st;have hg:o.row=⟨g,el,size,xs⟩:=by
  rw[<- qz,lW,ho]at qc;simpa using qc
 rw[hg]at h2;obtain⟨_,_,b,hb,hv⟩:=h2 rfl;obtain⟨_,cur,h3,_,_,_,h6⟩:=(hr.rows id o ho).some b hb;rw[hg]at h3 h6;refine⟨b,hv,(mO.1 h3).1,λj c hc=>?_⟩;obtain⟨u,h7,h8⟩:=h6 i cs hi j c hc;exact⟨u,by simp only[World.cell?,h3];exact h7,h8⟩
theorem bJ {id g i off sz:Nat}{tt el:TypeId}{size:Nat}{xs:List (List AV)}{cs:List AV}{c:AV}(zV:Dr P tt=some (false,sz))(h:St.ev ⟨n,e,st⟩ x=.ptr id g i off)(qc:st[id]?=some ⟨g,el,size,xs⟩)(hi:xs[i]?=some cs)(hc:cs[off]?=some c):QL P ⟨n,e,st⟩ ⟨some t,.load tt x,ty,ps,ed,none⟩ c:=
 ⟨rfl,λF os a w hr=>by
  obtain⟨b,e2,hb,sa⟩:=WE hr h qc hi;obtain⟨d,i',hud,tD,e1,e3⟩:=JD zV;obtain⟨u,hu1,sw⟩:=sa off c hc;refine⟨u,λw' zW=>?_,sw⟩;have tQ:=K0 (w:=w') hud;rw[<- e1]at tQ;have rS:w'.cell? ⟨b,i*size+off,none⟩=some u:=by rw[<- hu1];exact oB (zW.2 b hb)
  simp[execOp,e2,Instr.loadAt,Instr.sureAddr,loadVar,tQ,rS]⟩
theorem aF {id g i off sz:Nat}{tt el:TypeId}{size:Nat}{xs:List (List AV)}{cs:List AV}(zV:Dr P tt=some (true,sz))(h:St.ev ⟨n,e,st⟩ x=.ptr id g i off)(qc:st[id]?=some ⟨g,el,size,xs⟩)(hi:xs[i]?=some cs)(hl:off+sz<=cs.length):QL P ⟨n,e,st⟩ ⟨some t,.load tt x,ty,ps,ed,none⟩ (.agg ((cs.drop off).take sz)):=
 ⟨rfl,λF os a w hr=>by
  obtain⟨b,e2,hb,hx⟩:=WE hr h qc hi;obtain⟨d,i',hud,tD,e1,e3⟩:=JD zV;have hch:∃f:Nat->Value,∀j,j<sz->w.cell? ((⟨b,i*size+off,none⟩:Addr).add j)=some (f j)/\∀c,cs[off+j]?=some c->Ae F w os c (f j):=
   ⟨λj=>(w.cell? ((⟨b,i*size+off,none⟩:Addr).add j)).getD undef,λj hj=>by
    have qw:off+j<cs.length:=by omega
    obtain⟨u,hu1,sw⟩:=hx (off+j) cs[off+j] (lZ qw);have zX:w.cell? ((⟨b,i*size+off,none⟩:Addr).add j)=some u:=by rw[DK,<- hu1,nS]
    simp only[zX,ng];refine⟨lU,λc hc=>?_⟩;rw[lZ qw,lX]at hc;exact hc▸sw⟩
  obtain⟨f,hf⟩:=hch;refine⟨.agg ((List.range sz).map f).toArray,λw' zW=>?_,?_⟩
  ·have tQ:=K0 (w:=w') hud;rw[<- e1]at tQ;have rC:(sizeOf tt).run P w'=.ok i'.size w':=by simp[sizeOf,typeInfo,tD]
   have xT:=run_loadCells (P:=P) w' ⟨b,i*size+off,none⟩ sz f (λj hj=>by
    rw[<- (hf j hj).1,DK];exact oB (zW.2 b hb))
   simp only at e3;simp[execOp,e2,Instr.loadAt,Instr.sureAddr,loadVar,tQ,rC,<- e3,xT]
  ·simp only[Ae];refine⟨_,rfl,Db (by simp;omega) λj c u hc hu=>?_⟩;simp only[mJ,mU]at hc;split at hc
   ·rename_i hj;simp only[lW,nM hj,mZ,lX]at hu;subst hu;exact (hf j hj).2 c hc
   ·cases hc⟩
def hE (T:Kr P)(s:St):Op->Option AV
 | .move x=>fo (s.ev x)
 | .assign x=>fo (s.ev x)
 | .fieldAddr t x f=>match s.ev x with
  | .Bn cs off=>(Nh T.f t f).bind λj=>some (.Bn cs (off+j))
  | .ptr id g i off=>(Nh T.f t f).bind λj=>X9 g s.st[id]? λr=>bif Nat.ble (off+j) r.size then some (.ptr id g i (off+j)) else none
  | _=>none
 | .load t x=>Vn T s t (s.ev x)
 | _=>none
def cA:Op->Bool
 | .load ..=>false
 | _=>true
theorem jI {T:Kr P}{op:Op}(h:hE T ⟨n,e,st⟩ op=some v):(cA op=true/\Oe P ⟨n,e,st⟩ ⟨some t,op,ty,ps,ed,none⟩ v)∨(cA op=false/\QL P ⟨n,e,st⟩ ⟨some t,op,ty,ps,ed,none⟩ v):=by
 unfold hE at h;split at h
 ·exact .inl ⟨rfl,Iq (Ow h)⟩
 ·exact .inl ⟨rfl,dZ (Ow h)⟩
 ·split at h
  ·rename_i hx;obtain⟨j,h1,h2⟩:=mR.1 h;cases h2;exact .inl ⟨rfl,MW (QP h1) hx rfl⟩
  ·rename_i hx;obtain⟨j,h1,h2⟩:=mR.1 h;obtain⟨el,size,xs,hr,h2⟩:=Mo h2;simp only at h2;cases hb:Nat.ble (_+j) size with
   | false=>rw[hb]at h2;cases h2
   | true=>rw[hb]at h2;cases h2;exact .inl ⟨rfl,KB (QP h1) hx hr (np hb) rfl⟩
  ·cases h
 ·refine .inr ⟨rfl,?_⟩;unfold Vn at h;split at h
  ·rename_i hx;obtain⟨⟨b,sz⟩,h1,h2⟩:=mR.1 h;rcases Lk h2 with ⟨hb,h3⟩|⟨hb,h3,rfl⟩<;>simp only at hb<;>subst hb
   ·exact (Ol (KP h1) hx h3).G
   ·exact (UF (KP h1) hx h3 rfl).G
  ·rename_i hx;obtain⟨el,size,xs,hr,h⟩:=Mo h;obtain⟨cs,hi,h⟩:=mR.1 h;obtain⟨⟨b,sz⟩,h1,h2⟩:=mR.1 h;rcases Lk h2 with ⟨hb,h3⟩|⟨hb,h3,rfl⟩<;>simp only at hb<;>subst hb
   ·exact bJ (KP h1) hx hr hi h3
   ·exact aF (KP h1) hx hr hi h3
  ·cases h
 ·cases h
def VD (P:Program):Op->Bool
 | .indexAddr ..=>true
 | .call ⟨.builtin .len,xs,ts⟩=>match xs.toList,ts.toList with
  | [_],[t]=>DW P t
  | _,_=>false
 | _=>false
theorem Vm {op:Op}(h:VD P op=true)(ρ:Operand->Value):Still P (execOp ρ ⟨some t,op,ty,ps,ed,none⟩):=by
 unfold VD at h;split at h
 ·exact Still.bind (.indexAt _ _ _) λ_=>.pure _
 ·rename_i xs ts;split at h
  ·rename_i x t' h1 h2;obtain rfl:xs=#[x]:=by rw[<- oN (xs:=xs),h1]
   obtain rfl:ts=#[t']:=by rw[<- oN (xs:=ts),h2]
   exact Still.bind (m:=Builtin.len_ #[t'] ty (#[x].map ρ)) (by simpa using Still.len h) λ_=>.pure _
  ·cases h
 ·cases h
end
def Z0 (ops:Array Oper)(qW:Array Bool)(i n:Nat)(d:Option Tmp):Bool:=
 Region.noSelect ops&&Region.free .any ops qW i&&(Region.ready .any ops qW).contains i&&DH n d
def dD (ops:Array Oper)(qW:Array Bool)(i n:Nat)(d:Option Tmp)(op:Op):Bool:=
 bif cA op then Z0 ops qW i n d else NA ops qW i n d
section
variable {P : Program} {k : Nat} {ops : Array Oper} {Q : Exit -> St -> Prop} {N f : Nat} {qW : Array Bool} {s : St} {o : Oper} {v : AV} {n : Nat} {e : Nat -> AV} {st : List Row} {t : Tmp} {op : Op} {ty : TypeId} {ps : String} {ed : Array Edge}
theorem NG {K:Prop}{i:Nat}{d:Option Tmp}(hc:Z0 ops qW i n d=true)(h:Region.noSelect ops=true->Region.free .any ops qW i=true->(Region.ready .any ops qW).contains i=true->DH n d=true->K):K:=by
 unfold Z0 at hc;simp only[mE]at hc;exact h hc.1.1.1 hc.1.1.2 hc.1.2 hc.2
theorem AX.calm (i:Nat)(hn:s.n=N)(ho:ops[i]?=some o)(hc:NA ops qW i N o.dst=true)(hh:QL P s o v)(h:AX P k ops Q N f (qW.setIfInBounds i true) (s.put o.dst v)):AX P k ops Q N (f+1) qW s:=
 ⟨hn,λF0 os0 w0 F os a w hrel he=>by
  obtain⟨hg,hh⟩:=hh;obtain⟨u,hu,hv⟩:=hh F os a w hrel;have hd:DH s.n o.dst=true:=by
   unfold NA at hc;simp only[mE]at hc;rw[hn];exact hc.1.1.2
  exact wpAny_of_held (S:=λ_=>True) _ _ _ _ (RE ho hc (λc a w ⟨_,_,_,hp,_⟩=>nomatch hp.1) (.inl ⟨by unfold Region.wanted;rw[hg],hu⟩) lU (We _ _ _ _ (h.2 F0 os0 w0 F os _ w (hrel.put hd hv) he)))⟩
theorem AY.calm (i:Nat)(hn:s.n=N)(ho:ops[i]?=some o)(hc:NA ops qW i N o.dst=true)(hh:QL P s o v)(h:AY P k ops Q N f (qW.setIfInBounds i true) (s.put o.dst v)):AY P k ops Q N (f+1) qW s:=
 ⟨hn,λF0 os0 w0 F os a w hrel he=>by
  obtain⟨hg,hh⟩:=hh;obtain⟨u,hu,hv⟩:=hh F os a w hrel;have hd:DH s.n o.dst=true:=by
   unfold NA at hc;simp only[mE]at hc;rw[hn];exact hc.1.1.2
  exact RE ho hc (λc a w ⟨_,_,_,hp,_⟩=>nomatch hp.1) (.inl ⟨by unfold Region.wanted;rw[hg],hu⟩) he.IX (h.2 F0 os0 w0 F os _ w (hrel.put hd hv) he)⟩
theorem BX (T:Kr P)(i:Nat)(ho:ops[i]?=some ⟨some t,op,ty,ps,ed,none⟩)(hc:dD ops qW i n (some t) op=true)(h:hE T ⟨n,e,st⟩ op=some v)(hk:AX P k ops Q n f (qW.setIfInBounds i true) ⟨n,EI e t v,st⟩):AX P k ops Q n (f+1) qW ⟨n,e,st⟩:=by
 unfold dD at hc;rcases jI (t:=t) (ty:=ty) (ps:=ps) (ed:=ed) h with ⟨hp,hh⟩|⟨hp,hh⟩
 ·rw[hp]at hc;exact NG hc λa b c d=>LZ i rfl ho a b c d hh hk
 ·rw[hp]at hc;exact AX.calm i rfl ho hc hh hk
theorem IC (T:Kr P)(i:Nat)(ho:ops[i]?=some ⟨some t,op,ty,ps,ed,none⟩)(hc:dD ops qW i n (some t) op=true)(h:hE T ⟨n,e,st⟩ op=some v)(hk:AY P k ops Q n f (qW.setIfInBounds i true) ⟨n,EI e t v,st⟩):AY P k ops Q n (f+1) qW ⟨n,e,st⟩:=by
 unfold dD at hc;rcases jI (t:=t) (ty:=ty) (ps:=ps) (ed:=ed) h with ⟨hp,hh⟩|⟨hp,hh⟩
 ·rw[hp]at hc;exact NG hc λa b c d=>UH i rfl ho a b c d hh hk
 ·rw[hp]at hc;exact AY.calm i rfl ho hc hh hk
theorem II (i:Nat)(ho:ops[i]?=some ⟨some t,op,ty,ps,ed,none⟩)(hc:Z0 ops qW i n (some t)=true)(hs:VD P op=true)(h:AQ P ⟨n,e,st⟩ op v)(hk:AX P k ops Q n f (qW.setIfInBounds i true) ⟨n,EI e t v,st⟩):AX P k ops Q n (f+1) qW ⟨n,e,st⟩:=
 NG hc λa b c d=>LZ i rfl ho a b c d (R8 h rfl λρ=>Vm hs ρ) hk
theorem Ib (i:Nat)(ho:ops[i]?=some ⟨some t,op,ty,ps,ed,none⟩)(hc:Z0 ops qW i n (some t)=true)(hs:VD P op=true)(h:AQ P ⟨n,e,st⟩ op v)(hk:AY P k ops Q n f (qW.setIfInBounds i true) ⟨n,EI e t v,st⟩):AY P k ops Q n (f+1) qW ⟨n,e,st⟩:=
 NG hc λa b c d=>UH i rfl ho a b c d (R8 h rfl λρ=>Vm hs ρ) hk
end
end Go.Abs
