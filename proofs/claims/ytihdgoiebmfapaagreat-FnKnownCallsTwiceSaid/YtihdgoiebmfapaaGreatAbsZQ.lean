import Derived.Test.YtihdgoiebmfapaaGreatGAbsXToAbsZN
import Derived.Test.YtihdgoiebmfapaaGreatAbsQ
set_option linter.all false
namespace Go.Abs
open Go
def Grow (w w':World):Prop:=w.heap.size<=w'.heap.size/\∀b,b<w.heap.size->w'.heap[b]?=w.heap[b]?
theorem Grow.refl (w:World):Grow w w:=⟨gA _,λ_ _=>rfl⟩
theorem Grow.trans {w1 w2 w3:World}(h:Grow w1 w2)(g:Grow w2 w3):Grow w1 w3:=⟨jx h.1 g.1,λb hb=>(g.2 b (iG hb h.1)).trans (h.2 b hb)⟩
def Cm {α:Type}(m:Sem α):Prop:=∀P w v w',m.run P w=.ok v w'->Grow w w'
theorem Cm.pure {α:Type}(a:α):Cm (pure a:Sem α):=λ_ w _ _ h=>by cases h;exact Grow.refl w
theorem Cm.halt {α:Type}(h:Halt):Cm (.halt h:Sem α):=λ_ _ _ _ h=>by cases h
theorem Cm.bind {α β:Type}{m:Sem α}{f:α->Sem β}(hm:Cm m)(hf :∀a,Cm (f a)):Cm (m >>= f):=λP w v w' h=>by
 rw[gr]at h;cases hr:m.run P w with
 | ok a w2=>rw[hr]at h;exact (hm P w a w2 hr).trans (hf a P w2 v w' h)
 | halt x w2=>rw[hr]at h;cases h
theorem Cm.load (a:Addr):Cm (Go.load a):=λP w v w' h=>by
 unfold Go.load at h;simp only[Sem.run]at h;split at h
 ·cases h;exact Grow.refl w
 ·split at h
  ·cases h;exact Grow.refl w
  ·cases h
theorem Cm.program:Cm Go.program:=λP w v w' h=>by cases h;exact Grow.refl w
theorem Cm.shape (r:Nat):Cm (Go.shape r):=λP w v w' h=>by cases h;exact Grow.refl w
theorem Cm.newObj (o:Obj):Cm (Go.newObj o):=λP w v w' h=>by
 cases h;exact⟨by simp,λb hb=>by simp[Array.getElem?_push,Nat.ne_of_lt hb]⟩
theorem Cm.choose (q:Question):Cm (Go.choose q):=λP w v w' h=>by
 unfold Go.choose at h;simp only[Sem.run]at h;split at h<;>cases h<;>exact Grow.refl w
theorem Cm.typeInfo (t:TypeId):Cm (Go.typeInfo t):=.bind .program λp=>by split;exact .pure _;exact .halt _
theorem Cm.underlying (t:TypeId):Cm (Go.underlying t):=.bind .program λp=>by split;exact .pure _;exact .halt _
theorem Cm.sizeOf (t:TypeId):Cm (Go.sizeOf t):=.bind (.typeInfo t) λ_=>.pure _
theorem Cm.zeroValue (t:TypeId):Cm (Go.zeroValue t):=.bind (.typeInfo t) λ_=>by split;exact .pure _;exact .halt _
theorem Cm.isAgg (t:TypeId):Cm (Go.isAgg t):=.bind (.underlying t) λ_=>by split<;>exact .pure _
theorem Cm.loadCellsFrom (a:Addr):∀(n i:Nat) (acc:Array Value),Cm (Go.loadCellsFrom a i n acc)
 | 0,_,_=>.pure _
 | n+1,i,acc=>.bind (.load _) λv=>Cm.loadCellsFrom a n (i+1) (acc.push v)
theorem Cm.loadVar (t:TypeId)(a:Addr):Cm (Go.loadVar t a):=.bind (.isAgg t) λb=>by
 split
 ·exact .bind (.sizeOf t) λn=>.bind (.loadCellsFrom a n 0 _) λ_=>.pure _
 ·exact .load a
theorem Cm.sureAddr (v:Value):Cm (Instr.sureAddr v):=by unfold Instr.sureAddr;split;exact .pure _;exact .halt _
theorem Cm.loadAt (t:TypeId)(v:Value):Cm (Instr.loadAt t v):=.bind (.sureAddr v) λa=>.loadVar t a
theorem Cm.getObj (r:Nat):Cm (Go.getObj r):=λP w v w' h=>by
 unfold Go.getObj at h;simp only[Sem.run]at h;split at h
 ·cases h
 ·cases h;exact Grow.refl w
 ·cases h
theorem Cm.viewAt (r:Nat):Cm (Go.viewAt r):=by
 unfold Go.viewAt;refine .bind (.shape r) λs=>?_
 repeat' first|exact .pure _|exact .halt _|exact .bind (.getObj r) (λo=>by split<;>exact .pure _)|split
theorem Cm.noView (a:Addr):Cm (Go.noView a):=by
 unfold Go.noView;refine .bind (.viewAt _) λs=>?_;split
 ·exact .halt _
 ·exact .pure _
theorem Cm.byteOf (a:Addr):Cm (Go.byteOf a):=by
 unfold Go.byteOf;dsimp only;split
 ·exact .pure _
 ·refine .bind .program λp=>.bind (.noView a) λ_=>.bind (.shape _) λs=>?_
  repeat' first|exact .pure _|exact .halt _|split
theorem Cm.fieldPlace (a:Addr)(f:Field):Cm (fieldPlace a f):=.bind (.sizeOf _) λn=>by
 split
 ·exact .bind (.byteOf _) λ_=>.bind (.byteOf _) λ_=>.pure _
 ·exact .pure _
theorem Cm.fieldAt (s:TypeId)(v:Value)(f:Nat):Cm (Instr.fieldAt s v f):=by
 unfold Instr.fieldAt;refine .bind (.underlying s) λd=>?_;split
 ·split
  ·exact .bind (.sureAddr v) λa=>.bind (.fieldPlace a _) λ_=>.pure _
  ·exact .halt _
 ·exact .halt _
theorem Cm.asIntOf (v:Value):Cm (Go.asIntOf v):=by
 unfold Go.asIntOf;split
 ·exact .pure _
 ·exact .halt _
 ·exact .halt _
theorem Cm.Ou {α:Type}(x y:Int)(s:Bool)(c:BoundsCode):Cm (runtimePanic (.bounds x y s c):Sem α):=.bind .program λ_=>.halt _
theorem Cm.boundsPanic {α:Type}(k:IntKind)(x y:Int)(c:BoundsCode):Cm (Go.boundsPanic k x y c:Sem α):=by
 unfold Go.boundsPanic;dsimp only;split
 ·exact Cm.bind (Cm.bind (.choose _) λ_=>.pure _) λ_=>.Ou _ _ _ _
 ·exact Cm.bind (.pure _) λ_=>.Ou _ _ _ _
theorem Cm.indexAt (t:TypeId)(x i:Value):Cm (Instr.indexAt t x i):=by
 unfold Instr.indexAt;dsimp only;refine .bind (.asIntOf i) λki=>.bind (.underlying t) λd=>?_
 repeat' first|exact .pure _|exact .halt _|exact .boundsPanic _ _ _ _|exact .sureAddr _|exact .underlying _|exact .sizeOf _|(refine .bind ?_ λ_=>?_)|split
theorem Cm.newVar (t:TypeId)(v:Value):Cm (Go.newVar t v):=.bind (.newObj _) λ_=>.pure _
theorem Cm.alloc (t:TypeId):Cm (Instr.alloc t true (.tuple #[])):=.bind (.zeroValue t) λz=>.bind (.newVar t z) λ_=>.pure _
theorem Cm.box (t:TypeId)(v:Value):Cm (Instr.box t v):=.bind (.newVar t v) λ_=>.pure _
theorem Cm.buildSlice (t:TypeId)(n:Nat)(ps:Array (Nat×Value)):Cm (Instr.buildSlice t n ps):=by
 unfold Instr.buildSlice;dsimp only
 repeat' first|exact .pure _|exact .halt _|exact .underlying _|exact .sizeOf _|exact .zeroValue _|exact .newObj _|(refine .bind ?_ λ_=>?_)|split
def Still (P:Program){α:Type}(m:Sem α):Prop:=∀w v w1,m.run P w=.ok v w1->w1=w/\∀w',m.run P w'=.ok v w'
section
variable {P : Program}
theorem Still.pure {α:Type}(a:α):Still P (pure a:Sem α):=λw _ _ h=>by cases h;exact⟨rfl,λ_=>rfl⟩
theorem Still.halt {α:Type}(h:Halt):Still P (.halt h:Sem α):=λ_ _ _ h=>by cases h
theorem Still.never {α:Type}{m:Sem α}(h :∀w v w1,m.run P w≠.ok v w1):Still P m:=λw v w1 e=>absurd e (h w v w1)
theorem Still.bind {α β:Type}{m:Sem α}{f:α->Sem β}(hm:Still P m)(hf :∀a,Still P (f a)):Still P (m >>= f):=λw v w1 h=>by
 rw[gr]at h;cases hr:m.run P w with
 | ok a w2=>
  rw[hr]at h;obtain⟨rfl,h1⟩:=hm w a w2 hr;obtain⟨rfl,h2⟩:=hf a w2 v w1 h;exact⟨rfl,λw'=>by rw[gr,h1 w'];exact h2 w'⟩
 | halt x w2=>rw[hr]at h;cases h
theorem Still.program:Still P Go.program:=λw v w1 h=>by cases h;exact⟨rfl,λ_=>rfl⟩
theorem Still.typeInfo (t:TypeId):Still P (Go.typeInfo t):=.bind .program λp=>by split;exact .pure _;exact .halt _
theorem Still.underlying (t:TypeId):Still P (Go.underlying t):=.bind .program λp=>by split;exact .pure _;exact .halt _
theorem Still.sizeOf (t:TypeId):Still P (Go.sizeOf t):=.bind (.typeInfo t) λ_=>.pure _
theorem Still.sureAddr (v:Value):Still P (Instr.sureAddr v):=by unfold Instr.sureAddr;split;exact .pure _;exact .halt _
theorem Still.asIntOf (v:Value):Still P (Go.asIntOf v):=by
 unfold Go.asIntOf;split
 ·exact .pure _
 ·exact .halt _
 ·exact .halt _
theorem Still.boundsPanic {α:Type}(k:IntKind)(x y:Int)(c:BoundsCode):Still P (Go.boundsPanic k x y c:Sem α):=.never λw v w1 h=>by
 unfold Go.boundsPanic at h;dsimp only at h;have hn:∀(s:Bool) w2,(runtimePanic (.bounds (IntKind.i64.wrap x) y s c):Sem α).run P w2≠.ok v w1:=λs w2 h=>by
  unfold runtimePanic at h;rw[gr]at h;cases h
 split at h
 ·rw[gr]at h;generalize ((λx=>x==1) <$> Go.choose (Question.extern "runtime.boundsError.signed" 2)).run P w=r at h;cases r with
  | ok a w2=>exact hn _ _ h
  | halt=>cases h
 ·exact hn _ _ h
theorem Still.indexAt (t:TypeId)(x i:Value):Still P (Instr.indexAt t x i):=by
 unfold Instr.indexAt;dsimp only;refine .bind (.asIntOf i) λki=>.bind (.underlying t) λd=>?_
 repeat' first|exact .pure _|exact .halt _|exact .boundsPanic _ _ _ _|exact .sureAddr _|exact .underlying _|exact .sizeOf _|(refine .bind ?_ λ_=>?_)|split
theorem Still.len {t ty:TypeId}{x:Value}(ht:DI P t=true):Still P (Builtin.len_ #[t] ty #[x]):=λw v w1 h=>by
 unfold DI at ht;split at ht
 ·rename_i e he;have hr:∀w',(Builtin.len_ #[t] ty #[x]).run P w'=(match x with|.slice _ n _=>.ok (goInt n) w'|_=>.halt (.stuck "len: string, array, pointer to array, slice, map or channel expected") w'):=λw'=>by
   unfold Builtin.len_;simp only[jn,gQ,gr,gy he,gl];cases x<;>rfl
  rw[hr]at h;cases x<;>simp at h;obtain⟨rfl,rfl⟩:=h;exact⟨rfl,λw'=>hr w'⟩
 ·cases ht
end
def RF (o:Oper):Bool:=match o.op with
 | .move _|.assign _|.load ..|.fieldAddr ..|.indexAddr ..|.alloc _|.box ..|.buildSlice ..=>true
 | .call ⟨.builtin .len,_,_⟩=>true
 | _=>false
theorem KL {P:Program}{m:Sem Value}{w w':World}{n:Next}(hm:Cm m)(h:(do pure (Next.value (← m)):Sem Next).run P w=.ok n w'):(∃u,n=.value u)/\Grow w w':=by
 rw[gr]at h;cases hr:m.run P w with
 | ok a w2=>rw[hr]at h;cases h;exact⟨⟨_,rfl⟩,hm P w _ _ hr⟩
 | halt x w2=>rw[hr]at h;cases h
theorem Cm.len (ts:Array TypeId)(ty:TypeId)(xs:Array Value):Cm (Builtin.len_ ts ty xs):=by
 unfold Builtin.len_
 repeat' first|exact .pure _|exact .halt _|exact .underlying _|exact .getObj _|(refine .bind ?_ λ_=>?_)|split
theorem Xn {P:Program}{o:Oper}{ρ:Operand->Value}{w w':World}{n:Next}(h:RF o=true)(hr:(execOp ρ o).run P w=.ok n w'):(∃u,n=.value u)/\Grow w w':=by
 unfold RF at h;unfold execOp at hr;split at h<;>rename_i ho<;>try (cases h;done)
 all_goals rw[ho]at hr
 ·cases hr;exact⟨⟨_,rfl⟩,.refl _⟩
 ·cases hr;exact⟨⟨_,rfl⟩,.refl _⟩
 ·exact KL (.loadAt _ _) hr
 ·exact KL (.fieldAt _ _ _) hr
 ·exact KL (.indexAt _ _ _) hr
 ·exact KL (.alloc _) hr
 ·exact KL (.box _ _) hr
 ·exact KL (.buildSlice _ _ _) hr
 ·exact KL (.len _ _ _) hr
section
variable {P : Program} {ops : Array Oper} {Q : Exit -> Act -> World -> Prop} {md : Region.Mode} {S : World -> Prop}
theorem YH {i:Nat}{o:Oper}{K:Act->World->Prop}{a:Act}{w0 w:World}(hi:ops[i]?=some o)(ht:RF o=true)(hG:Grow w0 w)(h:wpOp P ops Q i K a w):wpOp P ops Q i (λa' w'=>Grow w0 w'/\K a' w') a w:=by
 unfold wpOp at *;simp only[hi] at *;split
 ·rename_i hw;rw[fq hw]at h;refine h.imp (λh=>?_) id;unfold Oper.wp at *;cases hr:(execOp a.eval o).run P w with
  | ok n w'=>
   obtain⟨⟨u,rfl⟩,g⟩:=Xn ht hr;rw[hr]at h;simp only[Oper.upon]at h⊢;exact⟨hG.trans g,h⟩
  | halt x w'=>
   rw[hr]at h;cases x<;>simp only[Oper.upon]at h⊢;exact h
 ·rename_i hw;rw[fr hw]at h;exact⟨hG,h⟩
theorem WU {i:Nat}{oi:Oper}{v:Value}{w0:World}{wt:Nat->Bool}(hi:ops[i]?=some oi)(vk :∀(j:Nat) (o:Oper) cs b,ops[j]?=some o->o.op≠.select cs b)
  (hQ :∀c a w,Q (.panic c) (a.put oi.dst v) w->Q (.panic c) a w)
  (qY :∀j oj,ops[j]?=some oj->wt j=true->∃e∈oj.after,Region.binds md e=true/\(e.on=i∨wt e.on=true)) :
  ∀(fuel:Nat) (lK:Array Bool) (a:Act) (w:World),
   (∀j oj,ops[j]?=some oj->j≠i->lK.getD j true=false->(∀e∈oj.after,Region.binds md e=true->e.on≠i)->oi.apart ops oj=true)->
   (∀j,wt j=true->lK.getD j true=false)->
   (∀j oj,ops[j]?=some oj->j≠i->lK.getD j true=false->wt j=false->RF oj=true)->
   i∈Region.ready md ops lK->YieldsIf P ops (Grow w0) oi v a->Grow w0 w->S w->
   wpAnyH P md ops Q S fuel (lK.setIfInBounds i true) (a.put oi.dst v) w->wpAnyH P md ops Q S (fuel+1) lK a w:=by
 intro fuel
 induction fuel with
 | zero=>
  intro lK a w _ _ _ hr hy hG hS H;refine⟨λh=>(by rw[h]at hr;cases hr),λj hj=>?_⟩;by_cases nR:j=i
  ·subst nR;exact hy.wpOp hi hG ⟨hS,H⟩
  ·have:=jP hj nR;rw[H.1]at this;cases this
 | succ fuel ih=>
  intro lK a w nj sV uF hr hy hG hS H;refine⟨λh=>(by rw[h]at hr;cases hr),λj hj=>?_⟩;by_cases nR:j=i
  ·subst nR;exact hy.wpOp hi hG ⟨hS,H⟩
  ·have h1:=H.2 j (jP hj nR);obtain⟨oW,oj,nk,mY⟩:=jS.1 hj;have off:∀(k:Nat),lK.getD k true=false->∀e∈oj.after,Region.binds md e=true->e.on≠k:=λk hk e he hb heq=>by
    have h1:=mY e he hb;rw[heq]at h1;rcases iY k lK.size with h'|h'
    ·simp[h']at hk h1;rw[hk]at h1;cases h1
    ·simp[jg h']at h1
   have qa:=off i (jS.1 hr).1;have rU:wt j=false:=by
    cases hw:wt j with
    | false=>rfl
    | true=>
     obtain⟨e,he,hb,h|h⟩:=qY j oj nk hw
     ·exact absurd h (qa e he hb)
     ·exact absurd rfl (off e.on (sV _ h) e he hb)
   have h2:=YH nk (uF j oj nk nR oW rU) hG (wpOp_putIf nk (nj j oj nk nR oW qa) (λcs b=>vk i oi cs b hi) (λcs b=>vk j oj cs b nk) hQ hy h1);have oU:∀k,(lK.setIfInBounds j true).getD k true=false->lK.getD k true=false:=λk nV=>by
    by_cases hjk:j=k
    ·subst hjk;exact oW
    ·rw[jt true hjk]at nV;exact nV
   refine wpOp_mono (λa' w' h3=>⟨h3.2.2.1,ih (lK.setIfInBounds j true) a' w' (λk ok hk sq nV ug=>nj k ok hk sq (oU k nV) ug) (λk hk=>?_) (λk ok hk sq nV hw=>uF k ok hk sq (oU k nV) hw) (jP hr (iT nR)) h3.2.1 h3.1 h3.2.2.1 ?_⟩) h2
   ·rw[jt true (λe=>by subst e;rw[hk]at rU;cases rU)];exact sV k hk
   ·rw[jV _ _ nR];exact h3.2.2.2
theorem Um:∀(fuel:Nat) (lK:Array Bool) (a:Act) (w:World),wpAny P md ops Q fuel lK a w->wpAnyH P md ops Q (λ_=>True) fuel lK a w
 | 0,_,_,_,h=>h
 | fuel+1,_,_,_,h=>⟨h.1,λi hi=>wpOp_mono (λa' w' h'=>⟨fa,Um fuel _ a' w' h'⟩) (h.2 i hi)⟩
def waiters (ops:Array Oper)(i:Nat):List Bool:=
 ops.toList.foldl (λacc o=>acc++[o.after.any λe=>Region.binds .any e&&(Nat.beq e.on i || acc.getD e.on false)]) []
def Y7 (ops:Array Oper)(lK:Array Bool)(i:Nat):Bool:=
 let wt:=waiters ops i
 (List.range ops.size).all λj=>match ops[j]? with
  | none=>true
  | some o=>(bif wt.getD j false then !lK.getD j true&&o.after.any (λe=>Region.binds .any e&&(Nat.beq e.on i || wt.getD e.on false)) else true)&&(Nat.beq j i || lK.getD j true || wt.getD j false || RF o)
def L5 (ops:Array Oper)(lK:Array Bool)(i n:Nat)(d:Option Tmp):Bool:=
 Region.noSelect ops&&Region.free .any ops lK i&&(Region.ready .any ops lK).contains i&&DM n d&&Nat.beq (waiters ops i).length ops.size&&Y7 ops lK i
theorem P7 {i:Nat}{oi:Oper}{v:Value}{fuel n:Nat}{lK:Array Bool}{a:Act}{w:World}(hi:ops[i]?=some oi)(hc:L5 ops lK i n oi.dst=true)
  (hQ :∀c a w,Q (.panic c) (a.put oi.dst v) w->Q (.panic c) a w) (hy:YieldsIf P ops (Grow w) oi v a) (hS:S w)
  (h:wpAnyH P .any ops Q S fuel (lK.setIfInBounds i true) (a.put oi.dst v) w):wpAnyH P .any ops Q S (fuel+1) lK a w:=by
 unfold L5 at hc;simp only[gN]at hc;obtain⟨⟨⟨⟨⟨c1,c2⟩,c3⟩,_⟩,c5⟩,c6⟩:=hc;have c5:=iW c5;unfold Y7 at c6;have c6:=λ(j:Nat) (o:Oper) (ho:ops[j]?=some o)=>by
  have:=fk.1 c6 j (ig.2 (gk.1 ho).1);rw[ho]at this;simpa only[gN] using this
 have lh:∀j,(waiters ops i).getD j false=true->∃o,ops[j]?=some o:=λj hj=>by
  rcases iY j ops.size with h'|h'
  ·exact⟨_,iC h'⟩
  ·rw[jO,hH (by omega)]at hj;cases hj
 refine WU (wt:=λj=>(waiters ops i).getD j false) hi (Region.noSelect_spec c1) hQ ?_ fuel lK a w (kM hi c2) ?_ ?_ (by simpa using c3) hy (.refl w) hS h
 ·intro j oj hj hw;have:=(c6 j oj hj).1;rw[hw,cond_true,gN]at this;obtain⟨e,he,h2⟩:=Array.any_eq_true'.1 this.2;simp only[gN,Bool.or_eq_true]at h2;exact⟨e,he,h2.1,h2.2.imp iW id⟩
 ·intro j hw;obtain⟨oj,hj⟩:=lh j hw;have:=(c6 j oj hj).1;rw[hw,cond_true,gN]at this;simpa using this.1
 ·intro j oj hj nR nV hw;have:=(c6 j oj hj).2;rw[nV,hw]at this;simpa [nR] using this
end
def PF (P:Program)(s:St)(o:Oper)(v:AV):Prop:=
 o.guard=none/\∀F os a w,Rel F os s a w->∃u,(∀w',Grow w w'->(execOp a.eval o).run P w'=.ok (.value u) w')/\Ae F w os v u
section
variable {P : Program} {s : St} {o : Oper} {v : AV} {n : Nat} {e : Nat -> AV} {st : List Row} {t : Tmp} {ty : TypeId} {ps : String} {ed : Array Edge} {x : Operand}
theorem PE.G (h:PE P s o v):PF P s o v:=⟨h.1,λF os a w hr=>let ⟨u,h1,h2⟩:=h.2 F os a w hr;⟨u,λw' g=>h1 w' (λb hb=>g.2 b (hr.GG b hb)),h2⟩⟩
theorem Qh (hq:AQ P s o.op v)(hg:o.guard=none)(hs :∀ρ,Still P (execOp ρ o)):Nm P s o v:=
 ⟨hg,λF os a w hr=>by
  obtain⟨x,u,rfl,h1,h2⟩:=QE hr (hq (·=v) rfl);exact⟨u,(hs _ w _ _ h1).2,h2⟩⟩
theorem UK {F:Nat->Prop}{os:List Own}{a:Act}{w:World}{id g i off:Nat}{el:TypeId}{size:Nat}{xs:List (List AV)}{cs:List AV}(hr:Rel F os ⟨n,e,st⟩ a w)(h:St.ev ⟨n,e,st⟩ x=.ptr id g i off)(lQ:st[id]?=some ⟨g,el,size,xs⟩)(hi:xs[i]?=some cs):
  ∃b,a.eval x=.pointer (some ⟨b,i*size+off,none⟩)/\b<w.heap.size/\∀j c,cs[j]?=some c->∃u,w.cell? ⟨b,i*size+j,none⟩=some u/\Ae F w os c u:=by
 have h1:=hr.ev x;rw[h]at h1;simp only[Ae]at h1;obtain⟨o,ho,_,_,h2⟩:=h1;have lp:os.map Own.row=st:=hr.st;have hg:o.row=⟨g,el,size,xs⟩:=by
  rw[<- lp,fg,ho]at lQ;simpa using lQ
 rw[hg]at h2;obtain⟨_,_,b,hb,hv⟩:=h2 rfl;obtain⟨_,cur,h3,_,_,_,h6⟩:=(hr.rows id o ho).some b hb;rw[hg]at h3 h6;refine⟨b,hv,(gk.1 h3).1,λj c hc=>?_⟩;obtain⟨u,h7,h8⟩:=h6 i cs hi j c hc;exact⟨u,by simp only[World.cell?,h3];exact h7,h8⟩
theorem Le {id g i off sz:Nat}{tt el:TypeId}{size:Nat}{xs:List (List AV)}{cs:List AV}{c:AV}(tF:EN P tt=some (false,sz))(h:St.ev ⟨n,e,st⟩ x=.ptr id g i off)(lQ:st[id]?=some ⟨g,el,size,xs⟩)(hi:xs[i]?=some cs)(hc:cs[off]?=some c):PF P ⟨n,e,st⟩ ⟨some t,.load tt x,ty,ps,ed,none⟩ c:=
 ⟨rfl,λF os a w hr=>by
  obtain⟨b,e2,hb,nP⟩:=UK hr h lQ hi;obtain⟨d,i',hud,ni,e1,e3⟩:=Io tF;obtain⟨u,hu1,nt⟩:=nP off c hc;refine⟨u,λw' tG=>?_,nt⟩;have oB:=KM (w:=w') hud;rw[<- e1]at oB;have mJ:w'.cell? ⟨b,i*size+off,none⟩=some u:=by rw[<- hu1];exact jE (tG.2 b hb)
  simp[execOp,e2,Instr.loadAt,Instr.sureAddr,loadVar,oB,mJ]⟩
theorem Xs {id g i off sz:Nat}{tt el:TypeId}{size:Nat}{xs:List (List AV)}{cs:List AV}(tF:EN P tt=some (true,sz))(h:St.ev ⟨n,e,st⟩ x=.ptr id g i off)(lQ:st[id]?=some ⟨g,el,size,xs⟩)(hi:xs[i]?=some cs)(hl:off+sz<=cs.length):PF P ⟨n,e,st⟩ ⟨some t,.load tt x,ty,ps,ed,none⟩ (.agg ((cs.drop off).take sz)):=
 ⟨rfl,λF os a w hr=>by
  obtain⟨b,e2,hb,hx⟩:=UK hr h lQ hi;obtain⟨d,i',hud,ni,e1,e3⟩:=Io tF;have uN:∃f:Nat->Value,∀j,j<sz->w.cell? ((⟨b,i*size+off,none⟩:Addr).add j)=some (f j)/\∀c,cs[off+j]?=some c->Ae F w os c (f j):=
   ⟨λj=>(w.cell? ((⟨b,i*size+off,none⟩:Addr).add j)).getD undef,λj hj=>by
    have lh:off+j<cs.length:=by omega
    obtain⟨u,hu1,nt⟩:=hx (off+j) cs[off+j] (fm lh);have tH:w.cell? ((⟨b,i*size+off,none⟩:Addr).add j)=some u:=by rw[Cy,<- hu1,iO]
    simp only[tH,jA];refine⟨fa,λc hc=>?_⟩;rw[fm lh,ff]at hc;exact hc▸nt⟩
  obtain⟨f,hf⟩:=uN;refine⟨.agg ((List.range sz).map f).toArray,λw' tG=>?_,?_⟩
  ·have oB:=KM (w:=w') hud;rw[<- e1]at oB;have lr:(sizeOf tt).run P w'=.ok i'.size w':=by simp[sizeOf,typeInfo,ni]
   have qm:=run_loadCells (P:=P) w' ⟨b,i*size+off,none⟩ sz f (λj hj=>by
    rw[<- (hf j hj).1,Cy];exact jE (tG.2 b hb))
   simp only at e3;simp[execOp,e2,Instr.loadAt,Instr.sureAddr,loadVar,oB,lr,<- e3,qm]
  ·simp only[Ae];refine⟨_,rfl,DV (by simp;omega) λj c u hc hu=>?_⟩;simp only[gR,gh]at hc;split at hc
   ·rename_i hj;simp only[fg,ix hj,gu,ff]at hu;subst hu;exact (hf j hj).2 c hc
   ·cases hc⟩
def hE (T:KY P)(s:St):Op->Option AV
 | .move x=>fo (s.ev x)
 | .assign x=>fo (s.ev x)
 | .fieldAddr t x f=>match s.ev x with
  | .Bc cs off=>(Mk T.f t f).bind λj=>some (.Bc cs (off+j))
  | .ptr id g i off=>(Mk T.f t f).bind λj=>VV g s.st[id]? λr=>bif Nat.ble (off+j) r.size then some (.ptr id g i (off+j)) else none
  | _=>none
 | .load t x=>TV T s t (s.ev x)
 | _=>none
def Yo:Op->Bool
 | .load ..=>false
 | _=>true
theorem cv {T:KY P}{op:Op}(h:hE T ⟨n,e,st⟩ op=some v):(Yo op=true/\Nm P ⟨n,e,st⟩ ⟨some t,op,ty,ps,ed,none⟩ v)∨(Yo op=false/\PF P ⟨n,e,st⟩ ⟨some t,op,ty,ps,ed,none⟩ v):=by
 unfold hE at h;split at h
 ·exact .inl ⟨rfl,Jm (N1 h)⟩
 ·exact .inl ⟨rfl,Zh (N1 h)⟩
 ·split at h
  ·rename_i hx;obtain⟨j,h1,h2⟩:=gX.1 h;cases h2;exact .inl ⟨rfl,L4 (PT h1) hx rfl⟩
  ·rename_i hx;obtain⟨j,h1,h2⟩:=gX.1 h;obtain⟨el,size,xs,hr,h2⟩:=Ld h2;simp only at h2;cases hb:Nat.ble (_+j) size with
   | false=>rw[hb]at h2;cases h2
   | true=>rw[hb]at h2;cases h2;exact .inl ⟨rfl,It (PT h1) hx hr (jK hb) rfl⟩
  ·cases h
 ·refine .inr ⟨rfl,?_⟩;unfold TV at h;split at h
  ·rename_i hx;obtain⟨⟨b,sz⟩,h1,h2⟩:=gX.1 h;rcases Kp h2 with ⟨hb,h3⟩|⟨hb,h3,rfl⟩<;>simp only at hb<;>subst hb
   ·exact (NR (Jl h1) hx h3).G
   ·exact (So (Jl h1) hx h3 rfl).G
  ·rename_i hx;obtain⟨el,size,xs,hr,h⟩:=Ld h;obtain⟨cs,hi,h⟩:=gX.1 h;obtain⟨⟨b,sz⟩,h1,h2⟩:=gX.1 h;rcases Kp h2 with ⟨hb,h3⟩|⟨hb,h3,rfl⟩<;>simp only at hb<;>subst hb
   ·exact Le (Jl h1) hx hr hi h3
   ·exact Xs (Jl h1) hx hr hi h3
  ·cases h
 ·cases h
def TM (P:Program):Op->Bool
 | .indexAddr ..=>true
 | .call ⟨.builtin .len,xs,ts⟩=>match xs.toList,ts.toList with
  | [_],[t]=>DI P t
  | _,_=>false
 | _=>false
theorem UA {op:Op}(h:TM P op=true)(ρ:Operand->Value):Still P (execOp ρ ⟨some t,op,ty,ps,ed,none⟩):=by
 unfold TM at h;split at h
 ·exact Still.bind (.indexAt _ _ _) λ_=>.pure _
 ·rename_i xs ts;split at h
  ·rename_i x t' h1 h2;obtain rfl:xs=#[x]:=by rw[<- jN (xs:=xs),h1]
   obtain rfl:ts=#[t']:=by rw[<- jN (xs:=ts),h2]
   exact Still.bind (m:=Builtin.len_ #[t'] ty (#[x].map ρ)) (by simpa using Still.len h) λ_=>.pure _
  ·cases h
 ·cases h
end
def Xv (ops:Array Oper)(lK:Array Bool)(i n:Nat)(d:Option Tmp):Bool:=
 Region.noSelect ops&&Region.free .any ops lK i&&(Region.ready .any ops lK).contains i&&DM n d
def ZF (ops:Array Oper)(lK:Array Bool)(i n:Nat)(d:Option Tmp)(op:Op):Bool:=
 bif Yo op then Xv ops lK i n d else L5 ops lK i n d
section
variable {P : Program} {k : Nat} {ops : Array Oper} {Q : Exit -> St -> Prop} {N f : Nat} {lK : Array Bool} {s : St} {o : Oper} {v : AV} {n : Nat} {e : Nat -> AV} {st : List Row} {t : Tmp} {op : Op} {ty : TypeId} {ps : String} {ed : Array Edge}
theorem MV {K:Prop}{i:Nat}{d:Option Tmp}(hc:Xv ops lK i n d=true)(h:Region.noSelect ops=true->Region.free .any ops lK i=true->(Region.ready .any ops lK).contains i=true->DM n d=true->K):K:=by
 unfold Xv at hc;simp only[gN]at hc;exact h hc.1.1.1 hc.1.1.2 hc.1.2 hc.2
theorem UG (i:Nat)(hn:s.n=N)(ho:ops[i]?=some o)(hc:L5 ops lK i N o.dst=true)(hh:PF P s o v)(h:AX P k ops Q N f (lK.setIfInBounds i true) (s.put o.dst v)):AX P k ops Q N (f+1) lK s:=
 ⟨hn,λF0 os0 w0 F os a w ly he=>by
  obtain⟨hg,hh⟩:=hh;obtain⟨u,hu,hv⟩:=hh F os a w ly;have hd:DM s.n o.dst=true:=by
   unfold L5 at hc;simp only[gN]at hc;rw[hn];exact hc.1.1.2
  exact wpAny_of_held (S:=λ_=>True) _ _ _ _ (P7 ho hc (λc a w ⟨_,_,_,hp,_⟩=>nomatch hp.1) (.inl ⟨by unfold Region.wanted;rw[hg],hu⟩) fa (Um _ _ _ _ (h.2 F0 os0 w0 F os _ w (ly.put hd hv) he)))⟩
theorem N2 (i:Nat)(hn:s.n=N)(ho:ops[i]?=some o)(hc:L5 ops lK i N o.dst=true)(hh:PF P s o v)(h:AY P k ops Q N f (lK.setIfInBounds i true) (s.put o.dst v)):AY P k ops Q N (f+1) lK s:=
 ⟨hn,λF0 os0 w0 F os a w ly he=>by
  obtain⟨hg,hh⟩:=hh;obtain⟨u,hu,hv⟩:=hh F os a w ly;have hd:DM s.n o.dst=true:=by
   unfold L5 at hc;simp only[gN]at hc;rw[hn];exact hc.1.1.2
  exact P7 ho hc (λc a w ⟨_,_,_,hp,_⟩=>nomatch hp.1) (.inl ⟨by unfold Region.wanted;rw[hg],hu⟩) he.Ir (h.2 F0 os0 w0 F os _ w (ly.put hd hv) he)⟩
theorem BQ (T:KY P)(i:Nat)(ho:ops[i]?=some ⟨some t,op,ty,ps,ed,none⟩)(hc:ZF ops lK i n (some t) op=true)(h:hE T ⟨n,e,st⟩ op=some v)(hk:AX P k ops Q n f (lK.setIfInBounds i true) ⟨n,Em e t v,st⟩):AX P k ops Q n (f+1) lK ⟨n,e,st⟩:=by
 unfold ZF at hc;rcases cv (t:=t) (ty:=ty) (ps:=ps) (ed:=ed) h with ⟨hp,hh⟩|⟨hp,hh⟩
 ·rw[hp]at hc;exact MV hc λa b c d=>Kw i rfl ho a b c d hh hk
 ·rw[hp]at hc;exact UG i rfl ho hc hh hk
theorem GB (T:KY P)(i:Nat)(ho:ops[i]?=some ⟨some t,op,ty,ps,ed,none⟩)(hc:ZF ops lK i n (some t) op=true)(h:hE T ⟨n,e,st⟩ op=some v)(hk:AY P k ops Q n f (lK.setIfInBounds i true) ⟨n,Em e t v,st⟩):AY P k ops Q n (f+1) lK ⟨n,e,st⟩:=by
 unfold ZF at hc;rcases cv (t:=t) (ty:=ty) (ps:=ps) (ed:=ed) h with ⟨hp,hh⟩|⟨hp,hh⟩
 ·rw[hp]at hc;exact MV hc λa b c d=>Si i rfl ho a b c d hh hk
 ·rw[hp]at hc;exact N2 i rfl ho hc hh hk
theorem Gm (i:Nat)(ho:ops[i]?=some ⟨some t,op,ty,ps,ed,none⟩)(hc:Xv ops lK i n (some t)=true)(hs:TM P op=true)(h:AQ P ⟨n,e,st⟩ op v)(hk:AX P k ops Q n f (lK.setIfInBounds i true) ⟨n,Em e t v,st⟩):AX P k ops Q n (f+1) lK ⟨n,e,st⟩:=
 MV hc λa b c d=>Kw i rfl ho a b c d (Qh h rfl λρ=>UA hs ρ) hk
theorem HC (i:Nat)(ho:ops[i]?=some ⟨some t,op,ty,ps,ed,none⟩)(hc:Xv ops lK i n (some t)=true)(hs:TM P op=true)(h:AQ P ⟨n,e,st⟩ op v)(hk:AY P k ops Q n f (lK.setIfInBounds i true) ⟨n,Em e t v,st⟩):AY P k ops Q n (f+1) lK ⟨n,e,st⟩:=
 MV hc λa b c d=>Si i rfl ho a b c d (Qh h rfl λρ=>UA hs ρ) hk
end
end Go.Abs
