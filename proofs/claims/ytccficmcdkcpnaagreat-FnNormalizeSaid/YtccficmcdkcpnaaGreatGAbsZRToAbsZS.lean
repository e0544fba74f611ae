import Derived.Test.YtccficmcdkcpnaaGreatGAbsZPToSSDefs
set_option linter.all false
namespace Go.Abs
open Go
def preB:Nat->Nat->List Nat->Bool
 | 0,_,_=>true
 | _+1,_,[]=>false
 | k+1,i,a::l=>Nat.beq a i&&preB k (i+1) l
def hasB (a:Nat):List Nat->Bool
 | []=>false
 | b::l=>Nat.beq b a || hasB a l
def av:List Nat->Bool
 | []=>true
 | a::l=>!hasB a l&&av l
def Zk (k n:Nat)(sel:List Nat):Bool:=preB k 0 sel&&av sel&&sel.all (·<n)
theorem Xo:∀(k i:Nat) (l:List Nat),preB k i l=true->l.take k=List.range' i k
 | 0,_,_,_=>by simp
 | k+1,i,[],h=>by simp[preB]at h
 | k+1,i,a::l,h=>by
  simp only[preB,qP]at h;rw[List.take_succ_cons,List.range'_succ,Xo k (i+1) l h.2,rK h.1]
theorem ZP {a:Nat}:∀{l:List Nat},hasB a l=false->a ∉ l
 | [],_=>by simp
 | b::l,h=>by
  simp only[hasB,Bool.or_eq_false_iff]at h;intro hm;rcases qH.1 hm with rfl|hm
  ·rw[Nat.beq_refl]at h;cases h.1
  ·exact ZP h.2 hm
theorem Ur:∀{l:List Nat},av l=true->l.Nodup
 | [],_=>List.nodup_nil
 | a::l,h=>by
  simp only[av,qP,sW]at h;exact List.nodup_cons.2 ⟨ZP h.1,Ur h.2⟩
theorem QY {k n:Nat}{sel:List Nat}(h:Zk k n sel=true):sel.take k=List.range k/\sel.Nodup/\sel.all (·<n)=true:=by
 unfold Zk at h;simp only[qP]at h;exact⟨by rw[Xo k 0 sel h.1.1,List.range_eq_range'],Ur h.1.2,h.2⟩
theorem Wk.pq {k n:Nat}{e:Nat->AV}{st st1 st':List Row}{L:List (Nat×AV)}(sel:List Nat)(hc:Zk k st.length sel=true)(hp:CD st sel=st1)(hs:SR sel st1 st')(h:ME (λt=>Jx sel (e t)) L):
  Wk k ⟨n,e,st⟩ ⟨n,AL L,st'⟩:=SJ sel (QY hc).1 (QY hc).2.1 (QY hc).2.2 hp hs h
theorem IF {k n:Nat}{e:Nat->AV}{st st':List Row}{L:List (Nat×AV)}(sel:List Nat)(hc:Zk k st.length sel=true)(hp:CD st sel=st')(hs:SR sel st' st')(h:ME (λt=>Jx sel (e t)) L):
  Wk k ⟨n,e,st⟩ ⟨n,AL L,st'⟩:=Wk.pk sel (QY hc).1 (QY hc).2.1 (QY hc).2.2 hp hs h
theorem SR.w {sel:List Nat}{g size:Nat}{el:TypeId}{cs cs':List AV}{r r':List Row}(hl:SR sel r r')(hc:cs.map (Jw sel)=cs':=by rfl)(hp:cs'.all AV.leaf=true:=by rfl):SR sel (⟨g,el,size,[cs]⟩::r) (⟨g,el,size,[cs']⟩::r'):=.raw hc hp hl
theorem SR.p {α:Type}{l:List α}{enc:α->List AV}{sel:List Nat}{g size:Nat}{el:TypeId}{r r':List Row}(hl:SR sel r r')(h :∀x,(enc x).all simple=true:=by exact λ_=>rfl):SR sel (⟨g,el,size,l.map enc⟩::r) (⟨g,el,size,l.map enc⟩::r'):=.pure (AM h) hl
end Go.Abs
namespace Go.Abs
open Go
def Grow (w w':World):Prop:=w.heap.size<=w'.heap.size/\∀b,b<w.heap.size->w'.heap[b]?=w.heap[b]?
theorem Grow.refl (w:World):Grow w w:=⟨qU _,λ_ _=>rfl⟩
theorem Grow.trans {w1 w2 w3:World}(h:Grow w1 w2)(g:Grow w2 w3):Grow w1 w3:=⟨tl h.1 g.1,λb hb=>(g.2 b (rW hb h.1)).trans (h.2 b hb)⟩
def DC {α:Type}(m:Sem α):Prop:=∀P w v w',m.run P w=.ok v w'->Grow w w'
theorem DC.pure {α:Type}(a:α):DC (pure a:Sem α):=λ_ w _ _ h=>by cases h;exact Grow.refl w
theorem DC.halt {α:Type}(h:Halt):DC (.halt h:Sem α):=λ_ _ _ _ h=>by cases h
theorem DC.bind {α β:Type}{m:Sem α}{f:α->Sem β}(hm:DC m)(hf :∀a,DC (f a)):DC (m >>= f):=λP w v w' h=>by
 rw[qs]at h;cases hr:m.run P w with
 | ok a w2=>rw[hr]at h;exact (hm P w a w2 hr).trans (hf a P w2 v w' h)
 | halt x w2=>rw[hr]at h;cases h
theorem DC.load (a:Addr):DC (Go.load a):=λP w v w' h=>by
 unfold Go.load at h;simp only[Sem.run]at h;split at h
 ·cases h;exact Grow.refl w
 ·split at h
  ·cases h;exact Grow.refl w
  ·cases h
theorem DC.program:DC Go.program:=λP w v w' h=>by cases h;exact Grow.refl w
theorem DC.shape (r:Nat):DC (Go.shape r):=λP w v w' h=>by cases h;exact Grow.refl w
theorem DC.newObj (o:Obj):DC (Go.newObj o):=λP w v w' h=>by
 cases h;exact⟨by simp,λb hb=>by simp[Array.getElem?_push,Nat.ne_of_lt hb]⟩
theorem DC.choose (q:Question):DC (Go.choose q):=λP w v w' h=>by
 unfold Go.choose at h;simp only[Sem.run]at h;split at h<;>cases h<;>exact Grow.refl w
theorem DC.typeInfo (t:TypeId):DC (Go.typeInfo t):=.bind .program λp=>by split;exact .pure _;exact .halt _
theorem DC.underlying (t:TypeId):DC (Go.underlying t):=.bind .program λp=>by split;exact .pure _;exact .halt _
theorem DC.sizeOf (t:TypeId):DC (Go.sizeOf t):=.bind (.typeInfo t) λ_=>.pure _
theorem DC.zeroValue (t:TypeId):DC (Go.zeroValue t):=.bind (.typeInfo t) λ_=>by split;exact .pure _;exact .halt _
theorem DC.isAgg (t:TypeId):DC (Go.isAgg t):=.bind (.underlying t) λ_=>by split<;>exact .pure _
theorem DC.loadCellsFrom (a:Addr):∀(n i:Nat) (acc:Array Value),DC (Go.loadCellsFrom a i n acc)
 | 0,_,_=>.pure _
 | n+1,i,acc=>.bind (.load _) λv=>DC.loadCellsFrom a n (i+1) (acc.push v)
theorem DC.loadVar (t:TypeId)(a:Addr):DC (Go.loadVar t a):=.bind (.isAgg t) λb=>by
 split
 ·exact .bind (.sizeOf t) λn=>.bind (.loadCellsFrom a n 0 _) λ_=>.pure _
 ·exact .load a
theorem DC.sureAddr (v:Value):DC (Instr.sureAddr v):=by unfold Instr.sureAddr;split;exact .pure _;exact .halt _
theorem DC.loadAt (t:TypeId)(v:Value):DC (Instr.loadAt t v):=.bind (.sureAddr v) λa=>.loadVar t a
theorem DC.getObj (r:Nat):DC (Go.getObj r):=λP w v w' h=>by
 unfold Go.getObj at h;simp only[Sem.run]at h;split at h
 ·cases h
 ·cases h;exact Grow.refl w
 ·cases h
theorem DC.viewAt (r:Nat):DC (Go.viewAt r):=by
 unfold Go.viewAt;refine .bind (.shape r) λs=>?_
 repeat' first|exact .pure _|exact .halt _|exact .bind (.getObj r) (λo=>by split<;>exact .pure _)|split
theorem DC.noView (a:Addr):DC (Go.noView a):=by
 unfold Go.noView;refine .bind (.viewAt _) λs=>?_;split
 ·exact .halt _
 ·exact .pure _
theorem DC.byteOf (a:Addr):DC (Go.byteOf a):=by
 unfold Go.byteOf;dsimp only;split
 ·exact .pure _
 ·refine .bind .program λp=>.bind (.noView a) λ_=>.bind (.shape _) λs=>?_
  repeat' first|exact .pure _|exact .halt _|split
theorem DC.fieldPlace (a:Addr)(f:Field):DC (fieldPlace a f):=.bind (.sizeOf _) λn=>by
 split
 ·exact .bind (.byteOf _) λ_=>.bind (.byteOf _) λ_=>.pure _
 ·exact .pure _
theorem DC.fieldAt (s:TypeId)(v:Value)(f:Nat):DC (Instr.fieldAt s v f):=by
 unfold Instr.fieldAt;refine .bind (.underlying s) λd=>?_;split
 ·split
  ·exact .bind (.sureAddr v) λa=>.bind (.fieldPlace a _) λ_=>.pure _
  ·exact .halt _
 ·exact .halt _
theorem DC.asIntOf (v:Value):DC (Go.asIntOf v):=by
 unfold Go.asIntOf;split
 ·exact .pure _
 ·exact .halt _
 ·exact .halt _
theorem DC.SW {α:Type}(x y:Int)(s:Bool)(c:BoundsCode):DC (runtimePanic (.bounds x y s c):Sem α):=.bind .program λ_=>.halt _
theorem DC.boundsPanic {α:Type}(k:IntKind)(x y:Int)(c:BoundsCode):DC (Go.boundsPanic k x y c:Sem α):=by
 unfold Go.boundsPanic;dsimp only;split
 ·exact DC.bind (DC.bind (.choose _) λ_=>.pure _) λ_=>.SW _ _ _ _
 ·exact DC.bind (.pure _) λ_=>.SW _ _ _ _
theorem DC.indexAt (t:TypeId)(x i:Value):DC (Instr.indexAt t x i):=by
 unfold Instr.indexAt;dsimp only;refine .bind (.asIntOf i) λki=>.bind (.underlying t) λd=>?_
 repeat' first|exact .pure _|exact .halt _|exact .boundsPanic _ _ _ _|exact .sureAddr _|exact .underlying _|exact .sizeOf _|(refine .bind ?_ λ_=>?_)|split
theorem DC.newVar (t:TypeId)(v:Value):DC (Go.newVar t v):=.bind (.newObj _) λ_=>.pure _
theorem DC.alloc (t:TypeId):DC (Instr.alloc t true (.tuple #[])):=.bind (.zeroValue t) λz=>.bind (.newVar t z) λ_=>.pure _
theorem DC.box (t:TypeId)(v:Value):DC (Instr.box t v):=.bind (.newVar t v) λ_=>.pure _
theorem DC.buildSlice (t:TypeId)(n:Nat)(ps:Array (Nat×Value)):DC (Instr.buildSlice t n ps):=by
 unfold Instr.buildSlice;dsimp only
 repeat' first|exact .pure _|exact .halt _|exact .underlying _|exact .sizeOf _|exact .zeroValue _|exact .newObj _|(refine .bind ?_ λ_=>?_)|split
def Still (P:Program){α:Type}(m:Sem α):Prop:=∀w v w1,m.run P w=.ok v w1->w1=w/\∀w',m.run P w'=.ok v w'
section
variable {P : Program}
theorem Still.pure {α:Type}(a:α):Still P (pure a:Sem α):=λw _ _ h=>by cases h;exact⟨rfl,λ_=>rfl⟩
theorem Still.halt {α:Type}(h:Halt):Still P (.halt h:Sem α):=λ_ _ _ h=>by cases h
theorem Still.never {α:Type}{m:Sem α}(h :∀w v w1,m.run P w≠.ok v w1):Still P m:=λw v w1 e=>absurd e (h w v w1)
theorem Still.bind {α β:Type}{m:Sem α}{f:α->Sem β}(hm:Still P m)(hf :∀a,Still P (f a)):Still P (m >>= f):=λw v w1 h=>by
 rw[qs]at h;cases hr:m.run P w with
 | ok a w2=>
  rw[hr]at h;obtain⟨rfl,h1⟩:=hm w a w2 hr;obtain⟨rfl,h2⟩:=hf a w2 v w1 h;exact⟨rfl,λw'=>by rw[qs,h1 w'];exact h2 w'⟩
 | halt x w2=>rw[hr]at h;cases h
theorem Still.program:Still P Go.program:=λw v w1 h=>by cases h;exact⟨rfl,λ_=>rfl⟩
theorem Still.typeInfo (t:TypeId):Still P (Go.typeInfo t):=.bind .program λp=>by split;exact .pure _;exact .halt _
theorem Still.underlying (t:TypeId):Still P (Go.underlying t):=.bind .program λp=>by split;exact .pure _;exact .halt _
theorem Still.sizeOf (t:TypeId):Still P (Go.sizeOf t):=.bind (.typeInfo t) λ_=>.pure _
theorem Still.sureAddr (v:Value):Still P (Instr.sureAddr v):=by unfold Instr.sureAddr;split;exact .pure _;exact .halt _
theorem Still.asIntOf (v:Value):Still P (Go.asIntOf v):=by
 unfold Go.asIntOf;split
 ·exact .pure _
 ·exact .halt _
 ·exact .halt _
theorem Still.boundsPanic {α:Type}(k:IntKind)(x y:Int)(c:BoundsCode):Still P (Go.boundsPanic k x y c:Sem α):=.never λw v w1 h=>by
 unfold Go.boundsPanic at h;dsimp only at h;have hn:∀(s:Bool) w2,(runtimePanic (.bounds (IntKind.i64.wrap x) y s c):Sem α).run P w2≠.ok v w1:=λs w2 h=>by
  unfold runtimePanic at h;rw[qs]at h;cases h
 split at h
 ·rw[qs]at h;generalize ((λx=>x==1) <$> Go.choose (Question.extern "runtime.boundsError.signed" 2)).run P w=r at h;cases r with
  | ok a w2=>exact hn _ _ h
  | halt=>cases h
 ·exact hn _ _ h
theorem Still.indexAt (t:TypeId)(x i:Value):Still P (Instr.indexAt t x i):=by
 unfold Instr.indexAt;dsimp only;refine .bind (.asIntOf i) λki=>.bind (.underlying t) λd=>?_
 repeat' first|exact .pure _|exact .halt _|exact .boundsPanic _ _ _ _|exact .sureAddr _|exact .underlying _|exact .sizeOf _|(refine .bind ?_ λ_=>?_)|split
theorem Still.len {t ty:TypeId}{x:Value}(ht:DB P t=true):Still P (Builtin.len_ #[t] ty #[x]):=λw v w1 h=>by
 unfold DB at ht;split at ht
 ·rename_i e he;have hr:∀w',(Builtin.len_ #[t] ty #[x]).run P w'=(match x with|.slice _ n _=>.ok (goInt n) w'|_=>.halt (.stuck "len: string, array, pointer to array, slice, map or channel expected") w'):=λw'=>by
   unfold Builtin.len_;simp only[tE,qg,qs,rD he,qp];cases x<;>rfl
  rw[hr]at h;cases x<;>simp at h;obtain⟨rfl,rfl⟩:=h;exact⟨rfl,λw'=>hr w'⟩
 ·cases ht
end
def Un (o:Oper):Bool:=match o.op with
 | .move _|.assign _|.load ..|.fieldAddr ..|.indexAddr ..|.alloc _|.box ..|.buildSlice ..=>true
 | .call ⟨.builtin .len,_,_⟩=>true
 | _=>false
theorem NJ {P:Program}{m:Sem Value}{w w':World}{n:Next}(hm:DC m)(h:(do pure (Next.value (← m)):Sem Next).run P w=.ok n w'):(∃u,n=.value u)/\Grow w w':=by
 rw[qs]at h;cases hr:m.run P w with
 | ok a w2=>rw[hr]at h;cases h;exact⟨⟨_,rfl⟩,hm P w _ _ hr⟩
 | halt x w2=>rw[hr]at h;cases h
theorem DC.len (ts:Array TypeId)(ty:TypeId)(xs:Array Value):DC (Builtin.len_ ts ty xs):=by
 unfold Builtin.len_
 repeat' first|exact .pure _|exact .halt _|exact .underlying _|exact .getObj _|(refine .bind ?_ λ_=>?_)|split
theorem cQ {P:Program}{o:Oper}{ρ:Operand->Value}{w w':World}{n:Next}(h:Un o=true)(hr:(execOp ρ o).run P w=.ok n w'):(∃u,n=.value u)/\Grow w w':=by
 unfold Un at h;unfold execOp at hr;split at h<;>rename_i ho<;>try (cases h;done)
 all_goals rw[ho]at hr
 ·cases hr;exact⟨⟨_,rfl⟩,.refl _⟩
 ·cases hr;exact⟨⟨_,rfl⟩,.refl _⟩
 ·exact NJ (.loadAt _ _) hr
 ·exact NJ (.fieldAt _ _ _) hr
 ·exact NJ (.indexAt _ _ _) hr
 ·exact NJ (.alloc _) hr
 ·exact NJ (.box _ _) hr
 ·exact NJ (.buildSlice _ _ _) hr
 ·exact NJ (.len _ _ _) hr
section
variable {P : Program} {ops : Array Oper} {Q : Exit -> Act -> World -> Prop} {md : Region.Mode} {S : World -> Prop}
theorem dr {i:Nat}{o:Oper}{K:Act->World->Prop}{a:Act}{w0 w:World}(hi:ops[i]?=some o)(ht:Un o=true)(hG:Grow w0 w)(h:wpOp P ops Q i K a w):wpOp P ops Q i (λa' w'=>Grow w0 w'/\K a' w') a w:=by
 unfold wpOp at *;simp only[hi] at *;split
 ·rename_i hw;rw[qF hw]at h;refine h.imp (λh=>?_) id;unfold Oper.wp at *;cases hr:(execOp a.eval o).run P w with
  | ok n w'=>
   obtain⟨⟨u,rfl⟩,g⟩:=cQ ht hr;rw[hr]at h;simp only[Oper.upon]at h⊢;exact⟨hG.trans g,h⟩
  | halt x w'=>
   rw[hr]at h;cases x<;>simp only[Oper.upon]at h⊢;exact h
 ·rename_i hw;rw[qG hw]at h;exact⟨hG,h⟩
theorem bO {i:Nat}{oi:Oper}{v:Value}{w0:World}{wt:Nat->Bool}(hi:ops[i]?=some oi)(hsel :∀(j:Nat) (o:Oper) cs b,ops[j]?=some o->o.op≠.select cs b)
  (hQ :∀c a w,Q (.panic c) (a.put oi.dst v) w->Q (.panic c) a w)
  (yp :∀j oj,ops[j]?=some oj->wt j=true->∃e∈oj.after,Region.binds md e=true/\(e.on=i∨wt e.on=true)) :
  ∀(fuel:Nat) (uU:Array Bool) (a:Act) (w:World),
   (∀j oj,ops[j]?=some oj->j≠i->uU.getD j true=false->(∀e∈oj.after,Region.binds md e=true->e.on≠i)->oi.apart ops oj=true)->
   (∀j,wt j=true->uU.getD j true=false)->
   (∀j oj,ops[j]?=some oj->j≠i->uU.getD j true=false->wt j=false->Un oj=true)->
   i∈Region.ready md ops uU->YieldsIf P ops (Grow w0) oi v a->Grow w0 w->S w->
   wpAnyH P md ops Q S fuel (uU.setIfInBounds i true) (a.put oi.dst v) w->wpAnyH P md ops Q S (fuel+1) uU a w:=by
 intro fuel
 induction fuel with
 | zero=>
  intro uU a w _ _ _ hr hy hG hS H;refine⟨λh=>(by rw[h]at hr;cases hr),λj hj=>?_⟩;by_cases xN:j=i
  ·subst xN;exact hy.wpOp hi hG ⟨hS,H⟩
  ·have:=sc hj xN;rw[H.1]at this;cases this
 | succ fuel ih=>
  intro uU a w xk hwt htm hr hy hG hS H;refine⟨λh=>(by rw[h]at hr;cases hr),λj hj=>?_⟩;by_cases xN:j=i
  ·subst xN;exact hy.wpOp hi hG ⟨hS,H⟩
  ·have h1:=H.2 j (sc hj xN);obtain⟨yZ,oj,xl,wY⟩:=si.1 hj;have off:∀(k:Nat),uU.getD k true=false->∀e∈oj.after,Region.binds md e=true->e.on≠k:=λk hk e he hb heq=>by
    have h1:=wY e he hb;rw[heq]at h1;rcases rn k uU.size with h'|h'
    ·simp[h']at hk h1;rw[hk]at h1;cases h1
    ·simp[sy h']at h1
   have hnot:=off i (si.1 hr).1;have hnw:wt j=false:=by
    cases hw:wt j with
    | false=>rfl
    | true=>
     obtain⟨e,he,hb,h|h⟩:=yp j oj xl hw
     ·exact absurd h (hnot e he hb)
     ·exact absurd rfl (off e.on (hwt _ h) e he hb)
   have h2:=dr xl (htm j oj xl xN yZ hnw) hG (wpOp_putIf xl (xk j oj xl xN yZ hnot) (λcs b=>hsel i oi cs b hi) (λcs b=>hsel j oj cs b xl) hQ hy h1);have yX:∀k,(uU.setIfInBounds j true).getD k true=false->uU.getD k true=false:=λk xR=>by
    by_cases hjk:j=k
    ·subst hjk;exact yZ
    ·rw[tJ true hjk]at xR;exact xR
   refine wpOp_mono (λa' w' h3=>⟨h3.2.2.1,ih (uU.setIfInBounds j true) a' w' (λk ok hk xO xR hno=>xk k ok hk xO (yX k xR) hno) (λk hk=>?_) (λk ok hk xO xR hw=>htm k ok hk xO (yX k xR) hw) (sc hr (rX xN)) h3.2.1 h3.1 h3.2.2.1 ?_⟩) h2
   ·rw[tJ true (λe=>by subst e;rw[hk]at hnw;cases hnw)];exact hwt k hk
   ·rw[sm _ _ xN];exact h3.2.2.2
theorem X0:∀(fuel:Nat) (uU:Array Bool) (a:Act) (w:World),wpAny P md ops Q fuel uU a w->wpAnyH P md ops Q (λ_=>True) fuel uU a w
 | 0,_,_,_,h=>h
 | fuel+1,_,_,_,h=>⟨h.1,λi hi=>wpOp_mono (λa' w' h'=>⟨pw,X0 fuel _ a' w' h'⟩) (h.2 i hi)⟩
def waiters (ops:Array Oper)(i:Nat):List Bool:=
 ops.toList.foldl (λacc o=>acc++[o.after.any λe=>Region.binds .any e&&(Nat.beq e.on i || acc.getD e.on false)]) []
def ft (ops:Array Oper)(uU:Array Bool)(i:Nat):Bool:=
 let wt:=waiters ops i
 (List.range ops.size).all λj=>match ops[j]? with
  | none=>true
  | some o=>(bif wt.getD j false then !uU.getD j true&&o.after.any (λe=>Region.binds .any e&&(Nat.beq e.on i || wt.getD e.on false)) else true)&&(Nat.beq j i || uU.getD j true || wt.getD j false || Un o)
def Ov (ops:Array Oper)(uU:Array Bool)(i n:Nat)(d:Option Tmp):Bool:=
 Region.noSelect ops&&Region.free .any ops uU i&&(Region.ready .any ops uU).contains i&&DG n d&&Nat.beq (waiters ops i).length ops.size&&ft ops uU i
theorem TR {i:Nat}{oi:Oper}{v:Value}{fuel n:Nat}{uU:Array Bool}{a:Act}{w:World}(hi:ops[i]?=some oi)(hc:Ov ops uU i n oi.dst=true)
  (hQ :∀c a w,Q (.panic c) (a.put oi.dst v) w->Q (.panic c) a w) (hy:YieldsIf P ops (Grow w) oi v a) (hS:S w)
  (h:wpAnyH P .any ops Q S fuel (uU.setIfInBounds i true) (a.put oi.dst v) w):wpAnyH P .any ops Q S (fuel+1) uU a w:=by
 unfold Ov at hc;simp only[qP]at hc;obtain⟨⟨⟨⟨⟨c1,c2⟩,c3⟩,_⟩,c5⟩,c6⟩:=hc;have c5:=rK c5;unfold ft at c6;have c6:=λ(j:Nat) (o:Oper) (ho:ops[j]?=some o)=>by
  have:=qC.1 c6 j (rm.2 (qv.1 ho).1);rw[ho]at this;simpa only[qP] using this
 have vS:∀j,(waiters ops i).getD j false=true->∃o,ops[j]?=some o:=λj hj=>by
  rcases rn j ops.size with h'|h'
  ·exact⟨_,rU h'⟩
  ·rw[sa,rR (by omega)]at hj;cases hj
 refine bO (wt:=λj=>(waiters ops i).getD j false) hi (Region.noSelect_spec c1) hQ ?_ fuel uU a w (tj hi c2) ?_ ?_ (by simpa using c3) hy (.refl w) hS h
 ·intro j oj hj hw;have:=(c6 j oj hj).1;rw[hw,cond_true,qP]at this;obtain⟨e,he,h2⟩:=Array.any_eq_true'.1 this.2;simp only[qP,tK]at h2;exact⟨e,he,h2.1,h2.2.imp rK id⟩
 ·intro j hw;obtain⟨oj,hj⟩:=vS j hw;have:=(c6 j oj hj).1;rw[hw,cond_true,qP]at this;simpa using this.1
 ·intro j oj hj xN xR hw;have:=(c6 j oj hj).2;rw[xR,hw]at this;simpa [xN] using this
end
def Sn (P:Program)(s:St)(o:Oper)(v:AV):Prop:=
 o.guard=none/\∀F os a w,Rel F os s a w->∃u,(∀w',Grow w w'->(execOp a.eval o).run P w'=.ok (.value u) w')/\Ac F w os v u
section
variable {P : Program} {s : St} {o : Oper} {v : AV} {n : Nat} {e : Nat -> AV} {st : List Row} {t : Tmp} {ty : TypeId} {ps : String} {ed : Array Edge} {x : Operand}
theorem Qm.G (h:Qm P s o v):Sn P s o v:=⟨h.1,λF os a w hr=>let ⟨u,h1,h2⟩:=h.2 F os a w hr;⟨u,λw' g=>h1 w' (λb hb=>g.2 b (hr.HO b hb)),h2⟩⟩
theorem Ug (hq:AQ P s o.op v)(hg:o.guard=none)(hs :∀ρ,Still P (execOp ρ o)):N0 P s o v:=
 ⟨hg,λF os a w hr=>by
  obtain⟨x,u,rfl,h1,h2⟩:=Ti hr (hq (·=v) rfl);exact⟨u,(hs _ w _ _ h1).2,h2⟩⟩
theorem YT {F:Nat->Prop}{os:List Own}{a:Act}{w:World}{id g i off:Nat}{el:TypeId}{size:Nat}{xs:List (List AV)}{cs:List AV}(hr:Rel F os ⟨n,e,st⟩ a w)(h:St.ev ⟨n,e,st⟩ x=.ptr id g i off)(uj:st[id]?=some ⟨g,el,size,xs⟩)(hi:xs[i]?=some cs):
  ∃b,a.eval x=.pointer (some ⟨b,i*size+off,none⟩)/\b<w.heap.size/\∀j c,cs[j]?=some c->∃u,w.cell? ⟨b,i*size+j,none⟩=some u/\Ac F w os c u:=by
 have h1:=hr.ev x;rw[h]at h1;simp only[Ac]at h1;obtain⟨o,ho,_,_,h2⟩:=h1;have vX:os.map Own.row=st:=hr.st;have hg:o.row=⟨g,el,size,xs⟩:=by
  rw[<- vX,qA,ho]at uj;simpa using uj
 rw[hg]at h2;obtain⟨_,_,b,hb,hv⟩:=h2 rfl;obtain⟨_,cur,h3,_,_,_,h6⟩:=(hr.rows id o ho).some b hb;rw[hg]at h3 h6;refine⟨b,hv,(qv.1 h3).1,λj c hc=>?_⟩;obtain⟨u,h7,h8⟩:=h6 i cs hi j c hc;exact⟨u,by simp only[World.cell?,h3];exact h7,h8⟩
theorem Tg {id g i off sz:Nat}{tt el:TypeId}{size:Nat}{xs:List (List AV)}{cs:List AV}{c:AV}(hti:De P tt=some (false,sz))(h:St.ev ⟨n,e,st⟩ x=.ptr id g i off)(uj:st[id]?=some ⟨g,el,size,xs⟩)(hi:xs[i]?=some cs)(hc:cs[off]?=some c):Sn P ⟨n,e,st⟩ ⟨some t,.load tt x,ty,ps,ed,none⟩ c:=
 ⟨rfl,λF os a w hr=>by
  obtain⟨b,e2,hb,xV⟩:=YT hr h uj hi;obtain⟨d,i',hud,xj,e1,e3⟩:=Kd hti;obtain⟨u,hu1,xg⟩:=xV off c hc;refine⟨u,λw' hw'=>?_,xg⟩;have yC:=Mp (w:=w') hud;rw[<- e1]at yC;have vn:w'.cell? ⟨b,i*size+off,none⟩=some u:=by rw[<- hu1];exact sP (hw'.2 b hb)
  simp[execOp,e2,Instr.loadAt,Instr.sureAddr,loadVar,yC,vn]⟩
theorem dL {id g i off sz:Nat}{tt el:TypeId}{size:Nat}{xs:List (List AV)}{cs:List AV}(hti:De P tt=some (true,sz))(h:St.ev ⟨n,e,st⟩ x=.ptr id g i off)(uj:st[id]?=some ⟨g,el,size,xs⟩)(hi:xs[i]?=some cs)(hl:off+sz<=cs.length):Sn P ⟨n,e,st⟩ ⟨some t,.load tt x,ty,ps,ed,none⟩ (.agg ((cs.drop off).take sz)):=
 ⟨rfl,λF os a w hr=>by
  obtain⟨b,e2,hb,hx⟩:=YT hr h uj hi;obtain⟨d,i',hud,xj,e1,e3⟩:=Kd hti;have hch:∃f:Nat->Value,∀j,j<sz->w.cell? ((⟨b,i*size+off,none⟩:Addr).add j)=some (f j)/\∀c,cs[off+j]?=some c->Ac F w os c (f j):=
   ⟨λj=>(w.cell? ((⟨b,i*size+off,none⟩:Addr).add j)).getD undef,λj hj=>by
    have vS:off+j<cs.length:=by omega
    obtain⟨u,hu1,xg⟩:=hx (off+j) cs[off+j] (qD vS);have hu1':w.cell? ((⟨b,i*size+off,none⟩:Addr).add j)=some u:=by rw[Db,<- hu1,rF]
    simp only[hu1',sN];refine⟨pw,λc hc=>?_⟩;rw[qD vS,pz]at hc;exact hc▸xg⟩
  obtain⟨f,hf⟩:=hch;refine⟨.agg ((List.range sz).map f).toArray,λw' hw'=>?_,?_⟩
  ·have yC:=Mp (w:=w') hud;rw[<- e1]at yC;have vY:(sizeOf tt).run P w'=.ok i'.size w':=by simp[sizeOf,typeInfo,xj]
   have hlc:=run_loadCells (P:=P) w' ⟨b,i*size+off,none⟩ sz f (λj hj=>by
    rw[<- (hf j hj).1,Db];exact sP (hw'.2 b hb))
   simp only at e3;simp[execOp,e2,Instr.loadAt,Instr.sureAddr,loadVar,yC,vY,<- e3,hlc]
  ·simp only[Ac];refine⟨_,rfl,Df (by simp;omega) λj c u hc hu=>?_⟩;simp only[ql,qy]at hc;split at hc
   ·rename_i hj;simp only[qA,sH hj,qx,pz]at hu;subst hu;exact (hf j hj).2 c hc
   ·cases hc⟩
def hE (T:MK P)(s:St):Op->Option AV
 | .move x=>fo (s.ev x)
 | .assign x=>fo (s.ev x)
 | .fieldAddr t x f=>match s.ev x with
  | .CT cs off=>(Pm T.f t f).bind λj=>some (.CT cs (off+j))
  | .ptr id g i off=>(Pm T.f t f).bind λj=>Zf g s.st[id]? λr=>bif Nat.ble (off+j) r.size then some (.ptr id g i (off+j)) else none
  | _=>none
 | .load t x=>XO T s t (s.ev x)
 | _=>none
def fO:Op->Bool
 | .load ..=>false
 | _=>true
theorem mh {T:MK P}{op:Op}(h:hE T ⟨n,e,st⟩ op=some v):(fO op=true/\N0 P ⟨n,e,st⟩ ⟨some t,op,ty,ps,ed,none⟩ v)∨(fO op=false/\Sn P ⟨n,e,st⟩ ⟨some t,op,ty,ps,ed,none⟩ v):=by
 unfold hE at h;split at h
 ·exact .inl ⟨rfl,D7 (Qr h)⟩
 ·exact .inl ⟨rfl,iW (Qr h)⟩
 ·split at h
  ·rename_i hx;obtain⟨j,h1,h2⟩:=qh.1 h;cases h2;exact .inl ⟨rfl,NL (SY h1) hx rfl⟩
  ·rename_i hx;obtain⟨j,h1,h2⟩:=qh.1 h;obtain⟨el,size,xs,hr,h2⟩:=O0 h2;simp only at h2;cases hb:Nat.ble (_+j) size with
   | false=>rw[hb]at h2;cases h2
   | true=>rw[hb]at h2;cases h2;exact .inl ⟨rfl,Kr (SY h1) hx hr (rS hb) rfl⟩
  ·cases h
 ·refine .inr ⟨rfl,?_⟩;unfold XO at h;split at h
  ·rename_i hx;obtain⟨⟨b,sz⟩,h1,h2⟩:=qh.1 h;rcases Nk h2 with ⟨hb,h3⟩|⟨hb,h3,rfl⟩<;>simp only at hb<;>subst hb
   ·exact (OW (MF h1) hx h3).G
   ·exact (MB (MF h1) hx h3 rfl).G
  ·rename_i hx;obtain⟨el,size,xs,hr,h⟩:=O0 h;obtain⟨cs,hi,h⟩:=qh.1 h;obtain⟨⟨b,sz⟩,h1,h2⟩:=qh.1 h;rcases Nk h2 with ⟨hb,h3⟩|⟨hb,h3,rfl⟩<;>simp only at hb<;>subst hb
   ·exact Tg (MF h1) hx hr hi h3
   ·exact dL (MF h1) hx hr hi h3
  ·cases h
 ·cases h
def Sk (P:Program):Op->Bool
 | .indexAddr ..=>true
 | .call ⟨.builtin .len,xs,ts⟩=>match xs.toList,ts.toList with
  | [_],[t]=>DB P t
  | _,_=>false
 | _=>false
theorem YZ {op:Op}(h:Sk P op=true)(ρ:Operand->Value):Still P (execOp ρ ⟨some t,op,ty,ps,ed,none⟩):=by
 unfold Sk at h;split at h
 ·exact Still.bind (.indexAt _ _ _) λ_=>.pure _
 ·rename_i xs ts;split at h
  ·rename_i x t' h1 h2;obtain rfl:xs=#[x]:=by rw[<- sZ (xs:=xs),h1]
   obtain rfl:ts=#[t']:=by rw[<- sZ (xs:=ts),h2]
   exact Still.bind (m:=Builtin.len_ #[t'] ty (#[x].map ρ)) (by simpa using Still.len h) λ_=>.pure _
  ·cases h
 ·cases h
end
def Ye (ops:Array Oper)(uU:Array Bool)(i n:Nat)(d:Option Tmp):Bool:=
 Region.noSelect ops&&Region.free .any ops uU i&&(Region.ready .any ops uU).contains i&&DG n d
def YD (ops:Array Oper)(uU:Array Bool)(i n:Nat)(d:Option Tmp)(op:Op):Bool:=
 bif fO op then Ye ops uU i n d else Ov ops uU i n d
section
variable {P : Program} {k : Nat} {ops : Array Oper} {Q : Exit -> St -> Prop} {N f : Nat} {uU : Array Bool} {s : St} {o : Oper} {v : AV} {n : Nat} {e : Nat -> AV} {st : List Row} {t : Tmp} {op : Op} {ty : TypeId} {ps : String} {ed : Array Edge}
theorem PO {K:Prop}{i:Nat}{d:Option Tmp}(hc:Ye ops uU i n d=true)(h:Region.noSelect ops=true->Region.free .any ops uU i=true->(Region.ready .any ops uU).contains i=true->DG n d=true->K):K:=by
 unfold Ye at hc;simp only[qP]at hc;exact h hc.1.1.1 hc.1.1.2 hc.1.2 hc.2
theorem XV (i:Nat)(hn:s.n=N)(ho:ops[i]?=some o)(hc:Ov ops uU i N o.dst=true)(hh:Sn P s o v)(h:AX P k ops Q N f (uU.setIfInBounds i true) (s.put o.dst v)):AX P k ops Q N (f+1) uU s:=
 ⟨hn,λF0 os0 w0 F os a w vb he=>by
  obtain⟨hg,hh⟩:=hh;obtain⟨u,hu,hv⟩:=hh F os a w vb;have hd:DG s.n o.dst=true:=by
   unfold Ov at hc;simp only[qP]at hc;rw[hn];exact hc.1.1.2
  exact wpAny_of_held (S:=λ_=>True) _ _ _ _ (TR ho hc (λc a w ⟨_,_,_,hp,_⟩=>nomatch hp.1) (.inl ⟨by unfold Region.wanted;rw[hg],hu⟩) pw (X0 _ _ _ _ (h.2 F0 os0 w0 F os _ w (vb.put hd hv) he)))⟩
theorem Xf (i:Nat)(hn:s.n=N)(ho:ops[i]?=some o)(hc:Ov ops uU i N o.dst=true)(hh:Sn P s o v)(h:AY P k ops Q N f (uU.setIfInBounds i true) (s.put o.dst v)):AY P k ops Q N (f+1) uU s:=
 ⟨hn,λF0 os0 w0 F os a w vb he=>by
  obtain⟨hg,hh⟩:=hh;obtain⟨u,hu,hv⟩:=hh F os a w vb;have hd:DG s.n o.dst=true:=by
   unfold Ov at hc;simp only[qP]at hc;rw[hn];exact hc.1.1.2
  exact TR ho hc (λc a w ⟨_,_,_,hp,_⟩=>nomatch hp.1) (.inl ⟨by unfold Region.wanted;rw[hg],hu⟩) he.KX (h.2 F0 os0 w0 F os _ w (vb.put hd hv) he)⟩
theorem dE (T:MK P)(i:Nat)(ho:ops[i]?=some ⟨some t,op,ty,ps,ed,none⟩)(hc:YD ops uU i n (some t) op=true)(h:hE T ⟨n,e,st⟩ op=some v)(hk:AX P k ops Q n f (uU.setIfInBounds i true) ⟨n,Dr e t v,st⟩):AX P k ops Q n (f+1) uU ⟨n,e,st⟩:=by
 unfold YD at hc;rcases mh (t:=t) (ty:=ty) (ps:=ps) (ed:=ed) h with ⟨hp,hh⟩|⟨hp,hh⟩
 ·rw[hp]at hc;exact PO hc λa b c d=>MH i rfl ho a b c d hh hk
 ·rw[hp]at hc;exact XV i rfl ho hc hh hk
theorem AY.hq (T:MK P)(i:Nat)(ho:ops[i]?=some ⟨some t,op,ty,ps,ed,none⟩)(hc:YD ops uU i n (some t) op=true)(h:hE T ⟨n,e,st⟩ op=some v)(hk:AY P k ops Q n f (uU.setIfInBounds i true) ⟨n,Dr e t v,st⟩):AY P k ops Q n (f+1) uU ⟨n,e,st⟩:=by
 unfold YD at hc;rcases mh (t:=t) (ty:=ty) (ps:=ps) (ed:=ed) h with ⟨hp,hh⟩|⟨hp,hh⟩
 ·rw[hp]at hc;exact PO hc λa b c d=>Rm i rfl ho a b c d hh hk
 ·rw[hp]at hc;exact Xf i rfl ho hc hh hk
theorem AX.ha (i:Nat)(ho:ops[i]?=some ⟨some t,op,ty,ps,ed,none⟩)(hc:Ye ops uU i n (some t)=true)(hs:Sk P op=true)(h:AQ P ⟨n,e,st⟩ op v)(hk:AX P k ops Q n f (uU.setIfInBounds i true) ⟨n,Dr e t v,st⟩):AX P k ops Q n (f+1) uU ⟨n,e,st⟩:=
 PO hc λa b c d=>MH i rfl ho a b c d (Ug h rfl λρ=>YZ hs ρ) hk
theorem AY.ha (i:Nat)(ho:ops[i]?=some ⟨some t,op,ty,ps,ed,none⟩)(hc:Ye ops uU i n (some t)=true)(hs:Sk P op=true)(h:AQ P ⟨n,e,st⟩ op v)(hk:AY P k ops Q n f (uU.setIfInBounds i true) ⟨n,Dr e t v,st⟩):AY P k ops Q n (f+1) uU ⟨n,e,st⟩:=
 PO hc λa b c d=>Rm i rfl ho a b c d (Ug h rfl λρ=>YZ hs ρ) hk
end
end Go.Abs
namespace Go.Abs
open Go
section
variable {P : Program} {k : Nat} {ops : Array Oper} {Q : Exit -> St -> Prop} {n m len : Nat} {st st' R : List Row} {e : Nat -> AV} {ds : List (Option Tmp)} {d : Option Tmp} {t : Tmp} {T el ty : TypeId} {ps : String} {ed : Array Edge} {v v' : AV} {r : List Oper} {gd : Option (Nat × Bool)} {xs : List (List AV)} {g size sz bytes : Nat} {zz cs : List AV} {x y : Operand} {f : FuncId} {vf : Array Operand} {ts : Array TypeId} {vV : List AV} {ag : Bool} {parts : Array (Nat × Operand)} {α : Type}
theorem BU {β:Type}{a b:β}(h:some a=some b):b=a:=(Sh.Bt h).symm
theorem Bf {l:List α}{enc:α->List AV}(h :∀x,(enc x).all simple=true:=by exact λ_=>rfl):D0 (l.map enc):=AM h
theorem D8 (L:List (Nat×AV))(st':List Row)(id:Nat){l:List α}{enc:α->List AV}(uj:st[id]?=some ⟨g,el,size,l.map enc⟩)(h:ME (λt=>Abs.Bg id g (l.map enc) (e t)) L)(hp :∀x,(enc x).all simple=true)(hc:(Nat.ble k id,st.set id ⟨g+1,el,size,[]⟩)=(true,st'))(hk:AO P k ops Q ds r ⟨n,AL L,st'⟩):AO P k ops Q ds r ⟨n,e,st⟩:=
 BD (Wk.Bg uj (rS (rC Prod.fst hc)) (AM hp) h (rC Prod.snd hc)) hk
theorem CF (m:Nat)(l:List α)(enc:α->List AV)(he:DR P T=some ⟨el,size,bytes,zz⟩)(h:(Nat.ble (len*size) 16777216,(NF (λi=>some (i*size,size)) ((List.replicate len zz).flatten) (parts.toList.map λp=>(p.1,St.ev ⟨n,e,st⟩ p.2))).map (chunk size len),len,st.length)=(true,some (l.map enc),l.length,m))
  (hk:AO P k ops Q (ds++[some t]) r ⟨n,Dr e t (.own m 0 l.length),st++[⟨0,el,size,l.map enc⟩]⟩):AO P k ops Q ds (⟨some t,.buildSlice T len parts,ty,ps,ed,none⟩::r) ⟨n,e,st⟩:=by
 simp only[rL]at h;obtain⟨h1,h2,h3,h4⟩:=h;obtain⟨cs,hc,hck⟩:=qB.1 h2;exact MN AT he (rS h1) rfl hc hck h3 h4 rfl hk
def oY (sz n:Nat)(e:Nat->AV)(st:List Row)(x y:Operand):Option (List Row):=
 match St.ev ⟨n,e,st⟩ x with
 | .ptr id g i off=>match st[id]? with
  | some ⟨g',el,size,xs⟩=>match xs[i]? with
   | some zz=>match Lo (St.ev ⟨n,e,st⟩ y) with
    | some cs=>match Nat.beq g' g,Nat.beq cs.length sz,Nat.ble (off+cs.length) size with
     | true,true,true=>some (st.set id ⟨g',el,size,xs.set i (IK zz off cs)⟩)
     | _,_,_=>none
    | none=>none
   | none=>none
  | none=>none
 | _=>none
theorem Bp (ht:De P T=some (ag,sz))(h:oY sz n e st x y=some st')(hk:AO P k ops Q (ds++[none]) r ⟨n,e,st'⟩):AO P k ops Q ds (⟨none,.store T x y,ty,ps,ed,none⟩::r) ⟨n,e,st⟩:=by
 unfold oY at h;split at h
 ·rename_i id g i off hx;split at h
  ·rename_i g' el size xs hr;split at h
   ·rename_i zz hi;split at h
    ·rename_i cs hc;split at h
     ·rename_i h1 h2 h3;obtain rfl:=rK h1;exact Sb AT ht hx hr hi rfl hc (rK h2) (rS h3) (sF h) hk
     ·cases h
    ·cases h
   ·cases h
  ·cases h
 ·cases h
def oV (sz:Nat)(s:St)(x:Operand):Option (List AV):=
 match s.ev x with
 | .ptr id g i off=>match s.st[id]? with
  | some ⟨g',_,_,xs⟩=>match xs[i]? with
   | some cs=>match Nat.beq g' g,Nat.ble (off+sz) cs.length with
    | true,true=>some ((cs.drop off).take sz)
    | _,_=>none
   | none=>none
  | none=>none
 | _=>none
theorem Gw (x:Operand)(vs:List AV){s:St}(ht:De P T=some (true,sz))(h:oV sz s x=some vs):AQ P s (.load T x) (.agg vs):=by
 unfold oV at h;split at h
 ·rename_i id g i off hx;split at h
  ·rename_i g' el size xs hr;split at h
   ·rename_i cs hi;split at h
    ·rename_i h1 h2;obtain rfl:=rK h1;exact DD ht hx hr hi (rS h2) (sF h)
    ·cases h
   ·cases h
  ·cases h
 ·cases h
theorem Et (m:Nat)(h:((Lo (St.ev ⟨n,e,st⟩ x)).bind λcs=>if cs.isEmpty then none else some cs,st.length)=(some cs,m))(hk:AO P k ops Q (ds++[some t]) r ⟨n,Dr e t (.ptr m 0 0 0),st++[⟨0,T,cs.length,[cs]⟩]⟩):AO P k ops Q ds (⟨some t,.box T x,ty,ps,ed,none⟩::r) ⟨n,e,st⟩:=by
 simp only[rL]at h;obtain⟨cs',h1,h2⟩:=qh.1 h.1;split at h2
 ·cases h2
 ·rename_i vZ;obtain rfl:=sF h2;exact mW AT rfl h1 (by simpa using vZ) h.2 rfl hk
theorem Cn (m:Nat)(hz:HN P T=some zz)(hm:st.length=m)(hk:AO P k ops Q (ds++[some t]) r ⟨n,Dr e t (.ptr m 0 0 0),st++[⟨0,T,zz.length,[zz]⟩]⟩):AO P k ops Q ds (⟨some t,.alloc T,ty,ps,ed,none⟩::r) ⟨n,e,st⟩:=Vu AT hz hm rfl hk
def eU:List Nat->Bool
 | []=>true
 | a::l=>!l.any (Nat.beq a)&&eU l
theorem aE:∀{l:List Nat},eU l=true->l.Nodup
 | [],_=>.nil
 | a::l,h=>by
  simp only[eU,qP,sW,List.any_eq_false]at h;exact List.nodup_cons.2 ⟨λhm=>h.1 a hm (Nat.beq_refl a),aE h.2⟩
def lW (A B:List Row)(sel:List Nat)(st:List Row)(vs:List AV)(v:AV):=(eU sel,sel.all (Nat.blt · st.length),CD st sel,vs.map (Jx sel),B.length,SU sel st.length v,Fc sel B 0 st)
theorem ob (A B st':List Row)(v':AV)(sel:List Nat)(hg:GO ds gd e)(hb:Cr P f=true)(hc:BS P f vV A λr st=>r=v/\st=B)(h:lW A B sel st (vf.toList.map (St.ev ⟨n,e,st⟩)++[]) v=(true,true,A,vV,sel.length,v',st'))
  (hs:SR sel A A) (h1:UN sel st.length B B) (hk:AO P k ops Q (ds++[d]) r (St.put ⟨n,e,st'⟩ d v')):AO P k ops Q ds (⟨d,.call ⟨.value (.func f),vf,ts⟩,ty,ps,ed,gd⟩::r) ⟨n,e,st⟩:=by
 simp only[lW,rL]at h;obtain⟨a1,a2,a3,a4,a5,a6,a7⟩:=h;exact Vp sel hg hb hc rfl (aE a1) (qC.2 λi hi=>by have:=qC.1 a2 i hi;simp only[Nat.blt]at this;exact sE (rS this)) a3 hs a4 a5 h1 .nil a6 a7 hk
theorem IE {e1 e2:TypeId}{g1 g2 z1 z2:Nat}{c1 c2:List AV}(st':List Row)(v':AV)(sel:List Nat)(hg:GO ds gd e)(hb:Cr P f=true)(hc:BS P f vV [⟨g1,e1,z1,[c1]⟩] λr st=>r=v/\st=[⟨g2,e2,z2,[c2]⟩])(h:lW [⟨g1,e1,z1,[c1]⟩] [⟨g2,e2,z2,[c2]⟩] sel st (vf.toList.map (St.ev ⟨n,e,st⟩)++[]) v=(true,true,[⟨g1,e1,z1,[c1]⟩],vV,sel.length,v',st'))
  (h1:(c1.map (Jw sel),c1.all AV.leaf,c2.map (Mj sel st.length),c2.all AV.leaf)=(c1,true,c2,true)) (hk:AO P k ops Q (ds++[d]) r (St.put ⟨n,e,st'⟩ d v')):AO P k ops Q ds (⟨d,.call ⟨.value (.func f),vf,ts⟩,ty,ps,ed,gd⟩::r) ⟨n,e,st⟩:=by
 simp only[rL]at h1;exact ob _ _ st' v' sel hg hb hc h (.raw h1.1 h1.2.1 .nil) (.raw h1.2.2.1 h1.2.2.2 .nil) hk
theorem QT {β:Type}{e1 e2 e3 e4:TypeId}{g1 g2 g3 g4 z1 z2 z3 z4:Nat}{c1 c2:List AV}{l1:List α}{l2:List β}{n1:α->List AV}{n2:β->List AV}(st':List Row)(v':AV)(sel:List Nat)(hg:GO ds gd e)(hb:Cr P f=true)(hc:BS P f vV [⟨g1,e1,z1,[c1]⟩,⟨g3,e3,z3,l1.map n1⟩] λr st=>r=v/\st=[⟨g2,e2,z2,[c2]⟩,⟨g4,e4,z4,l2.map n2⟩])(h:lW [⟨g1,e1,z1,[c1]⟩,⟨g3,e3,z3,l1.map n1⟩] [⟨g2,e2,z2,[c2]⟩,⟨g4,e4,z4,l2.map n2⟩] sel st (vf.toList.map (St.ev ⟨n,e,st⟩)++[]) v=(true,true,[⟨g1,e1,z1,[c1]⟩,⟨g3,e3,z3,l1.map n1⟩],vV,sel.length,v',st'))
  (h1:(c1.map (Jw sel),c1.all AV.leaf,c2.map (Mj sel st.length),c2.all AV.leaf)=(c1,true,c2,true)) (p1 :∀x,(n1 x).all simple=true) (p2 :∀x,(n2 x).all simple=true) (hk:AO P k ops Q (ds++[d]) r (St.put ⟨n,e,st'⟩ d v')):AO P k ops Q ds (⟨d,.call ⟨.value (.func f),vf,ts⟩,ty,ps,ed,gd⟩::r) ⟨n,e,st⟩:=by
 simp only[rL]at h1;exact ob _ _ st' v' sel hg hb hc h (.raw h1.1 h1.2.1 (.pure (AM p1) .nil)) (.raw h1.2.2.1 h1.2.2.2 (.pure (AM p2) .nil)) hk
theorem HX {args:List AV}(hb:Cr P f=true)(hc:BS P f args [] λr st=>r=v/\st=[])(h:(vf.toList.map (St.ev ⟨n,e,st⟩)++[],args.all flat,fo (shift st.length v))=(args,true,some v'))(hk:AO P k ops Q (ds++[d]) r (St.put ⟨n,e,st⟩ d v')):AO P k ops Q ds (⟨d,.call ⟨.value (.func f),vf,ts⟩,ty,ps,ed,none⟩::r) ⟨n,e,st⟩:=by
 simp only[rL]at h;exact zc hb hc h.1 h.2.1 h.2.2 hk
theorem Dj {args:List AV}(v':AV)(hb:Cr P f=true)(hc:BS P f args [] λr st=>r=v/\st=[])(h:(vf.toList.map (St.ev ⟨n,e,st⟩)++[],args.all flat,fo (shift st.length v))=(args,true,some v'))(hk:AO P k ops Q (ds++[d]) r (St.put ⟨n,e,st⟩ d v')):AO P k ops Q ds (⟨d,.call ⟨.value (.func f),vf,ts⟩,ty,ps,ed,none⟩::r) ⟨n,e,st⟩:=HX hb hc h hk
theorem Au {L:List (Nat×AV)}(h:T6 e L=U5 L:=by exact rfl):Wk k ⟨n,e,st⟩ ⟨n,AL L,st⟩:=Ip h
section
variable {x0 y0 : Row} {z0 : List Row} {K : MS -> Prop}
theorem oX (A B:List Row)(v':AV)(y0:Row)(sel:List Nat)(hg:GO ds gd e)(hb:Cr P f=true)(hc:BS P f vV A λr st=>r=v/\st=B)(h:(eU sel,sel.all (Nat.blt · (R.length+1)),CD (x0::R) sel,(vf.toList.map (St.ev ⟨n,e,[]⟩)++[]).map (Jx sel),B.length,Fc sel B 0 (x0::R))=(true,true,A,vV,sel.length,y0::R))(hv :∀N,SU sel N v=v')
  (hs:SR sel A A) (h1 :∀N,UN sel N B B) (hk:KE P k R (ds++[some t]) r K ⟨n,Dr e t v',y0,z0⟩):KE P k R ds (⟨some t,.call ⟨.value (.func f),vf,ts⟩,ty,ps,ed,gd⟩::r) K ⟨n,e,x0,z0⟩:=by
 simp only[rL]at h;obtain⟨a1,a2,a3,a4,a5,a7⟩:=h;exact oe sel hg hb hc rfl (aE a1) (qC.2 λi hi=>by have:=qC.1 a2 i hi;simp only[Nat.blt]at this;exact sE (rS this)) a3 hs a4 a5 h1 hv a7 hk
theorem US {e1 e2:TypeId}{g1 g2 z1 z2:Nat}{c1 c2:List AV}(v':AV)(y0:Row)(sel:List Nat)(hg:GO ds gd e)(hb:Cr P f=true)(hc:BS P f vV [⟨g1,e1,z1,[c1]⟩] λr st=>r=v/\st=[⟨g2,e2,z2,[c2]⟩])(h:(eU sel,sel.all (Nat.blt · (R.length+1)),CD (x0::R) sel,(vf.toList.map (St.ev ⟨n,e,[]⟩)++[]).map (Jx sel),1,Fc sel [⟨g2,e2,z2,[c2]⟩] 0 (x0::R))=(true,true,[⟨g1,e1,z1,[c1]⟩],vV,sel.length,y0::R))(hv :∀N,(SU sel N v,c1.map (Jw sel),c1.all AV.leaf,c2.map (Mj sel N),c2.all AV.leaf)=(v',c1,true,c2,true))
  (hk:KE P k R (ds++[some t]) r K ⟨n,Dr e t v',y0,z0⟩):KE P k R ds (⟨some t,.call ⟨.value (.func f),vf,ts⟩,ty,ps,ed,gd⟩::r) K ⟨n,e,x0,z0⟩:=by
 simp only[rL]at hv;exact oX _ _ v' y0 sel hg hb hc h (λN=>(hv N).1) (.raw (hv 0).2.1 (hv 0).2.2.1 .nil) (λN=>.raw (hv N).2.2.2.1 (hv N).2.2.2.2 .nil) hk
theorem Q0 {β:Type}{e1 e2 e3 e4:TypeId}{g1 g2 g3 g4 z1 z2 z3 z4:Nat}{c1 c2:List AV}{l1:List α}{l2:List β}{n1:α->List AV}{n2:β->List AV}(v':AV)(y0:Row)(sel:List Nat)(hg:GO ds gd e)(hb:Cr P f=true)(hc:BS P f vV [⟨g1,e1,z1,[c1]⟩,⟨g3,e3,z3,l1.map n1⟩] λr st=>r=v/\st=[⟨g2,e2,z2,[c2]⟩,⟨g4,e4,z4,l2.map n2⟩])
  (h:(eU sel,sel.all (Nat.blt · (R.length+1)),CD (x0::R) sel,(vf.toList.map (St.ev ⟨n,e,[]⟩)++[]).map (Jx sel),2,Fc sel [⟨g2,e2,z2,[c2]⟩,⟨g4,e4,z4,l2.map n2⟩] 0 (x0::R))=(true,true,[⟨g1,e1,z1,[c1]⟩,⟨g3,e3,z3,l1.map n1⟩],vV,sel.length,y0::R)) (hv :∀N,(SU sel N v,c1.map (Jw sel),c1.all AV.leaf,c2.map (Mj sel N),c2.all AV.leaf)=(v',c1,true,c2,true))
  (p1 :∀x,(n1 x).all simple=true) (p2 :∀x,(n2 x).all simple=true) (hk:KE P k R (ds++[some t]) r K ⟨n,Dr e t v',y0,z0⟩):KE P k R ds (⟨some t,.call ⟨.value (.func f),vf,ts⟩,ty,ps,ed,gd⟩::r) K ⟨n,e,x0,z0⟩:=by
 simp only[rL]at hv;exact oX _ _ v' y0 sel hg hb hc h (λN=>(hv N).1) (.raw (hv 0).2.1 (hv 0).2.2.1 (.pure (AM p1) .nil)) (λN=>.raw (hv N).2.2.2.1 (hv N).2.2.2.2 (.pure (AM p2) .nil)) hk
end
section
variable {N f : Nat} {uU : Array Bool} {op : Op}
theorem LP (T:MK P)(i:Nat)(ho:ops[i]?=some ⟨some t,op,ty,ps,ed,none⟩)(h:hE T ⟨n,e,st⟩ op=some v)(hk:AX P k ops Q n f (uU.setIfInBounds i true) ⟨n,Dr e t v,st⟩)(hc:YD ops uU i n (some t) op=true:=by kernel_rfl):AX P k ops Q n (f+1) uU ⟨n,e,st⟩:=dE T i ho hc h hk
end
end
end Go.Abs
namespace Go.Abs
open Go
section
variable {P : Program} {k n : Nat} {ops : Array Oper} {Q : Exit -> St -> Prop} {N f : Nat} {uU : Array Bool} {s : St} {st : List Row} {e : Nat -> AV} {ds : List (Option Tmp)} {t : Tmp} {op : Op} {ty : TypeId} {ps : String} {ed : Array Edge} {v : AV} {o : Oper} {r : List Oper} {c x y : Code}
theorem nN:D0 []:=by intro x e;cases e
theorem Cv {α β:Type}{g:α->β}:∀x,g x=g x:=λ_=>rfl
theorem pn {α:Type}{l:List α}{enc:α->List AV}(h :∀x,(enc x).all Ey=true:=by exact λ_=>rfl):DO (l.map enc):=Tm h
abbrev JJ {α:Type}(o a:α)(W:St)(K:St->Prop):Prop:=some a=some o->∀{s},Wk 0 s W->K s
theorem Cx {f:FuncId}{fn:Func}{args:List AV}{R:AV->List Row->Prop}(hf:P.funcs[f]?=some fn)(h0:(fn.body,fn.ntmps,Nat.ble args.length fn.ntmps,st.length)=(some c,N,true,k))(h:AW P k c (gA P k fn R) ⟨N,AL (Xh 0 args),st⟩):BS P f args st R:=by
 simp only[rL]at h0;obtain⟨h1,h2,h3,h4⟩:=h0;exact ai hf h1 h2 (h2▸h3) h4 h
theorem Ad {K p:St->Prop}(hK :∀s,p s->K s)(h:p s)(hq:Q .normal s=K s:=by exact rfl):AO P k ops Q ds [] s:=dn hK hq h
theorem Ai {id:Nat}(h :∀K:St->Prop,(∀s,AW P k y Q s->K s)->AO P k ops (Ro K Q) [] ops.toList s)(hd:(ops.toList.all λo=>DG s.n o.dst)=true:=by exact rfl):AW P k (.seq (.region id ops false) y) Q s:=sr hd h
theorem Az {α:Type}{b:Bool}{o:Operand}{A B C:α}(h:(if b=true then A else B)=C)(h1:b=true->A=C->AW P k x Q s)(h2:b=false->B=C->AW P k y Q s)(ho:kN (s.ev o)=some b:=by exact rfl):AW P k (.cond o x y) Q s:=ci h ho h1 h2
theorem Gz {α:Type}{l:List α}{enc:α->List AV}{j:Int}{u:α}{kk:IntKind}{t' el:TypeId}{size bytes:Nat}{zz:List AV}{x y:Operand}(he:DR P t'=some ⟨el,size,bytes,zz⟩)(hg:Sh.get l j=some u)(hx:(St.ev ⟨n,e,st⟩ x,St.ev ⟨n,e,st⟩ y)=(.sl (l.map enc),.int kk j))(hk:AO P k ops Q (ds++[some t]) r ⟨n,Dr e t (.CT (enc u) 0),st⟩)(hs:(enc u).length=size:=by exact rfl):AO P k ops Q ds (⟨some t,.indexAddr t' x y,ty,ps,ed,none⟩::r) ⟨n,e,st⟩:=by
 simp only[rL]at hx;exact zx he hg hx.1 hx.2 hs hk
theorem Mt {KS:St->Prop}{α:Type}{l:List α}{enc:α->List AV}{j:Int}{u:α}{kk:IntKind}{t' el:TypeId}{size bytes:Nat}{zz:List AV}{x y:Operand}(he:DR P t'=some ⟨el,size,bytes,zz⟩)(hg:Sh.get l j=some u)(hx:(St.ev ⟨n,e,st⟩ x,St.ev ⟨n,e,st⟩ y)=(.sl (l.map enc),.int kk j))(hk:Dp P (ds++[some t]) r KS ⟨n,Dr e t (.CT (enc u) 0),st⟩)(hs:(enc u).length=size:=by exact rfl):Dp P ds (⟨some t,.indexAddr t' x y,ty,ps,ed,none⟩::r) KS ⟨n,e,st⟩:=by
 simp only[rL]at hx;exact yx he hg hx.1 hx.2 hs hk
theorem hX (i:Nat)(v:AV)(ho:ops[i]?=some o)(hh:N0 P s o v)(h:AX P k ops Q N f (uU.setIfInBounds i true) (s.put o.dst v))(hs:(Region.noSelect ops&&Region.free .any ops uU i&&(Region.ready .any ops uU).contains i)=true:=by kernel_rfl)(hn:s.n=N:=by exact rfl)(hd:DG s.n o.dst=true:=by exact rfl):AX P k ops Q N (f+1) uU s:=by
 simp only[qP]at hs;exact MH i hn ho hs.1.1 hs.1.2 hs.2 hd hh h
theorem hY (i:Nat)(v:AV)(ho:ops[i]?=some o)(hh:N0 P s o v)(h:AY P k ops Q N f (uU.setIfInBounds i true) (s.put o.dst v))(hs:(Region.noSelect ops&&Region.free .any ops uU i&&(Region.ready .any ops uU).contains i)=true:=by kernel_rfl)(hn:s.n=N:=by exact rfl)(hd:DG s.n o.dst=true:=by exact rfl):AY P k ops Q N (f+1) uU s:=by
 simp only[qP]at hs;exact Rm i hn ho hs.1.1 hs.1.2 hs.2 hd hh h
theorem hZ (i:Nat)(v:AV)(ho:ops[i]?=some o)(hh:Qm P s o v)(h:AZ P k ops Q N f (uU.setIfInBounds i true) (s.put o.dst v))(hs:(Region.noSelect ops&&Region.free .any ops uU i&&(Region.ready .any ops uU).contains i)=true:=by kernel_rfl)(hn:s.n=N:=by exact rfl)(hd:DG s.n o.dst=true:=by exact rfl):AZ P k ops Q N (f+1) uU s:=by
 simp only[qP]at hs;exact AZ.hoist i hn ho hs.1.1 hs.1.2 hs.2 hd hh h
theorem qX (T:MK P)(i:Nat)(ho:ops[i]?=some ⟨some t,op,ty,ps,ed,none⟩)(h:hE T ⟨n,e,st⟩ op=some v)(hk:AX P k ops Q n f (uU.setIfInBounds i true) ⟨n,Dr e t v,st⟩)(hc:YD ops uU i n (some t) op=true:=by kernel_rfl):AX P k ops Q n (f+1) uU ⟨n,e,st⟩:=dE T i ho hc h hk
theorem qY (T:MK P)(i:Nat)(ho:ops[i]?=some ⟨some t,op,ty,ps,ed,none⟩)(h:hE T ⟨n,e,st⟩ op=some v)(hk:AY P k ops Q n f (uU.setIfInBounds i true) ⟨n,Dr e t v,st⟩)(hc:YD ops uU i n (some t) op=true:=by kernel_rfl):AY P k ops Q n (f+1) uU ⟨n,e,st⟩:=AY.hq T i ho hc h hk
theorem aX (i:Nat)(v:AV)(ho:ops[i]?=some ⟨some t,op,ty,ps,ed,none⟩)(h:AQ P ⟨n,e,st⟩ op v)(hk:AX P k ops Q n f (uU.setIfInBounds i true) ⟨n,Dr e t v,st⟩)(hc:(Ye ops uU i n (some t)&&Sk P op)=true:=by kernel_rfl):AX P k ops Q n (f+1) uU ⟨n,e,st⟩:=by
 simp only[qP]at hc;exact AX.ha i ho hc.1 hc.2 h hk
theorem aY (i:Nat)(v:AV)(ho:ops[i]?=some ⟨some t,op,ty,ps,ed,none⟩)(h:AQ P ⟨n,e,st⟩ op v)(hk:AY P k ops Q n f (uU.setIfInBounds i true) ⟨n,Dr e t v,st⟩)(hc:(Ye ops uU i n (some t)&&Sk P op)=true:=by kernel_rfl):AY P k ops Q n (f+1) uU ⟨n,e,st⟩:=by
 simp only[qP]at hc;exact AY.ha i ho hc.1 hc.2 h hk
theorem Le {σ ρ:Type}(F:Nat->σ->Option ρ){o:ρ}(canon:σ->St)(n0:Nat)(v0:σ)(h0:F n0 v0=some o)(hw:Wk k s (canon v0))(round :∀n v,F (n+1) v=some o->AW P k c (Ro (λs'=>∃v',F n v'=some o/\Wk k s' (canon v')) Q) (canon v))(hz :∀v,F 0 v=none:=by exact λ_=>rfl):AW P k (.loop c) Q s:=
 Ix (λn v=>F n v=some o) canon n0 v0 h0 hw (λv h=>by rw[hz]at h;cases h) round
theorem KB {σ τ ρ:Type}(F:Nat->σ->τ->Option ρ){o:ρ}(canon:σ->τ->St)(n0:Nat)(v0:σ)(w0:τ)(h0:F n0 v0 w0=some o)(hw:Wk k s (canon v0 w0))(round :∀n v w,F (n+1) v w=some o->AW P k c (Ro (λs'=>∃v':σ×τ,F n v'.1 v'.2=some o/\Wk k s' (canon v'.1 v'.2)) Q) (canon v w))(hz :∀v w,F 0 v w=none:=by exact λ_ _=>rfl):AW P k (.loop c) Q s:=
 Ix (λn (v:σ×τ)=>F n v.1 v.2=some o) (λv=>canon v.1 v.2) n0 (v0,w0) h0 hw (λv h=>by rw[hz]at h;cases h) (λn v=>round n v.1 v.2)
theorem dX {σ τ υ ρ:Type}(F:Nat->σ->τ->υ->Option ρ){o:ρ}(canon:σ->τ->υ->St)(n0:Nat)(v0:σ)(w0:τ)(u0:υ)(h0:F n0 v0 w0 u0=some o)(hw:Wk k s (canon v0 w0 u0))(round :∀n v w u,F (n+1) v w u=some o->AW P k c (Ro (λs'=>∃v':σ×τ×υ,F n v'.1 v'.2.1 v'.2.2=some o/\Wk k s' (canon v'.1 v'.2.1 v'.2.2)) Q) (canon v w u))(hz :∀v w u,F 0 v w u=none:=by exact λ_ _ _=>rfl):AW P k (.loop c) Q s:=
 Ix (λn (v:σ×τ×υ)=>F n v.1 v.2.1 v.2.2=some o) (λv=>canon v.1 v.2.1 v.2.2) n0 (v0,w0,u0) h0 hw (λv h=>by rw[hz]at h;cases h) (λn v=>round n v.1 v.2.1 v.2.2)
end
end Go.Abs
namespace Go.Abs
open Go
section
variable {P : Program} {k n : Nat} {ops : Array Oper} {Q : Exit -> St -> Prop} {s : St} {st rows : List Row} {e : Nat -> AV} {ds : List (Option Tmp)} {t : Tmp} {d : Option Tmp} {op : Op} {ty : TypeId} {ps : String} {ed : Array Edge} {v v' : AV} {r : List Oper} {x y : Operand} {jj : Nat} {b want : Bool} {KS : St -> Prop} {f : FuncId} {vf : Array Operand} {ts : Array TypeId} {args : List AV} {gd : Option (Nat × Bool)} {α : Type} {l l' l2 : List α} {enc : α -> List AV} {T el : TypeId} {size bytes g id m : Nat} {zz : List AV} {j : Int} {u : α} {kk : IntKind} {cs : List AV}
theorem DQ (v:AV)(hb:b=want)(hq:AQ P ⟨n,e,st⟩ op v)(hk:AO P k ops Q (ds++[some t]) r ⟨n,Dr e t v,st⟩)(hj:gE ds jj e=some b:=by exact rfl)(hl:Kx op=false:=by exact rfl):AO P k ops Q ds (⟨some t,op,ty,ps,ed,some (jj,want)⟩::r) ⟨n,e,st⟩:=DY (bN hj hb) hl hq hk
theorem La (v':AV)(hc:BS P f args [] λr st=>r=v/\st=rows)(hp:Vf rows)(hk:AO P k ops Q (ds++[d]) r (St.put ⟨n,e,st++rows⟩ d v'))(hv:shift st.length v=v':=by exact rfl)(ha:vf.toList.map (St.ev ⟨n,e,st⟩)++[]=args:=by exact rfl)(hf:args.all flat=true:=by exact rfl)(hb:Cr P f=true:=by kernel_rfl):AO P k ops Q ds (⟨d,.call ⟨.value (.func f),vf,ts⟩,ty,ps,ed,none⟩::r) ⟨n,e,st⟩:=HZ AT hb hc ha hf hp hv rfl hk
theorem Fa (hc:BS P f args [] λr st=>r=v/\st=[])(hk:Dp P (ds++[some t]) r KS ⟨n,Dr e t v,st⟩)(ha:vf.toList.map (St.ev ⟨n,e,st⟩)++[]=args:=by exact rfl)(hf:args.all flat=true:=by exact rfl)(hv:flat v=true:=by exact rfl)(hb:Cr P f=true:=by kernel_rfl):Dp P ds (⟨some t,.call ⟨.value (.func f),vf,ts⟩,ty,ps,ed,none⟩::r) KS ⟨n,e,st⟩:=Ls AT hb hc ha hf hv hk
theorem Oz (hbw:b=want)(hc:BS P f args [] λr st=>r=v/\st=[])(hv:fo (shift st.length v)=some v')(hk:AO P k ops Q (ds++[d]) r (St.put ⟨n,e,st⟩ d v'))(ha:vf.toList.map (St.ev ⟨n,e,st⟩)++[]=args:=by exact rfl)(hf:args.all flat=true:=by exact rfl)(hg:gE ds jj e=some b:=by exact rfl)(hb:Cr P f=true:=by kernel_rfl):AO P k ops Q ds (⟨d,.call ⟨.value (.func f),vf,ts⟩,ty,ps,ed,some (jj,want)⟩::r) ⟨n,e,st⟩:=zd hbw hb hc ha hf hv hg hk
theorem Lb (l2:List α)(he:DR P T=some ⟨el,size,bytes,zz⟩)(hx:(St.ev ⟨n,e,st⟩ x,st[id]?,l.length)=(.own id g m,some ⟨g,el,size,l.map enc⟩,m))(hel:EL st (St.ev ⟨n,e,st⟩ y) (l2.map enc))(ha:Sh.app l l2 bytes=some l')
  (hk:AO P k ops Q (ds++[some t]) r ⟨n,Dr e t (.own id (g+1) l'.length),st.set id ⟨g+1,el,size,l'.map enc⟩⟩) (hs :∀a,(enc a).length=size:=by exact λ_=>rfl):AO P k ops Q ds (⟨some t,.call ⟨.builtin .append,#[x,y],#[T,T]⟩,ty,ps,ed,none⟩::r) ⟨n,e,st⟩:=by
 simp only[rL]at hx;exact Fx AT he hx.1 hx.2.1 hx.2.2.symm rfl hel hs ha rfl hk
theorem HC (he:DR P T=some ⟨el,size,bytes,zz⟩)(hx:(s.ev x,s.st[id]?,l.length,s.ev y)=(.own id g m,some ⟨g,el,size,l.map enc⟩,m,.int kk j))(hg:Sh.get l j=some u):AQ P s (.indexAddr T x y) (.ptr id g j.toNat 0):=by
 simp only[rL]at hx;exact gn he hx.1 hx.2.2.2 hx.2.1 hx.2.2.1.symm hg
theorem JT (he:DR P T=some ⟨el,size,bytes,zz⟩)(hx:(s.ev x,s.ev y)=(.sl (l.map enc),.int kk j))(hg:Sh.get l j=some u)(hs:(enc u).length=size:=by exact rfl):AQ P s (.indexAddr T x y) (.CT (enc u) 0):=by
 simp only[rL]at hx;exact Sc he hx.1 hx.2 hg hs
theorem G2 {st1 st':List Row}{L:List (Nat×AV)}(sel:List Nat)(hs:SR sel st1 st')(h:ME (λt=>Jx sel (e t)) L)(hp:CD st sel=st1:=by exact rfl)(hc:Zk k st.length sel=true:=by exact rfl):Wk k ⟨n,e,st⟩ ⟨n,AL L,st'⟩:=Wk.pq sel hc hp hs h
theorem BH {st':List Row}{L:List (Nat×AV)}(sel:List Nat)(hs:SR sel st' st')(h:ME (λt=>Jx sel (e t)) L)(hp:CD st sel=st':=by exact rfl)(hc:Zk k st.length sel=true:=by exact rfl):Wk k ⟨n,e,st⟩ ⟨n,AL L,st'⟩:=IF sel hc hp hs h
theorem Dh (L:List (Nat×AV))(h:ME e L):Wk k ⟨n,e,st⟩ ⟨n,AL L,st⟩:=ET h
end
end Go.Abs
namespace Go.Abs
open Go
end Go.Abs
