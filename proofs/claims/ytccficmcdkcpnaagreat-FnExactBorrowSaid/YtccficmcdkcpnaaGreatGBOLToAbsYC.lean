import Derived.Test.YtccficmcdkcpnaaGreatGHADefsToBODefs
set_option linter.all false
namespace RC
open Go Go.Abs
theorem dB {N:Nat}:∀(n:Nat) (s:List (List Int)) (b:Block) (r:List (List Int)),BY N n s b=some r->r.length=s.length:=by
 intro n
 induction n with
 | zero=>intro s b r h;rw[BY]at h;cases h
 | succ n ih=>
  intro s b r h;rw[BY]at h;unfold Fo at h;obtain⟨l6,h1,h⟩:=Sh.bind_some h;cases Sh.AF h;have hL2:∀(m:Nat) (c:Step) (t:Int) (l r:List (List Int)),BU c (BY N n) m t l=some r->r.length=l.length:=by
   intro m c
   induction m with
   | zero=>intro t l r h;rw[BU]at h;cases h
   | succ m ihm=>
    intro t l r h;rw[BU]at h;split at h
    ·obtain⟨vk,_,h⟩:=Sh.bind_some h;obtain⟨wO,h2,h⟩:=Sh.bind_some h;rw[ihm _ _ _ h,ih _ _ _ h2]
    ·cases Sh.AF h;rfl
  have hL1:∀(m:Nat) (t:Int) (l r:List (List Int)),BV N b (BY N n) m t l=some r->r.length=l.length:=by
   intro m
   induction m with
   | zero=>intro t l r h;rw[BV]at h;cases h
   | succ m ihm=>
    intro t l r h;rw[BV]at h;split at h
    ·obtain⟨vC,_,h⟩:=Sh.bind_some h;obtain⟨tl,h2,h⟩:=Sh.bind_some h;obtain⟨l19,h3,h⟩:=Sh.bind_some h;rw[ihm _ _ _ h,hL2 _ _ _ _ _ h3];unfold G5 at h2;split at h2
     ·obtain⟨_,_,h2⟩:=Sh.bind_some h2;cases Sh.AF h2;exact Sh.Ap
     ·cases Sh.AF h2;rfl
    ·cases Sh.AF h;rfl
  exact hL1 _ _ _ _ h1
theorem jg {N:Nat}{p0:AL}:∀(n:Nat) (t:Int) (l r:List (List Int)),CJ N p0 n t l=some r->r.length=l.length:=by
 intro n
 induction n with
 | zero=>intro t l r h;rw[CJ]at h;cases h
 | succ n ih=>
  intro t l r h;rw[CJ]at h;split at h
  ·obtain⟨c,_,h⟩:=Sh.bind_some h;obtain⟨q,h2,h⟩:=Sh.bind_some h;rw[ih _ _ _ h,dB _ _ _ _ h2]
  ·cases Sh.AF h;rfl
theorem kx {N:Nat}{c:AP}{t0:Int}:∀(n:Nat) (t:Int) (l r:List (List Int)),Ck N c t0 n t l=some r->r.length=l.length:=by
 intro n
 induction n with
 | zero=>intro t l r h;rw[Ck]at h;cases h
 | succ n ih=>
  intro t l r h;rw[Ck]at h;split at h
  ·obtain⟨l92,h2,h⟩:=Sh.bind_some h;rw[ih _ _ _ h];obtain⟨c95,_,h2⟩:=Sh.bind_some h2;split at h2
   ·obtain⟨_,_,h2⟩:=Sh.bind_some h2;obtain⟨_,_,h2⟩:=Sh.bind_some h2;cases Sh.AF h2;exact Sh.Ap
   ·cases Sh.AF h2;rfl
  ·cases Sh.AF h;rfl
theorem kH {N:Nat}{p0:AL}:∀(n:Nat) (t:Int) (l r:List (List Int)),CL N p0 n t l=some r->r.length=l.length:=by
 intro n
 induction n with
 | zero=>intro t l r h;rw[CL]at h;cases h
 | succ n ih=>
  intro t l r h;rw[CL]at h;split at h
  ·obtain⟨c,_,h⟩:=Sh.bind_some h;obtain⟨q,h2,h⟩:=Sh.bind_some h;rw[ih _ _ _ h,kx _ _ _ _ h2]
  ·cases Sh.AF h;rfl
theorem jH {N:Nat}{p0:AL}{ze xT xU:List (List Int)}(h0:Sh.mk [] (Sh.len p0.AB) 24=some ze)(h1:CL N p0 N 0 ze=some xT)(h2:CJ N p0 N 0 xT=some xU):xU.length<=p0.AB.length:=by
 rw[jg _ _ _ _ h2,kH _ _ _ _ h1];unfold Sh.mk at h0;split at h0
 ·cases Sh.AF h0;simp[Sh.len]
 ·cases h0
end RC
namespace Go.Abs
open Go
def preB:Nat->Nat->List Nat->Bool
 | 0,_,_=>true
 | _+1,_,[]=>false
 | k+1,i,a::l=>Nat.beq a i&&preB k (i+1) l
def hasB (a:Nat):List Nat->Bool
 | []=>false
 | b::l=>Nat.beq b a || hasB a l
def YQ:List Nat->Bool
 | []=>true
 | a::l=>!hasB a l&&YQ l
def cW (k n:Nat)(sel:List Nat):Bool:=preB k 0 sel&&YQ sel&&sel.all (·<n)
theorem Vz:∀(k i:Nat) (l:List Nat),preB k i l=true->l.take k=List.range' i k
 | 0,_,_,_=>by simp
 | k+1,i,[],h=>by simp[preB]at h
 | k+1,i,a::l,h=>by
  simp only[preB,mh]at h;rw[List.take_succ_cons,List.range'_succ,Vz k (i+1) l h.2,oP h.1]
theorem XN {a:Nat}:∀{l:List Nat},hasB a l=false->a ∉ l
 | [],_=>by simp
 | b::l,h=>by
  simp only[hasB,qF]at h;intro hm;rcases mr.1 hm with rfl|hm
  ·rw[Nat.beq_refl]at h;cases h.1
  ·exact XN h.2 hm
theorem Sg:∀{l:List Nat},YQ l=true->l.Nodup
 | [],_=>List.nodup_nil
 | a::l,h=>by
  simp only[YQ,mh,ob]at h;exact List.nodup_cons.2 ⟨XN h.1,Sg h.2⟩
theorem Ns {k n:Nat}{sel:List Nat}(h:cW k n sel=true):sel.take k=List.range k/\sel.Nodup/\sel.all (·<n)=true:=by
 unfold cW at h;simp only[mh]at h;exact⟨by rw[Vz k 0 sel h.1.1,List.range_eq_range'],Sg h.1.2,h.2⟩
theorem CC {k n:Nat}{e:Nat->AV}{st st1 st':List Row}{L:List (Nat×AV)}(sel:List Nat)(hc:cW k st.length sel=true)(hp:B9 st sel=st1)(hs:SR sel st1 st')(h:ME (λt=>Jg sel (e t)) L):
  Wk k ⟨n,e,st⟩ ⟨n,AM L,st'⟩:=O1 sel (Ns hc).1 (Ns hc).2.1 (Ns hc).2.2 hp hs h
theorem Ag {k n:Nat}{e:Nat->AV}{st st':List Row}{L:List (Nat×AV)}(sel:List Nat)(hc:cW k st.length sel=true)(hp:B9 st sel=st')(hs:SR sel st' st')(h:ME (λt=>Jg sel (e t)) L):
  Wk k ⟨n,e,st⟩ ⟨n,AM L,st'⟩:=Wk.pk sel (Ns hc).1 (Ns hc).2.1 (Ns hc).2.2 hp hs h
theorem SR.w {sel:List Nat}{g size:Nat}{el:TypeId}{cs cs':List AV}{r r':List Row}(hl:SR sel r r')(hc:cs.map (Ht sel)=cs':=by rfl)(hp:cs'.all AV.leaf=true:=by rfl):SR sel (⟨g,el,size,[cs]⟩::r) (⟨g,el,size,[cs']⟩::r'):=.raw hc hp hl
theorem SR.p {α:Type}{l:List α}{enc:α->List AV}{sel:List Nat}{g size:Nat}{el:TypeId}{r r':List Row}(hl:SR sel r r')(h :∀x,(enc x).all simple=true:=by exact λ_=>rfl):SR sel (⟨g,el,size,l.map enc⟩::r) (⟨g,el,size,l.map enc⟩::r'):=.pure (Ac h) hl
end Go.Abs
namespace Go.Abs
open Go
def Grow (w w':World):Prop:=w.heap.size<=w'.heap.size/\∀b,b<w.heap.size->w'.heap[b]?=w.heap[b]?
theorem Grow.refl (w:World):Grow w w:=⟨ml _,λ_ _=>rfl⟩
theorem Grow.trans {w1 w2 w3:World}(h:Grow w1 w2)(g:Grow w2 w3):Grow w1 w3:=⟨om h.1 g.1,λb hb=>(g.2 b (nk hb h.1)).trans (h.2 b hb)⟩
def By {α:Type}(m:Sem α):Prop:=∀P w v w',m.run P w=.ok v w'->Grow w w'
theorem By.pure {α:Type}(a:α):By (pure a:Sem α):=λ_ w _ _ h=>by cases h;exact Grow.refl w
theorem By.halt {α:Type}(h:Halt):By (.halt h:Sem α):=λ_ _ _ _ h=>by cases h
theorem By.bind {α β:Type}{m:Sem α}{f:α->Sem β}(hm:By m)(hf :∀a,By (f a)):By (m >>= f):=λP w v w' h=>by
 rw[nU]at h;cases hr:m.run P w with
 | ok a w2=>rw[hr]at h;exact (hm P w a w2 hr).trans (hf a P w2 v w' h)
 | halt x w2=>rw[hr]at h;cases h
theorem By.load (a:Addr):By (Go.load a):=λP w v w' h=>by
 unfold Go.load at h;simp only[Sem.run]at h;split at h
 ·cases h;exact Grow.refl w
 ·split at h
  ·cases h;exact Grow.refl w
  ·cases h
theorem By.program:By Go.program:=λP w v w' h=>by cases h;exact Grow.refl w
theorem By.shape (r:Nat):By (Go.shape r):=λP w v w' h=>by cases h;exact Grow.refl w
theorem By.newObj (o:Obj):By (Go.newObj o):=λP w v w' h=>by
 cases h;exact⟨by simp,λb hb=>by simp[Array.getElem?_push,Nat.ne_of_lt hb]⟩
theorem By.choose (q:Question):By (Go.choose q):=λP w v w' h=>by
 unfold Go.choose at h;simp only[Sem.run]at h;split at h<;>cases h<;>exact Grow.refl w
theorem By.typeInfo (t:TypeId):By (Go.typeInfo t):=.bind .program λp=>by split;exact .pure _;exact .halt _
theorem By.underlying (t:TypeId):By (Go.underlying t):=.bind .program λp=>by split;exact .pure _;exact .halt _
theorem By.sizeOf (t:TypeId):By (Go.sizeOf t):=.bind (.typeInfo t) λ_=>.pure _
theorem By.zeroValue (t:TypeId):By (Go.zeroValue t):=.bind (.typeInfo t) λ_=>by split;exact .pure _;exact .halt _
theorem By.isAgg (t:TypeId):By (Go.isAgg t):=.bind (.underlying t) λ_=>by split<;>exact .pure _
theorem By.loadCellsFrom (a:Addr):∀(n i:Nat) (acc:Array Value),By (Go.loadCellsFrom a i n acc)
 | 0,_,_=>.pure _
 | n+1,i,acc=>.bind (.load _) λv=>By.loadCellsFrom a n (i+1) (acc.push v)
theorem By.loadVar (t:TypeId)(a:Addr):By (Go.loadVar t a):=.bind (.isAgg t) λb=>by
 split
 ·exact .bind (.sizeOf t) λn=>.bind (.loadCellsFrom a n 0 _) λ_=>.pure _
 ·exact .load a
theorem By.sureAddr (v:Value):By (Instr.sureAddr v):=by unfold Instr.sureAddr;split;exact .pure _;exact .halt _
theorem By.loadAt (t:TypeId)(v:Value):By (Instr.loadAt t v):=.bind (.sureAddr v) λa=>.loadVar t a
theorem By.getObj (r:Nat):By (Go.getObj r):=λP w v w' h=>by
 unfold Go.getObj at h;simp only[Sem.run]at h;split at h
 ·cases h
 ·cases h;exact Grow.refl w
 ·cases h
theorem By.viewAt (r:Nat):By (Go.viewAt r):=by
 unfold Go.viewAt;refine .bind (.shape r) λs=>?_
 repeat' first|exact .pure _|exact .halt _|exact .bind (.getObj r) (λo=>by split<;>exact .pure _)|split
theorem By.noView (a:Addr):By (Go.noView a):=by
 unfold Go.noView;refine .bind (.viewAt _) λs=>?_;split
 ·exact .halt _
 ·exact .pure _
theorem By.byteOf (a:Addr):By (Go.byteOf a):=by
 unfold Go.byteOf;dsimp only;split
 ·exact .pure _
 ·refine .bind .program λp=>.bind (.noView a) λ_=>.bind (.shape _) λs=>?_
  repeat' first|exact .pure _|exact .halt _|split
theorem By.fieldPlace (a:Addr)(f:Field):By (fieldPlace a f):=.bind (.sizeOf _) λn=>by
 split
 ·exact .bind (.byteOf _) λ_=>.bind (.byteOf _) λ_=>.pure _
 ·exact .pure _
theorem By.fieldAt (s:TypeId)(v:Value)(f:Nat):By (Instr.fieldAt s v f):=by
 unfold Instr.fieldAt;refine .bind (.underlying s) λd=>?_;split
 ·split
  ·exact .bind (.sureAddr v) λa=>.bind (.fieldPlace a _) λ_=>.pure _
  ·exact .halt _
 ·exact .halt _
theorem By.asIntOf (v:Value):By (Go.asIntOf v):=by
 unfold Go.asIntOf;split
 ·exact .pure _
 ·exact .halt _
 ·exact .halt _
theorem By.Py {α:Type}(x y:Int)(s:Bool)(c:BoundsCode):By (runtimePanic (.bounds x y s c):Sem α):=.bind .program λ_=>.halt _
theorem By.boundsPanic {α:Type}(k:IntKind)(x y:Int)(c:BoundsCode):By (Go.boundsPanic k x y c:Sem α):=by
 unfold Go.boundsPanic;dsimp only;split
 ·exact By.bind (By.bind (.choose _) λ_=>.pure _) λ_=>.Py _ _ _ _
 ·exact By.bind (.pure _) λ_=>.Py _ _ _ _
theorem By.indexAt (t:TypeId)(x i:Value):By (Instr.indexAt t x i):=by
 unfold Instr.indexAt;dsimp only;refine .bind (.asIntOf i) λki=>.bind (.underlying t) λd=>?_
 repeat' first|exact .pure _|exact .halt _|exact .boundsPanic _ _ _ _|exact .sureAddr _|exact .underlying _|exact .sizeOf _|(refine .bind ?_ λ_=>?_)|split
theorem By.newVar (t:TypeId)(v:Value):By (Go.newVar t v):=.bind (.newObj _) λ_=>.pure _
theorem By.alloc (t:TypeId):By (Instr.alloc t true (.tuple #[])):=.bind (.zeroValue t) λz=>.bind (.newVar t z) λ_=>.pure _
theorem By.box (t:TypeId)(v:Value):By (Instr.box t v):=.bind (.newVar t v) λ_=>.pure _
theorem By.buildSlice (t:TypeId)(n:Nat)(ps:Array (Nat×Value)):By (Instr.buildSlice t n ps):=by
 unfold Instr.buildSlice;dsimp only
 repeat' first|exact .pure _|exact .halt _|exact .underlying _|exact .sizeOf _|exact .zeroValue _|exact .newObj _|(refine .bind ?_ λ_=>?_)|split
def Still (P:Program){α:Type}(m:Sem α):Prop:=∀w v w1,m.run P w=.ok v w1->w1=w/\∀w',m.run P w'=.ok v w'
section
variable {P : Program}
theorem Still.pure {α:Type}(a:α):Still P (pure a:Sem α):=λw _ _ h=>by cases h;exact⟨rfl,λ_=>rfl⟩
theorem Still.halt {α:Type}(h:Halt):Still P (.halt h:Sem α):=λ_ _ _ h=>by cases h
theorem Still.never {α:Type}{m:Sem α}(h :∀w v w1,m.run P w≠.ok v w1):Still P m:=λw v w1 e=>absurd e (h w v w1)
theorem Still.bind {α β:Type}{m:Sem α}{f:α->Sem β}(hm:Still P m)(hf :∀a,Still P (f a)):Still P (m >>= f):=λw v w1 h=>by
 rw[nU]at h;cases hr:m.run P w with
 | ok a w2=>
  rw[hr]at h;obtain⟨rfl,h1⟩:=hm w a w2 hr;obtain⟨rfl,h2⟩:=hf a w2 v w1 h;exact⟨rfl,λw'=>by rw[nU,h1 w'];exact h2 w'⟩
 | halt x w2=>rw[hr]at h;cases h
theorem Still.program:Still P Go.program:=λw v w1 h=>by cases h;exact⟨rfl,λ_=>rfl⟩
theorem Still.typeInfo (t:TypeId):Still P (Go.typeInfo t):=.bind .program λp=>by split;exact .pure _;exact .halt _
theorem Still.underlying (t:TypeId):Still P (Go.underlying t):=.bind .program λp=>by split;exact .pure _;exact .halt _
theorem Still.sizeOf (t:TypeId):Still P (Go.sizeOf t):=.bind (.typeInfo t) λ_=>.pure _
theorem Still.sureAddr (v:Value):Still P (Instr.sureAddr v):=by unfold Instr.sureAddr;split;exact .pure _;exact .halt _
theorem Still.asIntOf (v:Value):Still P (Go.asIntOf v):=by
 unfold Go.asIntOf;split
 ·exact .pure _
 ·exact .halt _
 ·exact .halt _
theorem Still.boundsPanic {α:Type}(k:IntKind)(x y:Int)(c:BoundsCode):Still P (Go.boundsPanic k x y c:Sem α):=.never λw v w1 h=>by
 unfold Go.boundsPanic at h;dsimp only at h;have hn:∀(s:Bool) w2,(runtimePanic (.bounds (IntKind.i64.wrap x) y s c):Sem α).run P w2≠.ok v w1:=λs w2 h=>by
  unfold runtimePanic at h;rw[nU]at h;cases h
 split at h
 ·rw[nU]at h;generalize ((λx=>x==1) <$> Go.choose (Question.extern "runtime.boundsError.signed" 2)).run P w=r at h;cases r with
  | ok a w2=>exact hn _ _ h
  | halt=>cases h
 ·exact hn _ _ h
theorem Still.indexAt (t:TypeId)(x i:Value):Still P (Instr.indexAt t x i):=by
 unfold Instr.indexAt;dsimp only;refine .bind (.asIntOf i) λki=>.bind (.underlying t) λd=>?_
 repeat' first|exact .pure _|exact .halt _|exact .boundsPanic _ _ _ _|exact .sureAddr _|exact .underlying _|exact .sizeOf _|(refine .bind ?_ λ_=>?_)|split
theorem Still.len {t ty:TypeId}{x:Value}(ht:B1 P t=true):Still P (Builtin.len_ #[t] ty #[x]):=λw v w1 h=>by
 unfold B1 at ht;split at ht
 ·rename_i e he;have hr:∀w',(Builtin.len_ #[t] ty #[x]).run P w'=(match x with|.slice _ n _=>.ok (goInt n) w'|_=>.halt (.stuck "len: string, array, pointer to array, slice, map or channel expected") w'):=λw'=>by
   unfold Builtin.len_;simp only[pt,mw,nU,ni he,nR];cases x<;>rfl
  rw[hr]at h;cases x<;>simp at h;obtain⟨rfl,rfl⟩:=h;exact⟨rfl,λw'=>hr w'⟩
 ·cases ht
end
def SD (o:Oper):Bool:=match o.op with
 | .move _|.assign _|.load ..|.fieldAddr ..|.indexAddr ..|.alloc _|.box ..|.buildSlice ..=>true
 | .call ⟨.builtin .len,_,_⟩=>true
 | _=>false
theorem Ke {P:Program}{m:Sem Value}{w w':World}{n:Next}(hm:By m)(h:(do pure (Next.value (← m)):Sem Next).run P w=.ok n w'):(∃u,n=.value u)/\Grow w w':=by
 rw[nU]at h;cases hr:m.run P w with
 | ok a w2=>rw[hr]at h;cases h;exact⟨⟨_,rfl⟩,hm P w _ _ hr⟩
 | halt x w2=>rw[hr]at h;cases h
theorem By.len (ts:Array TypeId)(ty:TypeId)(xs:Array Value):By (Builtin.len_ ts ty xs):=by
 unfold Builtin.len_
 repeat' first|exact .pure _|exact .halt _|exact .underlying _|exact .getObj _|(refine .bind ?_ λ_=>?_)|split
theorem Yy {P:Program}{o:Oper}{ρ:Operand->Value}{w w':World}{n:Next}(h:SD o=true)(hr:(execOp ρ o).run P w=.ok n w'):(∃u,n=.value u)/\Grow w w':=by
 unfold SD at h;unfold execOp at hr;split at h<;>rename_i ho<;>try (cases h;done)
 all_goals rw[ho]at hr
 ·cases hr;exact⟨⟨_,rfl⟩,.refl _⟩
 ·cases hr;exact⟨⟨_,rfl⟩,.refl _⟩
 ·exact Ke (.loadAt _ _) hr
 ·exact Ke (.fieldAt _ _ _) hr
 ·exact Ke (.indexAt _ _ _) hr
 ·exact Ke (.alloc _) hr
 ·exact Ke (.box _ _) hr
 ·exact Ke (.buildSlice _ _ _) hr
 ·exact Ke (.len _ _ _) hr
section
variable {P : Program} {ops : Array Oper} {Q : Exit -> Act -> World -> Prop} {md : Region.Mode} {S : World -> Prop}
theorem bH {i:Nat}{o:Oper}{K:Act->World->Prop}{a:Act}{w0 w:World}(hi:ops[i]?=some o)(ht:SD o=true)(hG:Grow w0 w)(h:wpOp P ops Q i K a w):wpOp P ops Q i (λa' w'=>Grow w0 w'/\K a' w') a w:=by
 unfold wpOp at *;simp only[hi] at *;split
 ·rename_i hw;rw[me hw]at h;refine h.imp (λh=>?_) id;unfold Oper.wp at *;cases hr:(execOp a.eval o).run P w with
  | ok n w'=>
   obtain⟨⟨u,rfl⟩,g⟩:=Yy ht hr;rw[hr]at h;simp only[Oper.upon]at h⊢;exact⟨hG.trans g,h⟩
  | halt x w'=>
   rw[hr]at h;cases x<;>simp only[Oper.upon]at h⊢;exact h
 ·rename_i hw;rw[mj hw]at h;exact⟨hG,h⟩
theorem Xz {i:Nat}{oi:Oper}{v:Value}{w0:World}{wt:Nat->Bool}(hi:ops[i]?=some oi)(hsel :∀(j:Nat) (o:Oper) cs b,ops[j]?=some o->o.op≠.select cs b)
  (hQ :∀c a w,Q (.panic c) (a.put oi.dst v) w->Q (.panic c) a w)
  (uL :∀j oj,ops[j]?=some oj->wt j=true->∃e∈oj.after,Region.binds md e=true/\(e.on=i∨wt e.on=true)) :
  ∀(fuel:Nat) (rF:Array Bool) (a:Act) (w:World),
   (∀j oj,ops[j]?=some oj->j≠i->rF.getD j true=false->(∀e∈oj.after,Region.binds md e=true->e.on≠i)->oi.apart ops oj=true)->
   (∀j,wt j=true->rF.getD j true=false)->
   (∀j oj,ops[j]?=some oj->j≠i->rF.getD j true=false->wt j=false->SD oj=true)->
   i∈Region.ready md ops rF->YieldsIf P ops (Grow w0) oi v a->Grow w0 w->S w->
   wpAnyH P md ops Q S fuel (rF.setIfInBounds i true) (a.put oi.dst v) w->wpAnyH P md ops Q S (fuel+1) rF a w:=by
 intro fuel
 induction fuel with
 | zero=>
  intro rF a w _ _ _ hr hy hG hS H;refine⟨λh=>(by rw[h]at hr;cases hr),λj hj=>?_⟩;by_cases vD:j=i
  ·subst vD;exact hy.wpOp hi hG ⟨hS,H⟩
  ·have:=qO hj vD;rw[H.1]at this;cases this
 | succ fuel ih=>
  intro rF a w vX hwt htm hr hy hG hS H;refine⟨λh=>(by rw[h]at hr;cases hr),λj hj=>?_⟩;by_cases vD:j=i
  ·subst vD;exact hy.wpOp hi hG ⟨hS,H⟩
  ·have h1:=H.2 j (qO hj vD);obtain⟨wH,oj,hoj,tG⟩:=qX.1 hj;have off:∀(k:Nat),rF.getD k true=false->∀e∈oj.after,Region.binds md e=true->e.on≠k:=λk hk e he hb heq=>by
    have h1:=tG e he hb;rw[heq]at h1;rcases pC k rF.size with h'|h'
    ·simp[h']at hk h1;rw[hk]at h1;cases h1
    ·simp[Array.getElem?_eq_none h']at h1
   have xZ:=off i (qX.1 hr).1;have xM:wt j=false:=by
    cases hw:wt j with
    | false=>rfl
    | true=>
     obtain⟨e,he,hb,h|h⟩:=uL j oj hoj hw
     ·exact absurd h (xZ e he hb)
     ·exact absurd rfl (off e.on (hwt _ h) e he hb)
   have h2:=bH hoj (htm j oj hoj vD wH xM) hG (wpOp_putIf hoj (vX j oj hoj vD wH xZ) (λcs b=>hsel i oi cs b hi) (λcs b=>hsel j oj cs b hoj) hQ hy h1);have uT:∀k,(rF.setIfInBounds j true).getD k true=false->rF.getD k true=false:=λk vQ=>by
    by_cases hjk:j=k
    ·subst hjk;exact wH
    ·rw[getD_set_ne true hjk]at vQ;exact vQ
   refine wpOp_mono (λa' w' h3=>⟨h3.2.2.1,ih (rF.setIfInBounds j true) a' w' (λk ok hk vY vQ hno=>vX k ok hk vY (uT k vQ) hno) (λk hk=>?_) (λk ok hk vY vQ hw=>htm k ok hk vY (uT k vQ) hw) (qO hr (oT vD)) h3.2.1 h3.1 h3.2.2.1 ?_⟩) h2
   ·rw[getD_set_ne true (λe=>by subst e;rw[hk]at xM;cases xM)];exact hwt k hk
   ·rw[Array.setIfInBounds_comm _ _ vD];exact h3.2.2.2
theorem Uy:∀(fuel:Nat) (rF:Array Bool) (a:Act) (w:World),wpAny P md ops Q fuel rF a w->wpAnyH P md ops Q (λ_=>True) fuel rF a w
 | 0,_,_,_,h=>h
 | fuel+1,_,_,_,h=>⟨h.1,λi hi=>wpOp_mono (λa' w' h'=>⟨mV,Uy fuel _ a' w' h'⟩) (h.2 i hi)⟩
def waiters (ops:Array Oper)(i:Nat):List Bool:=
 ops.toList.foldl (λacc o=>acc++[o.after.any λe=>Region.binds .any e&&(Nat.beq e.on i || acc.getD e.on false)]) []
def cC (ops:Array Oper)(rF:Array Bool)(i:Nat):Bool:=
 let wt:=waiters ops i
 (List.range ops.size).all λj=>match ops[j]? with
  | none=>true
  | some o=>(bif wt.getD j false then !rF.getD j true&&o.after.any (λe=>Region.binds .any e&&(Nat.beq e.on i || wt.getD e.on false)) else true)&&(Nat.beq j i || rF.getD j true || wt.getD j false || SD o)
def MR (ops:Array Oper)(rF:Array Bool)(i n:Nat)(d:Option Tmp):Bool:=
 Region.noSelect ops&&Region.free .any ops rF i&&(Region.ready .any ops rF).contains i&&Ce n d&&Nat.beq (waiters ops i).length ops.size&&cC ops rF i
theorem Qx {i:Nat}{oi:Oper}{v:Value}{fuel n:Nat}{rF:Array Bool}{a:Act}{w:World}(hi:ops[i]?=some oi)(hc:MR ops rF i n oi.dst=true)
  (hQ :∀c a w,Q (.panic c) (a.put oi.dst v) w->Q (.panic c) a w) (hy:YieldsIf P ops (Grow w) oi v a) (hS:S w)
  (h:wpAnyH P .any ops Q S fuel (rF.setIfInBounds i true) (a.put oi.dst v) w):wpAnyH P .any ops Q S (fuel+1) rF a w:=by
 unfold MR at hc;simp only[mh]at hc;obtain⟨⟨⟨⟨⟨c1,c2⟩,c3⟩,_⟩,c5⟩,c6⟩:=hc;have c5:=oP c5;unfold cC at c6;have c6:=λ(j:Nat) (o:Oper) (ho:ops[j]?=some o)=>by
  have:=ma.1 c6 j (ot.2 (nN.1 ho).1);rw[ho]at this;simpa only[mh] using this
 have rh:∀j,(waiters ops i).getD j false=true->∃o,ops[j]?=some o:=λj hj=>by
  rcases pC j ops.size with h'|h'
  ·exact⟨_,na h'⟩
  ·rw[pW,nG (by omega)]at hj;cases hj
 refine Xz (wt:=λj=>(waiters ops i).getD j false) hi (Region.noSelect_spec c1) hQ ?_ fuel rF a w (Region.free_spec hi c2) ?_ ?_ (by simpa using c3) hy (.refl w) hS h
 ·intro j oj hj hw;have:=(c6 j oj hj).1;rw[hw,qj,mh]at this;obtain⟨e,he,h2⟩:=Array.any_eq_true'.1 this.2;simp only[mh,pJ]at h2;exact⟨e,he,h2.1,h2.2.imp oP id⟩
 ·intro j hw;obtain⟨oj,hj⟩:=rh j hw;have:=(c6 j oj hj).1;rw[hw,qj,mh]at this;simpa using this.1
 ·intro j oj hj vD vQ hw;have:=(c6 j oj hj).2;rw[vQ,hw]at this;simpa [vD] using this
end
def QA (P:Program)(s:St)(o:Oper)(v:AV):Prop:=
 o.guard=none/\∀F os a w,Rel F os s a w->∃u,(∀w',Grow w w'->(execOp a.eval o).run P w'=.ok (.value u) w')/\AU F w os v u
section
variable {P : Program} {s : St} {o : Oper} {v : AV} {n : Nat} {e : Nat -> AV} {st : List Row} {t : Tmp} {ty : TypeId} {ps : String} {ed : Array Edge} {x : Operand}
theorem P5.G (h:P5 P s o v):QA P s o v:=⟨h.1,λF os a w hr=>let ⟨u,h1,h2⟩:=h.2 F os a w hr;⟨u,λw' g=>h1 w' (λb hb=>g.2 b (hr.FU b hb)),h2⟩⟩
theorem Xm (hq:AQ P s o.op v)(hg:o.guard=none)(hs :∀ρ,Still P (execOp ρ o)):N1 P s o v:=
 ⟨hg,λF os a w hr=>by
  obtain⟨x,u,rfl,h1,h2⟩:=RP hr (hq (·=v) rfl);exact⟨u,(hs _ w _ _ h1).2,h2⟩⟩
theorem Ux {F:Nat->Prop}{os:List Own}{a:Act}{w:World}{id g i off:Nat}{el:TypeId}{size:Nat}{xs:List (List AV)}{cs:List AV}(hr:Rel F os ⟨n,e,st⟩ a w)(h:St.ev ⟨n,e,st⟩ x=.ptr id g i off)(rK:st[id]?=some ⟨g,el,size,xs⟩)(hi:xs[i]?=some cs):
  ∃b,a.eval x=.pointer (some ⟨b,i*size+off,none⟩)/\b<w.heap.size/\∀j c,cs[j]?=some c->∃u,w.cell? ⟨b,i*size+j,none⟩=some u/\AU F w os c u:=by
 have h1:=hr.ev x;rw[h]at h1;simp only[AU]at h1;obtain⟨o,ho,_,_,h2⟩:=h1;have ra:os.map Own.row=st:=hr.st;have hg:o.row=⟨g,el,size,xs⟩:=by
  rw[<- ra,mX,ho]at rK;simpa using rK
 rw[hg]at h2;obtain⟨_,_,b,hb,hv⟩:=h2 rfl;obtain⟨_,cur,h3,_,_,_,h6⟩:=(hr.rows id o ho).some b hb;rw[hg]at h3 h6;refine⟨b,hv,(nN.1 h3).1,λj c hc=>?_⟩;obtain⟨u,h7,h8⟩:=h6 i cs hi j c hc;exact⟨u,by simp only[World.cell?,h3];exact h7,h8⟩
theorem Ut {id g i off sz:Nat}{tt el:TypeId}{size:Nat}{xs:List (List AV)}{cs:List AV}{c:AV}(zR:CF P tt=some (false,sz))(h:St.ev ⟨n,e,st⟩ x=.ptr id g i off)(rK:st[id]?=some ⟨g,el,size,xs⟩)(hi:xs[i]?=some cs)(hc:cs[off]?=some c):QA P ⟨n,e,st⟩ ⟨some t,.load tt x,ty,ps,ed,none⟩ c:=
 ⟨rfl,λF os a w hr=>by
  obtain⟨b,e2,hb,tD⟩:=Ux hr h rK hi;obtain⟨d,i',hud,tz,e1,e3⟩:=IE zR;obtain⟨u,hu1,uJ⟩:=tD off c hc;refine⟨u,λw' zS=>?_,uJ⟩;have uR:=KW (w:=w') hud;rw[<- e1]at uR;have sR:w'.cell? ⟨b,i*size+off,none⟩=some u:=by rw[<- hu1];exact pK (zS.2 b hb)
  simp[execOp,e2,Instr.loadAt,Instr.sureAddr,loadVar,uR,sR]⟩
theorem ZH {id g i off sz:Nat}{tt el:TypeId}{size:Nat}{xs:List (List AV)}{cs:List AV}(zR:CF P tt=some (true,sz))(h:St.ev ⟨n,e,st⟩ x=.ptr id g i off)(rK:st[id]?=some ⟨g,el,size,xs⟩)(hi:xs[i]?=some cs)(hl:off+sz<=cs.length):QA P ⟨n,e,st⟩ ⟨some t,.load tt x,ty,ps,ed,none⟩ (.agg ((cs.drop off).take sz)):=
 ⟨rfl,λF os a w hr=>by
  obtain⟨b,e2,hb,hx⟩:=Ux hr h rK hi;obtain⟨d,i',hud,tz,e1,e3⟩:=IE zR;have hch:∃f:Nat->Value,∀j,j<sz->w.cell? ((⟨b,i*size+off,none⟩:Addr).add j)=some (f j)/\∀c,cs[off+j]?=some c->AU F w os c (f j):=
   ⟨λj=>(w.cell? ((⟨b,i*size+off,none⟩:Addr).add j)).getD undef,λj hj=>by
    have rh:off+j<cs.length:=by omega
    obtain⟨u,hu1,uJ⟩:=hx (off+j) cs[off+j] (mY rh);have zT:w.cell? ((⟨b,i*size+off,none⟩:Addr).add j)=some u:=by rw[CI,<- hu1,oW]
    simp only[zT,oh];refine⟨mV,λc hc=>?_⟩;rw[mY rh,mU]at hc;exact hc▸uJ⟩
  obtain⟨f,hf⟩:=hch;refine⟨.agg ((List.range sz).map f).toArray,λw' zS=>?_,?_⟩
  ·have uR:=KW (w:=w') hud;rw[<- e1]at uR;have ru:(sizeOf tt).run P w'=.ok i'.size w':=by simp[sizeOf,typeInfo,tz]
   have yh:=run_loadCells (P:=P) w' ⟨b,i*size+off,none⟩ sz f (λj hj=>by
    rw[<- (hf j hj).1,CI];exact pK (zS.2 b hb))
   simp only at e3;simp[execOp,e2,Instr.loadAt,Instr.sureAddr,loadVar,uR,ru,<- e3,yh]
  ·simp only[AU];refine⟨_,rfl,Cq (by simp;omega) λj c u hc hu=>?_⟩;simp only[nJ,ng]at hc;split at hc
   ·rename_i hj;simp only[mX,oe hj,nS,mU]at hu;subst hu;exact (hf j hj).2 c hc
   ·cases hc⟩
def hE (T:KV P)(s:St):Op->Option AV
 | .move x=>fo (s.ev x)
 | .assign x=>fo (s.ev x)
 | .fieldAddr t x f=>match s.ev x with
  | .Bz cs off=>(NJ T.f t f).bind λj=>some (.Bz cs (off+j))
  | .ptr id g i off=>(NJ T.f t f).bind λj=>Wi g s.st[id]? λr=>bif Nat.ble (off+j) r.size then some (.ptr id g i (off+j)) else none
  | _=>none
 | .load t x=>Vh T s t (s.ev x)
 | _=>none
def aE:Op->Bool
 | .load ..=>false
 | _=>true
theorem jX {T:KV P}{op:Op}(h:hE T ⟨n,e,st⟩ op=some v):(aE op=true/\N1 P ⟨n,e,st⟩ ⟨some t,op,ty,ps,ed,none⟩ v)∨(aE op=false/\QA P ⟨n,e,st⟩ ⟨some t,op,ty,ps,ed,none⟩ v):=by
 unfold hE at h;split at h
 ·exact .inl ⟨rfl,NQ (OA h)⟩
 ·exact .inl ⟨rfl,eD (OA h)⟩
 ·split at h
  ·rename_i hx;obtain⟨j,h1,h2⟩:=nK.1 h;cases h2;exact .inl ⟨rfl,L7 (QM h1) hx rfl⟩
  ·rename_i hx;obtain⟨j,h1,h2⟩:=nK.1 h;obtain⟨el,size,xs,hr,h2⟩:=MM h2;simp only at h2;cases hb:Nat.ble (_+j) size with
   | false=>rw[hb]at h2;cases h2
   | true=>rw[hb]at h2;cases h2;exact .inl ⟨rfl,Vv (QM h1) hx hr (pT hb) rfl⟩
  ·cases h
 ·refine .inr ⟨rfl,?_⟩;unfold Vh at h;split at h
  ·rename_i hx;obtain⟨⟨b,sz⟩,h1,h2⟩:=nK.1 h;rcases LO h2 with ⟨hb,h3⟩|⟨hb,h3,rfl⟩<;>simp only at hb<;>subst hb
   ·exact (N0 (Jd h1) hx h3).G
   ·exact (Pm (Jd h1) hx h3 rfl).G
  ·rename_i hx;obtain⟨el,size,xs,hr,h⟩:=MM h;obtain⟨cs,hi,h⟩:=nK.1 h;obtain⟨⟨b,sz⟩,h1,h2⟩:=nK.1 h;rcases LO h2 with ⟨hb,h3⟩|⟨hb,h3,rfl⟩<;>simp only at hb<;>subst hb
   ·exact Ut (Jd h1) hx hr hi h3
   ·exact ZH (Jd h1) hx hr hi h3
  ·cases h
 ·cases h
def Xd (P:Program):Op->Bool
 | .indexAddr ..=>true
 | .call ⟨.builtin .len,xs,ts⟩=>match xs.toList,ts.toList with
  | [_],[t]=>B1 P t
  | _,_=>false
 | _=>false
theorem bI {op:Op}(h:Xd P op=true)(ρ:Operand->Value):Still P (execOp ρ ⟨some t,op,ty,ps,ed,none⟩):=by
 unfold Xd at h;split at h
 ·exact Still.bind (.indexAt _ _ _) λ_=>.pure _
 ·rename_i xs ts;split at h
  ·rename_i x t' h1 h2;obtain rfl:xs=#[x]:=by rw[<- pU (xs:=xs),h1]
   obtain rfl:ts=#[t']:=by rw[<- pU (xs:=ts),h2]
   exact Still.bind (m:=Builtin.len_ #[t'] ty (#[x].map ρ)) (by simpa using Still.len h) λ_=>.pure _
  ·cases h
 ·cases h
end
def cJ (ops:Array Oper)(rF:Array Bool)(i n:Nat)(d:Option Tmp):Bool:=
 Region.noSelect ops&&Region.free .any ops rF i&&(Region.ready .any ops rF).contains i&&Ce n d
def cP (ops:Array Oper)(rF:Array Bool)(i n:Nat)(d:Option Tmp)(op:Op):Bool:=
 bif aE op then cJ ops rF i n d else MR ops rF i n d
section
variable {P : Program} {k : Nat} {ops : Array Oper} {Q : Exit -> St -> Prop} {N f : Nat} {rF : Array Bool} {s : St} {o : Oper} {v : AV} {n : Nat} {e : Nat -> AV} {st : List Row} {t : Tmp} {op : Op} {ty : TypeId} {ps : String} {ed : Array Edge}
theorem Ps {K:Prop}{i:Nat}{d:Option Tmp}(hc:cJ ops rF i n d=true)(h:Region.noSelect ops=true->Region.free .any ops rF i=true->(Region.ready .any ops rF).contains i=true->Ce n d=true->K):K:=by
 unfold cJ at hc;simp only[mh]at hc;exact h hc.1.1.1 hc.1.1.2 hc.1.2 hc.2
theorem VX (i:Nat)(hn:s.n=N)(ho:ops[i]?=some o)(hc:MR ops rF i N o.dst=true)(hh:QA P s o v)(h:AX P k ops Q N f (rF.setIfInBounds i true) (s.put o.dst v)):AX P k ops Q N (f+1) rF s:=
 ⟨hn,λF0 os0 w0 F os a w ry he=>by
  obtain⟨hg,hh⟩:=hh;obtain⟨u,hu,hv⟩:=hh F os a w ry;have hd:Ce s.n o.dst=true:=by
   unfold MR at hc;simp only[mh]at hc;rw[hn];exact hc.1.1.2
  exact wpAny_of_held (S:=λ_=>True) _ _ _ _ (Qx ho hc (λc a w ⟨_,_,_,hp,_⟩=>nomatch hp.1) (.inl ⟨by unfold Region.wanted;rw[hg],hu⟩) mV (Uy _ _ _ _ (h.2 F0 os0 w0 F os _ w (ry.put hd hv) he)))⟩
theorem AY.calm (i:Nat)(hn:s.n=N)(ho:ops[i]?=some o)(hc:MR ops rF i N o.dst=true)(hh:QA P s o v)(h:AY P k ops Q N f (rF.setIfInBounds i true) (s.put o.dst v)):AY P k ops Q N (f+1) rF s:=
 ⟨hn,λF0 os0 w0 F os a w ry he=>by
  obtain⟨hg,hh⟩:=hh;obtain⟨u,hu,hv⟩:=hh F os a w ry;have hd:Ce s.n o.dst=true:=by
   unfold MR at hc;simp only[mh]at hc;rw[hn];exact hc.1.1.2
  exact Qx ho hc (λc a w ⟨_,_,_,hp,_⟩=>nomatch hp.1) (.inl ⟨by unfold Region.wanted;rw[hg],hu⟩) he.HP (h.2 F0 os0 w0 F os _ w (ry.put hd hv) he)⟩
theorem DG (T:KV P)(i:Nat)(ho:ops[i]?=some ⟨some t,op,ty,ps,ed,none⟩)(hc:cP ops rF i n (some t) op=true)(h:hE T ⟨n,e,st⟩ op=some v)(hk:AX P k ops Q n f (rF.setIfInBounds i true) ⟨n,Ew e t v,st⟩):AX P k ops Q n (f+1) rF ⟨n,e,st⟩:=by
 unfold cP at hc;rcases jX (t:=t) (ty:=ty) (ps:=ps) (ed:=ed) h with ⟨hp,hh⟩|⟨hp,hh⟩
 ·rw[hp]at hc;exact Ps hc λa b c d=>LD i rfl ho a b c d hh hk
 ·rw[hp]at hc;exact VX i rfl ho hc hh hk
theorem Y3 (T:KV P)(i:Nat)(ho:ops[i]?=some ⟨some t,op,ty,ps,ed,none⟩)(hc:cP ops rF i n (some t) op=true)(h:hE T ⟨n,e,st⟩ op=some v)(hk:AY P k ops Q n f (rF.setIfInBounds i true) ⟨n,Ew e t v,st⟩):AY P k ops Q n (f+1) rF ⟨n,e,st⟩:=by
 unfold cP at hc;rcases jX (t:=t) (ty:=ty) (ps:=ps) (ed:=ed) h with ⟨hp,hh⟩|⟨hp,hh⟩
 ·rw[hp]at hc;exact Ps hc λa b c d=>AY.hoist i rfl ho a b c d hh hk
 ·rw[hp]at hc;exact AY.calm i rfl ho hc hh hk
theorem Kx (i:Nat)(ho:ops[i]?=some ⟨some t,op,ty,ps,ed,none⟩)(hc:cJ ops rF i n (some t)=true)(hs:Xd P op=true)(h:AQ P ⟨n,e,st⟩ op v)(hk:AX P k ops Q n f (rF.setIfInBounds i true) ⟨n,Ew e t v,st⟩):AX P k ops Q n (f+1) rF ⟨n,e,st⟩:=
 Ps hc λa b c d=>LD i rfl ho a b c d (Xm h rfl λρ=>bI hs ρ) hk
end
end Go.Abs
namespace Go.Abs
open Go
section
variable {P : Program} {k : Nat} {ops : Array Oper} {Q : Exit -> St -> Prop} {n m len : Nat} {st st' R : List Row} {e : Nat -> AV} {ds : List (Option Tmp)} {d : Option Tmp} {t : Tmp} {T el ty : TypeId} {ps : String} {ed : Array Edge} {v v' : AV} {r : List Oper} {gd : Option (Nat × Bool)} {xs : List (List AV)} {g size sz bytes : Nat} {zz cs : List AV} {x y : Operand} {f : FuncId} {sx : Array Operand} {ts : Array TypeId} {sO : List AV} {ag : Bool} {parts : Array (Nat × Operand)} {α : Type}
section
variable {x0 y0 : Row} {z0 : List Row} {K : MS -> Prop}
end
section
variable {N f : Nat} {rF : Array Bool} {op : Op}
end
end
end Go.Abs
namespace Go.Abs
open Go
end Go.Abs
namespace Go.Abs
open Go
section
variable {P : Program} {k : Nat} {ops : Array Oper} {Q : Exit -> St -> Prop} {ds : List (Option Tmp)} {r : List Oper} {n : Nat} {e : Nat -> AV} {st st' : List Row} {α : Type} {enc : α -> List AV} {la lr : List α} {B : List (List AV)} {gd : Option (Nat × Bool)} {t : Tmp} {x : Operand}
variable {f : FuncId} {q ia gQ gA nA m szA size : Nat} {elQ elA el ty : TypeId} {ps : String} {ed : Array Edge} {ts : Array TypeId}
end
end Go.Abs
namespace RC
open Go.Abs
end RC
namespace Go.Abs
open Go
section
variable {P : Program} {F : Nat -> Prop} {os : List Own} {s : St} {a : Act} {w : World} {k : Nat}
def Ft (F:Nat->Prop)(os:List Own)(b:Nat):Prop:=F b∨∃o:Own,o∈os/\o.owns b
inductive dY (st:List Row):AV->AV->Prop
 | val {c:AV} (h:Dd c=true):dY st c (NA c)
 | own {id g n:Nat} {row:Row} (hr:st[id]?=some row) (hg:row.gen=g) (hp:B8 row.xs):dY st (.own id g n) (.sl (Ia (row.xs.drop (row.xs.length-n))))
theorem XL (hr:Rel F os s a w){id g n:Nat}{o:Own}(ho:os[id]?=some o)(hg:o.row.gen=g)(hn:n=o.row.xs.length){ys:List (List AV)}(hlen:ys.length=o.row.xs.length)
  (sR :∀(i:Nat) x y,o.row.xs[i]?=some x->ys[i]?=some y->y.length=x.length/\∀(j:Nat) c d,x[j]?=some c->y[j]?=some d->dY s.st c d) {u:Value} (e2:AU F w os (.own id g n) u):AU (Ft F os) w os (.sl ys) u:=by
 have rR:=hr.rows id o ho;have vZ:∀b,F b->Ft F os b:=λ_ h=>.inl h;have hl:∀(i:Nat) (q:Own),os[i]?=some q->∀b,q.owns b->Ft F os b:=λi q hq b hb=>.inr ⟨q,mS hq,hb⟩;have hm:∀x v,AU F w os x v->AU (Ft F os) w os x v:=λx v h=>Cy vZ (λ_ _=>rfl) os os (DX.refl os) x v h;simp only[AU]at e2⊢;obtain⟨o',sA,_,_,e2⟩:=e2;rw[ho]at sA;cases sA;obtain⟨_,hv⟩:=e2 hg;subst hn;simp only[oo,pY,pq]at hv;rcases hv with ⟨hb,ad,rfl⟩|⟨b,hb,rfl⟩
 ·have yI:=(rR.none hb).1;have h0:ys=[]:=nI (by rw[hlen,yI];rfl);subst h0;exact⟨ad,0,by rw[yI],by simp,by simp⟩
 ·obtain⟨_,cur,re,ru,hle,_,rf⟩:=rR.some b hb;have rb:∀(i:Nat) y,ys[i]?=some y->∃x,o.row.xs[i]?=some x:=λi y hy=>by
   have hi:=(mT.1 hy).1;exact⟨o.row.xs[i],mY (by omega)⟩
  have hls:∀y∈ys,y.length=o.row.size:=λy hy=>by
   obtain⟨i,hi⟩:=oH hy;obtain⟨x,hx⟩:=rb i y hi;rw[(sR i x y hx hi).1];exact (rR.lens x (mS hx)).1
  refine⟨_,o.cap,by rw[hlen],by rw[hlen];exact hle,λ_=>⟨b,0,o.row.size,rfl,hl id o ho b (.inl hb),hls,?_⟩⟩;refine IT hls λi y hy=>HY λj d hd=>?_;obtain⟨x,hx⟩:=rb i y hy;obtain⟨hxy,hc⟩:=sR i x y hx hy;have uf:j<x.length:=by rw[<- hxy];exact (mT.1 hd).1
  obtain⟨c,hcj⟩ :∃c,x[j]?=some c:=⟨x[j],mY uf⟩
  have hk:=(rR.lens x (mS hx)).2 c (mS hcj);obtain⟨u,f1,f2⟩:=rf i x hx j c hcj;have vu:w.cell? ⟨b,0+i*o.row.size+j,none⟩=some u:=by
   rw[og w b _ cur _ _ re,ns];exact f1
  generalize hd':d=d' at *;cases hc j c d' hcj hd with
  | val hs=>
   by_cases hdv :∃el sz zs,c=.dv el sz zs
   ·obtain⟨el,sz,zs,rfl⟩:=hdv;obtain⟨D,d1,_,d3⟩:=rR.deep;obtain⟨u',q1,q2⟩:=d3 b hb cur _ _ re i x j el sz zs hx hcj;rw[f1]at q1;cases q1;obtain⟨g1,g2⟩:=P8 (F:=Ft F os) (λc hc=>hl id o ho c (.inr (d1 _ _ _ hc))) _ u q2;exact⟨u,vu,g2,g1⟩
   ·have uD:simple c=true:=by cases c<;>simp_all [Dd]
    rw[Kz uD];exact⟨u,vu,by cases c<;>simp_all [AV.kept],Fw uD [] (hm _ _ f2)⟩
  | @own id2 g2 n2 row hr2 hg2 hp2=>
   obtain⟨o2,vR,rfl⟩:=hr.row hr2;have:=Ww hr vZ vR (λb hb=>hl id2 o2 vR b hb) hp2 f2 hg2;exact⟨u,vu,rfl,Fw rfl [] this⟩
inductive LX (st:List Row):List AV->List AV->Prop
 | nil:LX st [] []
 | val {c:AV} {r r':List AV} (h:simple c=true) (hl:LX st r r'):LX st (c::r) (c::r')
 | own {β:Type} {l:List β} {enc:β->List AV} {id g size m:Nat} {el:TypeId} {r r':List AV} (hr:st[id]?=some ⟨g,el,size,l.map enc⟩) (hm:m=l.length) (hp :∀x,(enc x).all simple=true) (hl:LX st r r'):LX st (.own id g m::r) (.sl (l.map enc)::r')
theorem LX.spec {st:List Row}{x y:List AV}(h:LX st x y):y.length=x.length/\∀(j:Nat) c d,x[j]?=some c->y[j]?=some d->dY st c d:=by
 induction h with
 | nil=>exact⟨rfl,by simp⟩
 | @val c r r' h _ ih=>
  refine⟨by simp[ih.1],λj a b ha hb=>?_⟩;cases j with
  | zero=>
   simp only[mw,mU]at ha hb;subst ha;subst hb;have:=dY.val (st:=st) (LW h);rwa [Kz h]at this
  | succ j=>exact ih.2 j a b (by simpa using ha) (by simpa using hb)
 | @own β l enc id g size m el r r' hr hm hp _ ih=>
  refine⟨by simp[ih.1],λj a b ha hb=>?_⟩;cases j with
  | zero=>
   simp only[mw,mU]at ha hb;subst ha;subst hb;subst hm;have:=dY.own (st:=st) (n:=l.length) hr rfl (Ac hp).any;simpa [VS (Ac hp)] using this
  | succ j=>exact ih.2 j a b (by simpa using ha) (by simpa using hb)
inductive LE (st:List Row):AV->AV->Prop
 | val {v:AV} (h:simple v=true):LE st v v
 | own {α:Type} {l:List α} {enc sU:α->List AV} {id g size m:Nat} {el:TypeId} (hr:st[id]?=some ⟨g,el,size,l.map enc⟩) (hm:m=l.length) (hp :∀x,(enc x).all Dd=true) (hu :∀x,GB (enc x)=sU x):LE st (.own id g m) (.sl (l.map sU))
 | hol {α:Type} {l:List α} {enc sU:α->List AV} {id g size m:Nat} {el:TypeId} {J:Int} {x y:List AV} {c u:α} (hr:st[id]?=some ⟨g,el,size,hole l enc J x⟩) (hm:m=l.length) (hp :∀x,(enc x).all Dd=true) (hu :∀x,GB (enc x)=sU x) (hi:Sh.get l J=some c) (hy:sU u=y) (hx:LX st x y):LE st (.own id g m) (.sl ((Sh.put l J u).map sU))
theorem LE.spec {v v':AV}(h:LE s.st v v')(hr:Rel F os s a w){u:Value}(hv:AU F w os v u):AU (Ft F os) w os v' u/\simple v'=true:=by
 cases h with
 | val h=>exact⟨Cy (λ_ h=>.inl h) (λ_ _=>rfl) os os (DX.refl os) _ _ hv,h⟩
 | @own α l enc sU id g size m el rK hm hp hu=>
  obtain⟨o,ho,hor⟩:=hr.row rK;refine⟨XL hr ho (by rw[hor]) (by rw[hor,hm];simp) (by rw[hor];simp) (λi x y hx hy=>?_) hv,rfl⟩;rw[hor,mX,mZ]at hx;obtain⟨q,hq,rfl⟩:=hx;rw[mX,hq]at hy;simp only[nS,mU]at hy;subst hy;refine⟨by rw[<- hu,Ib,mf],λj c d hc hd=>?_⟩;rw[<- hu,Ib,mX,hc]at hd;simp only[nS,mU]at hd;subst hd;exact .val (ma.1 (hp q) c (mS hc))
 | @hol α l enc sU id g size m el J x y c u rK hm hp hu hi hy hx=>
  obtain⟨o,ho,hor⟩:=hr.row rK;refine⟨XL hr ho (by rw[hor]) (by rw[hor,hm];simp[hole]) (by rw[hor];simp[hole,Sh.put]) (λi x1 y1 yb hy1=>?_) hv,rfl⟩;rw[hor]at yb;simp only[hole,Sh.put,oR]at yb hy1;by_cases e:J.toNat=i
  ·subst e;have h1:=(mT.1 yb).1;simp only[pd,mf]at h1;rw[mc (by simpa using h1),mU]at yb hy1;subst yb;subst hy1;subst hy;exact hx.spec
  ·rw[mq e,mX,mZ]at yb hy1;obtain⟨q,hq,rfl⟩:=yb;obtain⟨q',uU,rfl⟩:=hy1;rw[hq]at uU;cases uU;refine⟨by rw[<- hu,Ib,mf],λj c d hc hd=>?_⟩;rw[<- hu,Ib,mX,hc]at hd;simp only[nS,mU]at hd;subst hd;exact .val (ma.1 (hp q) c (mS hc))
inductive LC (st:List Row):List AV->List AV->Prop
 | nil:LC st [] []
 | cons {a b:AV} {as bs:List AV} (h:LE st a b) (hl:LC st as bs):LC st (a::as) (b::bs)
theorem LC.spec {xs ys:List AV}(h:LC s.st xs ys)(hr:Rel F os s a w):∀{us:List Value},A7 F w os xs us->A7 (Ft F os) w os ys us/\ys.all simple=true:=by
 induction h with
 | nil=>intro us hu;exact⟨by simpa [A7] using hu,rfl⟩
 | cons h _ ih=>
  intro us hu;simp only[A7]at hu⊢;obtain⟨u,tO,e,h1,h2⟩:=hu;obtain⟨g1,g2⟩:=h.spec hr h1;obtain⟨g3,g4⟩:=ih h2;exact⟨⟨u,tO,e,g1,g3⟩,by simp[g2,g4]⟩
inductive LP (st:List Row):List AV->List AV->Prop
 | nil:LP st [] []
 | ptr {id g size off:Nat} {el:TypeId} {cs ds as bs:List AV} (hr:st[id]?=some ⟨g,el,size,[cs]⟩) (hc:LC st cs ds) (hl:LP st as bs):LP st (.ptr id g 0 off::as) (.Bz ds off::bs)
 | one {a b:AV} {as bs:List AV} (h:LE st a b) (hl:LP st as bs):LP st (a::as) (b::bs)
theorem cj (hr:Rel F os s a w){id g size off:Nat}{el:TypeId}{cs ds:List AV}(rK:s.st[id]?=some ⟨g,el,size,[cs]⟩)(hc:LC s.st cs ds){u:Value}(hv:AU F w os (.ptr id g 0 off) u):AU (Ft F os) w os (.Bz ds off) u:=by
 obtain⟨o,ho,hor⟩:=hr.row rK;have rR:=hr.rows id o ho;simp only[AU]at hv⊢;obtain⟨o',sA,_,_,e2⟩:=hv;rw[ho]at sA;cases sA;obtain⟨_,_,b,hb,rfl⟩:=e2 (by rw[hor]);obtain⟨_,cur,re,_,_,_,rf⟩:=rR.some b hb;refine⟨b,0,by simp,.inr ⟨o,mS ho,.inl hb⟩,?_⟩;have vh:o.row.xs[0]?=some cs:=by rw[hor];rfl
 have wv:=(rR.lens cs (mS vh)).2;have key:∀(as bs:List AV) (j:Nat),LC s.st as bs->(∀i c,as[i]?=some c->cs[j+i]?=some c)->De (Ft F os) w bs b j:=by
  intro as bs j h
  induction h generalizing j with
  | nil=>intro _;simp[De]
  | @cons c d as bs hcd _ ih=>
   intro tE;simp only[De];refine⟨?_,ih (j+1) λi c hi=>by rw[show j+1+i=j+(i+1) by omega];exact tE (i+1) c (by simpa using hi)⟩;obtain⟨uu,f1,f2⟩:=rf 0 cs vh j c (by simpa using tE 0 c rfl);obtain⟨g1,g2⟩:=hcd.spec hr f2;refine⟨uu,?_,?_,Fw g2 [] g1⟩
   ·rw[og w b _ cur _ _ re];simpa using f1
   ·have hk:=wv c (mS (by simpa using tE 0 c rfl));cases hcd with
    | val h=>cases c<;>simp_all [simple,AV.kept]
    | own=>rfl
    | hol=>rfl
 exact key cs ds 0 hc λi c hi=>by simpa using hi
theorem LP.spec {xs ys:List AV}(h:LP s.st xs ys)(hr:Rel F os s a w):∀{us:List Value},A7 F w os xs us->A7 (Ft F os) w os ys us/\ys.all simple=true:=by
 induction h with
 | nil=>intro us hu;exact⟨by simpa [A7] using hu,rfl⟩
 | ptr rK hc _ ih=>
  intro us hu;simp only[A7]at hu⊢;obtain⟨u,tO,e,h1,h2⟩:=hu;obtain⟨g3,g4⟩:=ih h2;exact⟨⟨u,tO,e,cj hr rK hc h1,g3⟩,by simp[simple,g4]⟩
 | one h _ ih=>
  intro us hu;simp only[A7]at hu⊢;obtain⟨u,tO,e,h1,h2⟩:=hu;obtain⟨g1,g2⟩:=h.spec hr h1;obtain⟨g3,g4⟩:=ih h2;exact⟨⟨u,tO,e,g1,g3⟩,by simp[g2,g4]⟩
inductive LA (st:List Row):List AV->List AV->Prop
 | nil:LA st [] []
 | one {a b:AV} {as bs:List AV} (h:LE st a b) (hl:LA st as bs):LA st (a::as) (b::bs)
 | agg {cs ds as bs:List AV} (h:LC st cs ds) (hl:LA st as bs):LA st (.agg cs::as) (.agg ds::bs)
 | fn {f:FuncId} {cs ds as bs:List AV} (h:LP st cs ds) (hl:LA st as bs):LA st (.fn f cs::as) (.fn f ds::bs)
theorem X1 {v:AV}(h:simple v=true):flat v=true:=by cases v<;>simp_all [simple,flat]
theorem LA.spec {xs ys:List AV}(h:LA s.st xs ys)(hr:Rel F os s a w):∀{us:List Value},A7 F w os xs us->A7 (Ft F os) w os ys us/\ys.all flat=true:=by
 induction h with
 | nil=>intro us hu;exact⟨by simpa [A7] using hu,rfl⟩
 | one h _ ih=>
  intro us hu;simp only[A7]at hu⊢;obtain⟨u,tO,e,h1,h2⟩:=hu;obtain⟨g1,g2⟩:=h.spec hr h1;obtain⟨g3,g4⟩:=ih h2;exact⟨⟨u,tO,e,g1,g3⟩,by simp[X1 g2,g4]⟩
 | agg h _ ih=>
  intro us hu;simp only[A7]at hu⊢;obtain⟨u,tO,e,h1,h2⟩:=hu;simp only[AU]at h1;obtain⟨vs,e1,h1⟩:=h1;obtain⟨g1,g2⟩:=h.spec hr h1;obtain⟨g3,g4⟩:=ih h2;exact⟨⟨u,tO,e,by simp only[AU];exact⟨vs,e1,g1⟩,g3⟩,by simp only[pM,g4,qC];exact g2⟩
 | fn h _ ih=>
  intro us hu;simp only[A7]at hu⊢;obtain⟨u,tO,e,h1,h2⟩:=hu;simp only[AU]at h1;obtain⟨vs,e1,h1⟩:=h1;obtain⟨g1,g2⟩:=h.spec hr h1;obtain⟨g3,g4⟩:=ih h2;exact⟨⟨u,tO,e,by simp only[AU];exact⟨vs,e1,g1⟩,g3⟩,by simp only[pM,g4,qC];exact g2⟩
theorem bS {f:FuncId}{args:List AV}{R:AV->List Row->Prop}(h:BJ P f args [] R)(hf:args.all flat=true){vs:List Value}(hr:Rel F os s a w)(sS:A7 (Ft F os) w os args vs):
  Calls P f vs.toArray w λe w'=>∃u r st' F' sC,e=.returned u/\R r st'/\Rel F os s a w'/\FT F' sC st' w'/\AU F' w' sC r u/\(∀b,F b->F' b)/\Ext F os w F os w' k/\
   (∀(i:Nat) (o:Own),os[i]?=some o->∀b,o.owns b->∀o1:Own,o1∈sC->¬ o1.owns b)/\∀b,b<w.heap.size->¬ F b->(∀o:Own,o∈os->¬ o.owns b)->∀o1:Own,o1∈sC->¬ o1.owns b:=by
 have vZ:∀b,F b->Ft F os b:=λ_ h=>.inl h;have rh:∀(i:Nat) (o:Own) b,os[i]?=some o->o.owns b->b<w.heap.size:=λi o b hi hb=>(hr.rows i o hi).lt hb;have tE:∀(i:Nat) (o:Own),os[i]?=some o->∀b,o.owns b->Ft F os b:=λi o ho b hb=>.inr ⟨o,mS ho,hb⟩;have wq:∀b,Ft F os b->b<w.heap.size:=λb hb=>by
  rcases hb with hb|⟨o,ho,vE⟩
  ·exact hr.FU b hb
  ·obtain⟨i,hi⟩:=oH ho;exact rh i o b hi vE
 refine (h (Ft F os) [] w vs (FT.nil wq) (OQ hf [] sS)).mono ?_;rintro e w' ⟨u,r,st',F',sC,rfl,hR,hs,hru,he⟩;have rK:∀(i:Nat) (o:Own),os[i]?=some o->∀b,o.owns b->w'.heap[b]?=w.heap[b]?/\∀o1:Own,o1∈sC->¬ o1.owns b:=λi o ho b hb=>by
  have h1:=tE i o ho b hb;refine⟨he.HP b h1,λo1 ho1 e=>?_⟩;obtain⟨j,hj⟩:=nC.1 ho1;exact (hs.rows j o1 hj).nF e (he.Ng b h1)
 have rZ:∀x v,AU F w os x v->AU F w' os x v:=λx v h=>Cy (λ_ h=>h) (λb hb=>he.HP b (vZ b hb)) os os (DX.refl os) x v h;have sw:Rel F os s a w':=⟨hr.st,λt=>rZ _ _ (hr.env t),hr.size,λi o ho=>by
   have rR:=hr.rows i o ho;refine⟨rR.pos,rR.lens,rR.none,λb hb=>?_,λb hb=>⟨(rR.mo b hb).1,nk (rR.mo b hb).2.1 he.size,(rR.mo b hb).2.2⟩,rR.deep.keep rfl (λ_ h=>h) rfl (λb hb=>(rK i o ho b hb).1) (λi x j e s ys hx hc=>⟨x,hx,hc⟩)⟩;obtain⟨e1,cur,e2,e3,e4,e5,e6⟩:=rR.some b hb;exact⟨e1,cur,by rw[(rK i o ho b (.inl hb)).1];exact e2,e3,e4,e5,λi' x hx j c hc=>by obtain⟨u,f1,f2⟩:=e6 i' x hx j c hc;exact⟨u,f1,rZ _ _ f2⟩⟩,
  hr.inj,λb hb=>nk (hr.FU b hb) he.size,hr.defers⟩
 have tq:∀b,b<w.heap.size->¬ F b->(∀o:Own,o∈os->¬ o.owns b)->w'.heap[b]?=w.heap[b]?/\∀o1:Own,o1∈sC->¬ o1.owns b:=λb hb e1 e2=>by
  have zG:¬ Ft F os b:=λh=>h.elim e1 (λ⟨o,ho,vE⟩=>e2 o ho vE);obtain⟨f1,_,f3⟩:=he.other b hb zG (by simp);exact⟨f1,f3⟩
 exact⟨u,r,st',F',sC,rfl,hR,sw,hs,hru,λb hb=>he.Ng b (vZ b hb),
  ⟨he.sys,he.tape,he.output,he.size,λ_ h=>h,λb hb=>he.HP b (vZ b hb),λb hb e1 e2=>⟨(tq b hb e1 e2).1,e1,e2⟩,λi o _ ho=>⟨o,ho,ml _,rfl,λ_=>⟨rfl,rfl,rfl⟩⟩⟩,
  λi o ho b hb=>(rK i o ho b hb).2,λb hb e1 e2=>(tq b hb e1 e2).2⟩
theorem V0 {f:FuncId}{args sO:List AV}{d:Option Tmp}{K:St->Prop}{R:AV->List Row->Prop}(h:BJ P f sO [] R)(hla:LA s.st args sO)
  (hK :∀r st',R r st'->(XC r=true/\∀row∈st',∀x∈row.xs,∀c∈x,Ly c=true)/\(∀row∈st',B8 row.xs)/\K ({ s with st:=s.st++st' }.put d (shift s.st.length r))):callThen P k s f args d K:=by
 intro F os a w vs hr hl;obtain⟨h1,h2⟩:=hla.spec hr hl;refine (bS (k:=k) h h2 hr h1).mono ?_;rintro e w' ⟨u,r,st',F',sC,rfl,hR,sw,hs,hru,hFF,he,si,tq⟩;obtain⟨⟨hsr,xc⟩,hp,hk⟩:=hK r st' hR;refine⟨u,_,s.st++st',F,os++sC,rfl,hk,sw.join hs hFF hp (.inr xc) si,?_,?_⟩
 ·rw[hr.len];exact RL (XH hsr hru)
 ·refine⟨he.sys,he.tape,he.output,he.size,λ_ h=>h,he.HP,λb hb e1 e2=>?_,λi o hi ho=>DX.append os sC i o ho⟩;obtain⟨f1,_,_⟩:=he.other b hb e1 e2;exact⟨f1,e1,λo ho=>by rcases nM.1 ho with h|h;exact e2 o h;exact tq b hb e1 e2 o h⟩
end
section
variable {P : Program} {k : Nat} {ops : Array Oper} {Q : Exit -> St -> Prop} {ds : List (Option Tmp)} {r : List Oper} {n : Nat} {e : Nat -> AV} {st st' rows : List Row} {ty : TypeId} {ps : String} {ed : Array Edge} {d : Option Tmp} {v v' : AV} {gd : Option (Nat × Bool)} {f : FuncId} {sx : Array Operand} {ts : Array TypeId} {args as : List AV}
theorem W8 (hg:GO ds gd e)(hb:Dy P f=true)(hc:BJ P f args [] λr st=>r=v/\st=rows)(ha:sx.toList.map (St.ev ⟨n,e,st⟩)++[]=as)(hla:LA st as args)(xc:XC v=true)(hp:NF rows)(hv:shift st.length v=v')(ra:st++rows=st')
  (hk:AO P k ops Q (ds++[d]) r (St.put ⟨n,e,st'⟩ d v')):AO P k ops Q ds (⟨d,.call ⟨.value (.func f),sx,ts⟩,ty,ps,ed,gd⟩::r) ⟨n,e,st⟩:=by
 subst hv;subst ra;subst ha;refine LN hg ?_;rw[Kl];refine⟨hb,V0 (R:=λr st=>r=v/\st=rows) hc hla ?_⟩;rintro r st' ⟨rfl,rfl⟩;exact⟨⟨xc,λrow rK=>(hp.get row rK).2⟩,λrow rK=>(hp.get row rK).1,hk⟩
end
end Go.Abs
namespace Go.Abs
open Go
section
variable {k : Nat}
theorem Tz {id g size i nn:Nat}{el:TypeId}{xs:List (List AV)}{c c':AV}{e:Nat->AV}{st st':List Row}(rK:st[id]?=some ⟨g,el,size,xs⟩)(hx:xs[i]?=some [c])(uP:c'.leaf=true)(hm :∀F w os u,os.map Own.row=st->AU F w os c u->AU F w os c' u)
  (ra:st.set id ⟨g,el,size,xs.set i [c']⟩=st'):Wk k ⟨nn,e,st⟩ ⟨nn,e,st'⟩:=λF os a w hr=>by
 subst ra;obtain⟨o,ho,hor⟩:=hr.row rK;have ra:os.map Own.row=st:=hr.st;have tw:o.row.xs=xs:=by rw[hor]
 let o':Own:={ o with row:={ o.row with xs:=xs.set i [c'] } }
 have rh:=(mT.1 ho).1;have tj:=(mT.1 hx).1;have sP:DX os (os.set id o'):=DX.set ho (ml _) rfl λ_=>⟨rfl,rfl,by simp[o',tw]⟩;have rb:∀(q:Nat) (oq:Own),(os.set id o')[q]?=some oq->(q≠id/\os[q]?=some oq)∨(q=id/\oq=o'):=λq oq hq=>by
  by_cases e:q=id
  ·subst e;rw[mc rh,mU]at hq;exact .inr ⟨rfl,hq.symm⟩
  ·rw[mq (oT e)]at hq;exact .inl ⟨e,hq⟩
 have rR:=hr.rows id o ho;have rZ:∀y v,AU F w os y v->AU F w (os.set id o') y v:=λy v h=>Cy (λ_ h=>h) (λ_ _=>rfl) os _ sP y v h;obtain⟨g1,g2,_⟩:=hr.V9 (k:=k) (GG.refl w none) (by simp) sP (λq oq hq=>by
   rcases rb q oq hq with ⟨_,h⟩|⟨_,rfl⟩
   ·exact .inl ⟨h,by simp⟩
   ·refine .inr ⟨rR.pos,λy hy=>?_,λhb=>?_,λb hb=>?_,rR.mo,?_⟩
    ·rcases nd hy with hy|rfl
     ·exact rR.lens y (by rw[tw];exact hy)
     ·have h0:=rR.lens _ (by rw[tw];exact mS hx);exact⟨h0.1,λd hd=>by simp only[nQ]at hd;subst hd;exact Ci uP⟩
    ·have:=(rR.none hb).1;rw[tw]at this;subst this;simp at hx
    ·obtain⟨h1,cur,h2,h3,h4,h5,h6⟩:=rR.some b hb;refine⟨h1,cur,h2,h3,by simpa [o',tw] using h4,h5,λi' y hy j' d tT=>?_⟩;simp only[o']at hy⊢;by_cases hi:i'=i
     ·subst hi;rw[mc tj,mU]at hy;subst hy;cases j' with
      | succ j'=>simp at tT
      | zero=>
       simp only[mw,mU]at tT;subst tT;obtain⟨u,f1,f2⟩:=h6 i' _ (by rw[tw];exact hx) 0 _ rfl;exact⟨u,f1,rZ _ _ (hm F w os u ra f2)⟩
     ·rw[mq (oT hi)]at hy;obtain⟨u,f1,f2⟩:=h6 i' y (by rw[tw];exact hy) j' d tT;exact⟨u,f1,rZ _ _ f2⟩
    ·refine rR.deep.keep rfl (λ_ h=>h) rfl (λ_ _=>rfl) λi' y j' e2 s2 zs hy tT=>?_;simp only[o']at hy;rw[tw];by_cases hi:i'=i
     ·subst hi;rw[mc tj,mU]at hy;subst hy;cases j' with
      | succ j'=>simp at tT
      | zero=>simp only[mw,mU]at tT;subst tT;cases uP
     ·rw[mq (oT hi)]at hy;exact⟨y,hy,tT⟩)
  (λq q' oq wK b hq uU hb sH=>by
   rcases rb q oq hq with ⟨h,h'⟩|⟨rfl,rfl⟩<;>rcases rb q' wK uU with ⟨g1,g2⟩|⟨g1,rfl⟩
   ·exact hr.inj q q' oq wK b h' g2 hb sH
   ·subst g1;exact absurd (hr.inj q _ oq o b h' ho hb sH) h
   ·exact absurd (hr.inj _ q' o wK b ho g2 hb sH).symm g1
   ·exact g1.symm)
  (λoq hoq b hb=>by
   obtain⟨q,hq⟩:=oH hoq;rcases rb q oq hq with ⟨_,h⟩|⟨_,rfl⟩
   ·exact .inr ⟨oq,mS h,hb⟩
   ·exact .inr ⟨o,mS ho,hb⟩)
  (by simp)
 refine⟨F,_,?_,g2⟩;have e1:(os.set id o').map Own.row=st.set id ⟨g,el,size,xs.set i [c']⟩:=by
  rw[oR,ra];simp only[o',hor]
 rw[e1]at g1;exact g1
theorem Wk.il {id m gm z g size n i nn:Nat}{el:TypeId}{xs:List (List AV)}{rz:Row}{e:Nat->AV}{st st':List Row}(rK:st[id]?=some ⟨g,el,size,xs⟩)(hx:xs[i]?=some [.own m gm n])(hz:st[z]?=some rz)(hzg:rz.gen≠0)
  (ra:st.set id ⟨g,el,size,xs.set i [.own z 0 0]⟩=st'):Wk k ⟨nn,e,st⟩ ⟨nn,e,st'⟩:=by
 refine Tz rK hx rfl (λF w os u ho f2=>?_) ra;rw[<- ho,mX,mZ]at hz;obtain⟨oz,hoz,hozr⟩:=hz;simp only[AU]at f2⊢;obtain⟨_,_,_,f3,_⟩:=f2;exact⟨oz,hoz,mi _,f3,λe0=>absurd (by rw[hozr]at e0;exact e0) hzg⟩
end
theorem SX.fix {sel:List Nat}{g size:Nat}{el:TypeId}{r r':List Row}{xs:List (List AV)}(h :∀x∈xs,∀c∈x,Ht sel c=c)(hl:SX sel r r'):SX sel (⟨g,el,size,xs⟩::r) (⟨g,el,size,xs⟩::r'):=λst0 h0 hm=>by
 obtain⟨h3,h4⟩:=hl st0 h0 (λrow hr=>hm row (nv _ hr));refine⟨?_,λrow hr=>?_⟩
 ·rw[mz,h3];congr 1;simp only[Bh];congr 1;refine (nD (g:=id) λz hz=>?_).trans (nt _);exact (nD (g:=id) λc hc=>h z hz c hc).trans (nt _)
 ·rcases mr.1 hr with rfl|hr
  ·exact h0 _ (hm _ (oQ ..))
  ·exact h4 row hr
section
variable {P : Program} {k : Nat} {ops : Array Oper} {Q : Exit -> St -> Prop} {ds : List (Option Tmp)} {r : List Oper} {n : Nat} {e : Nat -> AV} {st st' : List Row} {ty : TypeId} {ps : String} {ed : Array Edge} {gd : Option (Nat × Bool)} {T : TypeId} {x y : Operand} {ag : Bool} {id g : Nat} {el : TypeId} {α : Type} {l : List α} {enc : α -> List AV} {c u : α} {i : Int}
theorem iM (hg:GO ds gd e)(ht:CF P T=some (ag,1))(hx:St.ev ⟨n,e,st⟩ x=.ptr id g i.toNat 0)(hr:st[id]?=some ⟨g,el,1,l.map enc⟩)(hi:Sh.get l i=some c)(hv:St.ev ⟨n,e,st⟩ y=.zc)(hlen:(enc c).length=1)(hu:enc u=[.sl []])
  (ra:st.set id ⟨g,el,1,(Sh.put l i u).map enc⟩=st') (hk:AO P k ops Q (ds++[none]) r ⟨n,e,st'⟩):AO P k ops Q ds (⟨none,.store T x y,ty,ps,ed,gd⟩::r) ⟨n,e,st⟩:=by
 have rh:=(mT.1 hr).1;refine OF hg ht hx hr hi hv rfl rfl (ml 1) hlen rfl ?_;refine Aa (Tz (id:=id) (i:=i.toNat) (c:=.zc) (c':=.sl []) (mc rh) (FV hi) rfl (λF w os u _ h=>le.zc F w os u h) rfl) ?_;rw[QL,qa,VL hu.symm,ra];exact hk
end
end Go.Abs
namespace RC
open Go Go.Abs
def eV (l:List Int):List AV:=[.dv 3 1 (l.map eI)]
def eT (x:Bool×List Int):List AV:=[bif x.1 then .dv 3 1 (x.2.map eI) else .sl (x.2.map eI)]
def eG:Option (List Int)->List AV
 | none=>[.own 0 0 0]
 | some l=>eV l
theorem cE (x:Bool×List Int):(eT x).all Dd=true:=by obtain⟨b,l⟩:=x;cases b<;>rfl
theorem bp (x:Bool×List Int):GB (eT x)=(eS eI∘Prod.snd) x:=by
 obtain⟨b,l⟩:=x;cases b
 ·rfl
 ·simp only[eT,qj,GB,NA,Function.comp,eS,VS (Ac (enc:=eI) (l:=l) λ_=>rfl)]
theorem iL {sel:List Nat}(h:Ht sel (.own 0 0 0)=.own 0 0 0)(lx:List (Option (List Int))):∀x∈lx.map eG,∀c∈x,Ht sel c=c:=λx hx c hc=>by
 obtain⟨o,_,rfl⟩:=mu.1 hx;cases o with
 | none=>simp only[eG,nQ]at hc;subst hc;exact h
 | some l=>simp only[eG,eV,nQ]at hc;subst hc;rfl
theorem ir {lt:List (Bool×List Int)}(h :∀x∈lt,x.1=true):lt.map eT=(lt.map Prod.snd).map eV:=by
 rw[oC];exact nD λx hx=>by obtain⟨b,l⟩:=x;cases h _ hx;rfl
theorem fp (l:List (List Int)):l.map (eS eI)=(l.map λx=>(false,x)).map eT:=by rw[oC];rfl
theorem fh (l:List (List Int)):l.map eV=(l.map some).map eG:=by rw[oC];rfl
theorem snd_false (l:List (List Int)):(l.map λx=>(false,x)).map Prod.snd=l:=by rw[oC];exact nt _
theorem fH {lt:List (Bool×List Int)}{t:Int}{c:List Int}(h:Sh.get (lt.map Prod.snd) t=some c):∃b,Sh.get lt t=some (b,c):=by
 obtain⟨h1,h2,h3⟩:=Sh.get_some h;unfold Sh.get at h⊢;rw[me h1]at h⊢;rw[mX,mZ]at h;obtain⟨⟨b,l⟩,h4,rfl⟩:=h;exact⟨b,h4⟩
theorem dj {α:Type}{l:List α}{t:Int}{c:α}(h:Sh.get l t=some c):Sh.put l t c=l:=by
 obtain⟨h1,h2,h3⟩:=Sh.get_some h;unfold Sh.get at h;rw[me h1]at h;obtain⟨h4,h5⟩:=mT.1 h;unfold Sh.put;rw[<- h5];exact pH h4
theorem ZM {lt:List (Bool×List Int)}{t:Int}{q:List Int}:(Sh.put lt t (true,q)).map Prod.snd=Sh.put (lt.map Prod.snd) t q:=by simp[Sh.put,oR]
theorem cR {t:Int}(h:t<9223372036854775808)(h0:0<=t):Sh.w (t+1)<9223372036854775808/\(0<=Sh.w (t+1)->Sh.w (t+1)=t+1):=by
 by_cases e:t+1<=9223372036854775807
 ·have:=Abs.wrap_i64 (n:=t+1) (by omega) e;rw[show Sh.w (t+1)=t+1 from this];omega
 ·have e2:t=9223372036854775807:=by omega
  subst e2;have:Sh.w (9223372036854775807+1)=-9223372036854775808:=by decide
  rw[this];omega
def GI (l:List (List Int))(t:Int)(lx:List (Option (List Int))):Prop:=t<9223372036854775808/\(0<=t->∀i:Nat,t<=i->lx[i]?=l[i]?.map some)
theorem GI.init (l:List (List Int)):GI l 0 (l.map some):=⟨by omega,λ_ i _=>by rw[mX]⟩
theorem GI.get {l:List (List Int)}{t:Int}{lx:List (Option (List Int))}{c:List Int}(h:GI l t lx)(hc:Sh.get l t=some c):Sh.get lx t=some (some c):=by
 obtain⟨h1,h2,h3⟩:=Sh.get_some hc;unfold Sh.get at hc⊢;rw[me h1]at hc⊢;rw[h.2 h1 t.toNat (by omega),hc];rfl
theorem GI.next {l:List (List Int)}{t:Int}{lx:List (Option (List Int))}{c:List Int}(h:GI l t lx)(hc:Sh.get l t=some c):GI l (Sh.w (t+1)) (Sh.put lx t none):=by
 obtain⟨h1,h2,h3⟩:=Sh.get_some hc;obtain⟨w1,w2⟩:=cR h.1 h1;refine⟨w1,λh0 i hi=>?_⟩;have:=w2 h0;unfold Sh.put;rw[mq (by omega)];exact h.2 h1 i (by omega)
def TI (m:Nat)(t:Int)(lt:List (Bool×List Int)):Prop:=lt.length<=m/\t<9223372036854775808/\(0<=t->∀(i:Nat) x,(i:Int)<t->lt[i]?=some x->x.1=true)
theorem TI.init {m:Nat}{lt:List (Bool×List Int)}(h:lt.length<=m):TI m 0 lt:=⟨h,by omega,λ_ i x hi=>by omega⟩
theorem TI.next {m:Nat}{t:Int}{lt:List (Bool×List Int)}{c:Bool×List Int}{q:List Int}(h:TI m t lt)(hc:Sh.get lt t=some c):TI m (Sh.w (t+1)) (Sh.put lt t (true,q)):=by
 obtain⟨h1,h2,h3⟩:=Sh.get_some hc;obtain⟨w1,w2⟩:=cR h.2.1 h1;refine⟨by simpa [Sh.put] using h.1,w1,λh0 i x hi hx=>?_⟩;have:=w2 h0;unfold Sh.put at hx;by_cases e:t.toNat=i
 ·subst e;rw[mc (by omega),mU]at hx;subst hx;rfl
 ·rw[mq e]at hx;exact h.2.2 h1 i x (by omega) hx
theorem TI.all {m:Nat}{t:Int}{lt:List (Bool×List Int)}(h:TI m t lt)(ht:(m:Int)<=t):∀x∈lt,x.1=true:=λx hx=>by
 obtain⟨i,hi⟩:=oH hx;have:=(mT.1 hi).1;exact h.2.2 (by omega) i x (by have:=h.1;omega) hi
end RC
namespace RC
open Go Go.Abs
theorem lG {st:List Row}{id g m size:Nat}{el:TypeId}{lt:List (Bool×List Int)}(hr:st[id]?=some ⟨g,el,size,lt.map eT⟩)(hm:m=lt.length):LE st (.own id g m) (.sl ((lt.map Prod.snd).map (eS eI))):=by
 rw[oC];exact .own hr hm cE bp
theorem lj {st:List Row}{id g m size:Nat}{el:TypeId}{lt:List (Bool×List Int)}{J:Int}{b:Bool}{c:List Int}{x:List AV}(hr:st[id]?=some ⟨g,el,size,hole lt eT J x⟩)(hm:m=lt.length)(hi:Sh.get lt J=some (b,c))(hx:LX st x (eS eI c)):LE st (.own id g m) (.sl ((lt.map Prod.snd).map (eS eI))):=by
 have h:=LE.hol (u:=(b,c)) hr hm cE bp hi rfl hx;rw[dj hi]at h;rw[oC];exact h
end RC
