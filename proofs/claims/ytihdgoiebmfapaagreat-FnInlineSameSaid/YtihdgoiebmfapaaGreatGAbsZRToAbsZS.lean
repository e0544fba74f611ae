import Derived.Test.YtihdgoiebmfapaaGreatGAbsZPToSSDefs
set_option linter.all false
namespace Go.Abs
open Go
def preB:Nat->Nat->List Nat->Bool
 |0,_,_=>true
 |_+1,_,[]=>false
 |k+1,i,a::l=>Nat.beq a i&&preB k (i+1) l
def hasB (a:Nat):List Nat->Bool
 | []=>false
 |b::l=>Nat.beq b a || hasB a l
def ak:List Nat->Bool
 | []=>true
 |a::l=>!hasB a l&&ak l
def fm (k n:Nat)(sel:List Nat):Bool:=preB k 0 sel&&ak sel&&sel.all (·<n)
theorem YX:∀(k i:Nat) (l:List Nat),preB k i l=true->l.take k=List.range' i k
 |0,_,_,_=>by simp
 |k+1,i,[],h=>by simp[preB]at h
 |k+1,i,a::l,h=>by
  simp only[preB,pZ]at h;rw[List.take_succ_cons,List.range'_succ,YX k (i+1) l h.2,qa h.1]
theorem ZQ {a:Nat}:∀{l:List Nat},hasB a l=false->a ∉ l
 | [],_=>by simp
 |b::l,h=>by
  simp only[hasB,Bool.or_eq_false_iff]at h;intro hm;rcases pK.1 hm with rfl|hm
  .rw[Nat.beq_refl]at h;cases h.1
  .exact ZQ h.2 hm
theorem US:∀{l:List Nat},ak l=true->l.Nodup
 | [],_=>List.nodup_nil
 |a::l,h=>by
  simp only[ak,pZ,sQ]at h;exact List.nodup_cons.2 ⟨ZQ h.1,US h.2⟩
theorem OV {k n:Nat}{sel:List Nat}(h:fm k n sel=true):sel.take k=List.range k/\sel.Nodup/\sel.all (·<n)=true:=by
 unfold fm at h;simp only[pZ]at h;exact⟨by rw[YX k 0 sel h.1.1,List.range_eq_range'],US h.1.2,h.2⟩
theorem Ef {k n:Nat}{e:Nat->AV}{st st1 st':List Row}{L:List (Nat×AV)}(sel:List Nat)(hc:fm k st.length sel=true)(hp:CE st sel=st1)(hs:SR sel st1 st')(h:ME (λt=>Jn sel (e t)) L):
  Wk k ⟨n,e,st⟩ ⟨n,AP L,st'⟩:=N1 sel (OV hc).1 (OV hc).2.1 (OV hc).2.2 hp hs h
theorem AM {k n:Nat}{e:Nat->AV}{st st':List Row}{L:List (Nat×AV)}(sel:List Nat)(hc:fm k st.length sel=true)(hp:CE st sel=st')(hs:SR sel st' st')(h:ME (λt=>Jn sel (e t)) L):
  Wk k ⟨n,e,st⟩ ⟨n,AP L,st'⟩:=Wk.pk sel (OV hc).1 (OV hc).2.1 (OV hc).2.2 hp hs h
theorem SR.w {sel:List Nat}{g size:Nat}{el:TypeId}{cs cs':List AV}{r r':List Row}(hl:SR sel r r')(hc:cs.map (Jg sel)=cs':=by rfl)(hp:cs'.all AV.leaf=true:=by rfl):SR sel (⟨g,el,size,[cs]⟩::r) (⟨g,el,size,[cs']⟩::r'):=.raw hc hp hl
theorem SR.p {α:Type}{l:List α}{enc:α->List AV}{sel:List Nat}{g size:Nat}{el:TypeId}{r r':List Row}(hl:SR sel r r')(h :∀x,(enc x).all simple=true:=by exact λ_=>rfl):SR sel (⟨g,el,size,l.map enc⟩::r) (⟨g,el,size,l.map enc⟩::r'):=.pure (Ai h) hl
end Go.Abs
namespace Go.Abs
open Go
def Grow (w w':World):Prop:=w.heap.size<=w'.heap.size/\∀b,b<w.heap.size->w'.heap[b]?=w.heap[b]?
theorem Grow.refl (w:World):Grow w w:=⟨pL _,λ_ _=>rfl⟩
theorem Grow.trans {w1 w2 w3:World}(h:Grow w1 w2)(g:Grow w2 w3):Grow w1 w3:=⟨rl h.1 g.1,λb hb=>(g.2 b (qK hb h.1)).trans (h.2 b hb)⟩
def Cu {α:Type}(m:Sem α):Prop:=∀P w v w',m.run P w=.ok v w'->Grow w w'
theorem Cu.pure {α:Type}(a:α):Cu (pure a:Sem α):=λ_ w _ _ h=>by cases h;exact Grow.refl w
theorem Cu.halt {α:Type}(h:Halt):Cu (.halt h:Sem α):=λ_ _ _ _ h=>by cases h
theorem Cu.bind {α β:Type}{m:Sem α}{f:α->Sem β}(hm:Cu m)(hf :∀a,Cu (f a)):Cu (m >>= f):=λP w v w' h=>by
 rw[qG]at h;cases hr:m.run P w with
 |ok a w2=>rw[hr]at h;exact (hm P w a w2 hr).trans (hf a P w2 v w' h)
 |halt x w2=>rw[hr]at h;cases h
theorem Cu.load (a:Addr):Cu (Go.load a):=λP w v w' h=>by
 unfold Go.load at h;simp only[Sem.run]at h;split at h
 .cases h;exact Grow.refl w
 .split at h
  .cases h;exact Grow.refl w
  .cases h
theorem Cu.program:Cu Go.program:=λP w v w' h=>by cases h;exact Grow.refl w
theorem Cu.shape (r:Nat):Cu (Go.shape r):=λP w v w' h=>by cases h;exact Grow.refl w
theorem Cu.newObj (o:Obj):Cu (Go.newObj o):=λP w v w' h=>by
 cases h;exact⟨by simp,λb hb=>by simp[Array.getElem?_push,Nat.ne_of_lt hb]⟩
theorem Cu.choose (q:Question):Cu (Go.choose q):=λP w v w' h=>by
 unfold Go.choose at h;simp only[Sem.run]at h;split at h<;>cases h<;>exact Grow.refl w
theorem Cu.typeInfo (t:TypeId):Cu (Go.typeInfo t):=.bind .program λp=>by split;exact .pure _;exact .halt _
theorem Cu.underlying (t:TypeId):Cu (Go.underlying t):=.bind .program λp=>by split;exact .pure _;exact .halt _
theorem Cu.sizeOf (t:TypeId):Cu (Go.sizeOf t):=.bind (.typeInfo t) λ_=>.pure _
theorem Cu.zeroValue (t:TypeId):Cu (Go.zeroValue t):=.bind (.typeInfo t) λ_=>by split;exact .pure _;exact .halt _
theorem Cu.isAgg (t:TypeId):Cu (Go.isAgg t):=.bind (.underlying t) λ_=>by split<;>exact .pure _
theorem Cu.loadCellsFrom (a:Addr):∀(n i:Nat) (acc:Array Value),Cu (Go.loadCellsFrom a i n acc)
 |0,_,_=>.pure _
 |n+1,i,acc=>.bind (.load _) λv=>Cu.loadCellsFrom a n (i+1) (acc.push v)
theorem Cu.loadVar (t:TypeId)(a:Addr):Cu (Go.loadVar t a):=.bind (.isAgg t) λb=>by
 split
 .exact .bind (.sizeOf t) λn=>.bind (.loadCellsFrom a n 0 _) λ_=>.pure _
 .exact .load a
theorem Cu.sureAddr (v:Value):Cu (Instr.sureAddr v):=by unfold Instr.sureAddr;split;exact .pure _;exact .halt _
theorem Cu.loadAt (t:TypeId)(v:Value):Cu (Instr.loadAt t v):=.bind (.sureAddr v) λa=>.loadVar t a
theorem Cu.getObj (r:Nat):Cu (Go.getObj r):=λP w v w' h=>by
 unfold Go.getObj at h;simp only[Sem.run]at h;split at h
 .cases h
 .cases h;exact Grow.refl w
 .cases h
theorem Cu.viewAt (r:Nat):Cu (Go.viewAt r):=by
 unfold Go.viewAt;refine .bind (.shape r) λs=>?_
 repeat' first|exact .pure _|exact .halt _|exact .bind (.getObj r) (λo=>by split<;>exact .pure _)|split
theorem Cu.noView (a:Addr):Cu (Go.noView a):=by
 unfold Go.noView;refine .bind (.viewAt _) λs=>?_;split
 .exact .halt _
 .exact .pure _
theorem Cu.byteOf (a:Addr):Cu (Go.byteOf a):=by
 unfold Go.byteOf;dsimp only;split
 .exact .pure _
 .refine .bind .program λp=>.bind (.noView a) λ_=>.bind (.shape _) λs=>?_
  repeat' first|exact .pure _|exact .halt _|split
theorem Cu.fieldPlace (a:Addr)(f:Field):Cu (fieldPlace a f):=.bind (.sizeOf _) λn=>by
 split
 .exact .bind (.byteOf _) λ_=>.bind (.byteOf _) λ_=>.pure _
 .exact .pure _
theorem Cu.fieldAt (s:TypeId)(v:Value)(f:Nat):Cu (Instr.fieldAt s v f):=by
 unfold Instr.fieldAt;refine .bind (.underlying s) λd=>?_;split
 .split
  .exact .bind (.sureAddr v) λa=>.bind (.fieldPlace a _) λ_=>.pure _
  .exact .halt _
 .exact .halt _
theorem Cu.asIntOf (v:Value):Cu (Go.asIntOf v):=by
 unfold Go.asIntOf;split
 .exact .pure _
 .exact .halt _
 .exact .halt _
theorem Cu.Qj {α:Type}(x y:Int)(s:Bool)(c:BoundsCode):Cu (runtimePanic (.bounds x y s c):Sem α):=.bind .program λ_=>.halt _
theorem Cu.boundsPanic {α:Type}(k:IntKind)(x y:Int)(c:BoundsCode):Cu (Go.boundsPanic k x y c:Sem α):=by
 unfold Go.boundsPanic;dsimp only;split
 .exact Cu.bind (Cu.bind (.choose _) λ_=>.pure _) λ_=>.Qj _ _ _ _
 .exact Cu.bind (.pure _) λ_=>.Qj _ _ _ _
theorem Cu.indexAt (t:TypeId)(x i:Value):Cu (Instr.indexAt t x i):=by
 unfold Instr.indexAt;dsimp only;refine .bind (.asIntOf i) λki=>.bind (.underlying t) λd=>?_
 repeat' first|exact .pure _|exact .halt _|exact .boundsPanic _ _ _ _|exact .sureAddr _|exact .underlying _|exact .sizeOf _|(refine .bind ?_ λ_=>?_)|split
theorem Cu.newVar (t:TypeId)(v:Value):Cu (Go.newVar t v):=.bind (.newObj _) λ_=>.pure _
theorem Cu.alloc (t:TypeId):Cu (Instr.alloc t true (.tuple #[])):=.bind (.zeroValue t) λz=>.bind (.newVar t z) λ_=>.pure _
theorem Cu.box (t:TypeId)(v:Value):Cu (Instr.box t v):=.bind (.newVar t v) λ_=>.pure _
theorem Cu.buildSlice (t:TypeId)(n:Nat)(ps:Array (Nat×Value)):Cu (Instr.buildSlice t n ps):=by
 unfold Instr.buildSlice;dsimp only
 repeat' first|exact .pure _|exact .halt _|exact .underlying _|exact .sizeOf _|exact .zeroValue _|exact .newObj _|(refine .bind ?_ λ_=>?_)|split
def Still (P:Program){α:Type}(m:Sem α):Prop:=∀w v w1,m.run P w=.ok v w1->w1=w/\∀w',m.run P w'=.ok v w'
section
variable {P : Program}
theorem Still.pure {α:Type}(a:α):Still P (pure a:Sem α):=λw _ _ h=>by cases h;exact⟨rfl,λ_=>rfl⟩
theorem Still.halt {α:Type}(h:Halt):Still P (.halt h:Sem α):=λ_ _ _ h=>by cases h
theorem Still.never {α:Type}{m:Sem α}(h :∀w v w1,m.run P w≠.ok v w1):Still P m:=λw v w1 e=>absurd e (h w v w1)
theorem Still.bind {α β:Type}{m:Sem α}{f:α->Sem β}(hm:Still P m)(hf :∀a,Still P (f a)):Still P (m >>= f):=λw v w1 h=>by
 rw[qG]at h;cases hr:m.run P w with
 |ok a w2=>
  rw[hr]at h;obtain⟨rfl,h1⟩:=hm w a w2 hr;obtain⟨rfl,h2⟩:=hf a w2 v w1 h;exact⟨rfl,λw'=>by rw[qG,h1 w'];exact h2 w'⟩
 |halt x w2=>rw[hr]at h;cases h
theorem Still.program:Still P Go.program:=λw v w1 h=>by cases h;exact⟨rfl,λ_=>rfl⟩
theorem Still.typeInfo (t:TypeId):Still P (Go.typeInfo t):=.bind .program λp=>by split;exact .pure _;exact .halt _
theorem Still.underlying (t:TypeId):Still P (Go.underlying t):=.bind .program λp=>by split;exact .pure _;exact .halt _
theorem Still.sizeOf (t:TypeId):Still P (Go.sizeOf t):=.bind (.typeInfo t) λ_=>.pure _
theorem Still.sureAddr (v:Value):Still P (Instr.sureAddr v):=by unfold Instr.sureAddr;split;exact .pure _;exact .halt _
theorem Still.asIntOf (v:Value):Still P (Go.asIntOf v):=by
 unfold Go.asIntOf;split
 .exact .pure _
 .exact .halt _
 .exact .halt _
theorem Still.boundsPanic {α:Type}(k:IntKind)(x y:Int)(c:BoundsCode):Still P (Go.boundsPanic k x y c:Sem α):=.never λw v w1 h=>by
 unfold Go.boundsPanic at h;dsimp only at h;have hn:∀(s:Bool) w2,(runtimePanic (.bounds (IntKind.i64.wrap x) y s c):Sem α).run P w2≠.ok v w1:=λs w2 h=>by
  unfold runtimePanic at h;rw[qG]at h;cases h
 split at h
 .rw[qG]at h;generalize ((λx=>x==1) <$> Go.choose (Question.extern "runtime.boundsError.signed" 2)).run P w=r at h;cases r with
  |ok a w2=>exact hn _ _ h
  |halt=>cases h
 .exact hn _ _ h
theorem Still.indexAt (t:TypeId)(x i:Value):Still P (Instr.indexAt t x i):=by
 unfold Instr.indexAt;dsimp only;refine .bind (.asIntOf i) λki=>.bind (.underlying t) λd=>?_
 repeat' first|exact .pure _|exact .halt _|exact .boundsPanic _ _ _ _|exact .sureAddr _|exact .underlying _|exact .sizeOf _|(refine .bind ?_ λ_=>?_)|split
theorem Still.len {t ty:TypeId}{x:Value}(ht:DG P t=true):Still P (Builtin.len_ #[t] ty #[x]):=λw v w1 h=>by
 unfold DG at ht;split at ht
 .rename_i e he;have hr:∀w',(Builtin.len_ #[t] ty #[x]).run P w'=(match x with|.slice _ n _=>.ok (goInt n) w'|_=>.halt (.stuck "len: string, array, pointer to array, slice, map or channel expected") w'):=λw'=>by
   unfold Builtin.len_;simp only[rq,ph,qG,qQ he,qD];cases x<;>rfl
  rw[hr]at h;cases x<;>simp at h;obtain⟨rfl,rfl⟩:=h;exact⟨rfl,λw'=>hr w'⟩
 .cases ht
end
def UH (o:Oper):Bool:=match o.op with
 |.move _|.assign _|.load ..|.fieldAddr ..|.indexAddr ..|.alloc _|.box ..|.buildSlice ..=>true
 |.call ⟨.builtin .len,_,_⟩=>true
 |_=>false
theorem Lo {P:Program}{m:Sem Value}{w w':World}{n:Next}(hm:Cu m)(h:(do pure (Next.value (← m)):Sem Next).run P w=.ok n w'):(∃u,n=.value u)/\Grow w w':=by
 rw[qG]at h;cases hr:m.run P w with
 |ok a w2=>rw[hr]at h;cases h;exact⟨⟨_,rfl⟩,hm P w _ _ hr⟩
 |halt x w2=>rw[hr]at h;cases h
theorem Cu.len (ts:Array TypeId)(ty:TypeId)(xs:Array Value):Cu (Builtin.len_ ts ty xs):=by
 unfold Builtin.len_
 repeat' first|exact .pure _|exact .halt _|exact .underlying _|exact .getObj _|(refine .bind ?_ λ_=>?_)|split
theorem bz {P:Program}{o:Oper}{ρ:Operand->Value}{w w':World}{n:Next}(h:UH o=true)(hr:(execOp ρ o).run P w=.ok n w'):(∃u,n=.value u)/\Grow w w':=by
 unfold UH at h;unfold execOp at hr;split at h<;>rename_i ho<;>try (cases h;done)
 all_goals rw[ho]at hr
 .cases hr;exact⟨⟨_,rfl⟩,.refl _⟩
 .cases hr;exact⟨⟨_,rfl⟩,.refl _⟩
 .exact Lo (.loadAt _ _) hr
 .exact Lo (.fieldAt _ _ _) hr
 .exact Lo (.indexAt _ _ _) hr
 .exact Lo (.alloc _) hr
 .exact Lo (.box _ _) hr
 .exact Lo (.buildSlice _ _ _) hr
 .exact Lo (.len _ _ _) hr
section
variable {P : Program} {ops : Array Oper} {Q : Exit -> Act -> World -> Prop} {md : Region.Mode} {S : World -> Prop}
theorem fF {i:Nat}{o:Oper}{K:Act->World->Prop}{a:Act}{w0 w:World}(hi:ops[i]?=some o)(ht:UH o=true)(hG:Grow w0 w)(h:wpOp P ops Q i K a w):wpOp P ops Q i (λa' w'=>Grow w0 w'/\K a' w') a w:=by
 unfold wpOp at *;simp only[hi] at *;split
 .rename_i hw;rw[pI hw]at h;refine h.imp (λh=>?_) id;unfold Oper.wp at *;cases hr:(execOp a.eval o).run P w with
  |ok n w'=>
   obtain⟨⟨u,rfl⟩,g⟩:=bz ht hr;rw[hr]at h;simp only[Oper.upon]at h⊢;exact⟨hG.trans g,h⟩
  |halt x w'=>
   rw[hr]at h;cases x<;>simp only[Oper.upon]at h⊢;exact h
 .rename_i hw;rw[pJ hw]at h;exact⟨hG,h⟩
theorem az {i:Nat}{oi:Oper}{v:Value}{w0:World}{wt:Nat->Bool}(hi:ops[i]?=some oi)(hsel :∀(j:Nat) (o:Oper) cs b,ops[j]?=some o->o.op≠.select cs b)
  (hQ :∀c a w,Q (.panic c) (a.put oi.dst v) w->Q (.panic c) a w)
  (xZ :∀j oj,ops[j]?=some oj->wt j=true->∃e∈oj.after,Region.binds md e=true/\(e.on=i∨wt e.on=true)) :
  ∀(fuel:Nat) (tm:Array Bool) (a:Act) (w:World),
   (∀j oj,ops[j]?=some oj->j≠i->tm.getD j true=false->(∀e∈oj.after,Region.binds md e=true->e.on≠i)->oi.apart ops oj=true)->
   (∀j,wt j=true->tm.getD j true=false)->
   (∀j oj,ops[j]?=some oj->j≠i->tm.getD j true=false->wt j=false->UH oj=true)->
   i∈Region.ready md ops tm->YieldsIf P ops (Grow w0) oi v a->Grow w0 w->S w->
   wpAnyH P md ops Q S fuel (tm.setIfInBounds i true) (a.put oi.dst v) w->wpAnyH P md ops Q S (fuel+1) tm a w:=by
 intro fuel
 induction fuel with
 |zero=>
  intro tm a w _ _ _ hr hy hG hS H;refine⟨λh=>(by rw[h]at hr;cases hr),λj hj=>?_⟩;by_cases wX:j=i
  .subst wX;exact hy.wpOp hi hG ⟨hS,H⟩
  .have:=sA hj wX;rw[H.1]at this;cases this
 |succ fuel ih=>
  intro tm a w xJ hwt htm hr hy hG hS H;refine⟨λh=>(by rw[h]at hr;cases hr),λj hj=>?_⟩;by_cases wX:j=i
  .subst wX;exact hy.wpOp hi hG ⟨hS,H⟩
  .have h1:=H.2 j (sA hj wX);obtain⟨yC,oj,xK,vd⟩:=sD.1 hj;have off:∀(k:Nat),tm.getD k true=false->∀e∈oj.after,Region.binds md e=true->e.on≠k:=λk hk e he hb heq=>by
    have h1:=vd e he hb;rw[heq]at h1;rcases rG k tm.size with h'|h'
    .simp[h']at hk h1;rw[hk]at h1;cases h1
    .simp[sP h']at h1
   have hnot:=off i (sD.1 hr).1;have hnw:wt j=false:=by
    cases hw:wt j with
    |false=>rfl
    |true=>
     obtain⟨e,he,hb,h|h⟩:=xZ j oj xK hw
     .exact absurd h (hnot e he hb)
     .exact absurd rfl (off e.on (hwt _ h) e he hb)
   have h2:=fF xK (htm j oj xK wX yC hnw) hG (wpOp_putIf xK (xJ j oj xK wX yC hnot) (λcs b=>hsel i oi cs b hi) (λcs b=>hsel j oj cs b xK) hQ hy h1);have wI:∀k,(tm.setIfInBounds j true).getD k true=false->tm.getD k true=false:=λk we=>by
    by_cases hjk:j=k
    .subst hjk;exact yC
    .rw[sZ true hjk]at we;exact we
   refine wpOp_mono (λa' w' h3=>⟨h3.2.2.1,ih (tm.setIfInBounds j true) a' w' (λk ok hk hki we hno=>xJ k ok hk hki (wI k we) hno) (λk hk=>?_) (λk ok hk hki we hw=>htm k ok hk hki (wI k we) hw) (sA hr (qv wX)) h3.2.1 h3.1 h3.2.2.1 ?_⟩) h2
   .rw[sZ true (λe=>by subst e;rw[hk]at hnw;cases hnw)];exact hwt k hk
   .rw[sG _ _ wX];exact h3.2.2.2
theorem XG:∀(fuel:Nat) (tm:Array Bool) (a:Act) (w:World),wpAny P md ops Q fuel tm a w->wpAnyH P md ops Q (λ_=>True) fuel tm a w
 |0,_,_,_,h=>h
 |fuel+1,_,_,_,h=>⟨h.1,λi hi=>wpOp_mono (λa' w' h'=>⟨oz,XG fuel _ a' w' h'⟩) (h.2 i hi)⟩
def waiters (ops:Array Oper)(i:Nat):List Bool:=
 ops.toList.foldl (λacc o=>acc++[o.after.any λe=>Region.binds .any e&&(Nat.beq e.on i || acc.getD e.on false)]) []
def fQ (ops:Array Oper)(tm:Array Bool)(i:Nat):Bool:=
 let wt:=waiters ops i
 (List.range ops.size).all λj=>match ops[j]? with
  |none=>true
  |some o=>(bif wt.getD j false then !tm.getD j true&&o.after.any (λe=>Region.binds .any e&&(Nat.beq e.on i || wt.getD e.on false)) else true)&&(Nat.beq j i || tm.getD j true || wt.getD j false || UH o)
def NZ (ops:Array Oper)(tm:Array Bool)(i n:Nat)(d:Option Tmp):Bool:=
 Region.noSelect ops&&Region.free .any ops tm i&&(Region.ready .any ops tm).contains i&&Cy n d&&Nat.beq (waiters ops i).length ops.size&&fQ ops tm i
theorem R9 {i:Nat}{oi:Oper}{v:Value}{fuel n:Nat}{tm:Array Bool}{a:Act}{w:World}(hi:ops[i]?=some oi)(hc:NZ ops tm i n oi.dst=true)
  (hQ :∀c a w,Q (.panic c) (a.put oi.dst v) w->Q (.panic c) a w) (hy:YieldsIf P ops (Grow w) oi v a) (hS:S w)
  (h:wpAnyH P .any ops Q S fuel (tm.setIfInBounds i true) (a.put oi.dst v) w):wpAnyH P .any ops Q S (fuel+1) tm a w:=by
 unfold NZ at hc;simp only[pZ]at hc;obtain⟨⟨⟨⟨⟨c1,c2⟩,c3⟩,_⟩,c5⟩,c6⟩:=hc;have c5:=qa c5;unfold fQ at c6;have c6:=λ(j:Nat) (o:Oper) (ho:ops[j]?=some o)=>by
  have:=pG.1 c6 j (rE.2 (px.1 ho).1);rw[ho]at this;simpa only[pZ] using this
 have uU:∀j,(waiters ops i).getD j false=true->∃o,ops[j]?=some o:=λj hj=>by
  rcases rG j ops.size with h'|h'
  .exact⟨_,qh h'⟩
  .rw[rM,qA (by omega)]at hj;cases hj
 refine az (wt:=λj=>(waiters ops i).getD j false) hi (Region.noSelect_spec c1) hQ ?_ fuel tm a w (tF hi c2) ?_ ?_ (by simpa using c3) hy (.refl w) hS h
 .intro j oj hj hw;have:=(c6 j oj hj).1;rw[hw,cond_true,pZ]at this;obtain⟨e,he,h2⟩:=Array.any_eq_true'.1 this.2;simp only[pZ,sJ]at h2;exact⟨e,he,h2.1,h2.2.imp qa id⟩
 .intro j hw;obtain⟨oj,hj⟩:=uU j hw;have:=(c6 j oj hj).1;rw[hw,cond_true,pZ]at this;simpa using this.1
 .intro j oj hj wX we hw;have:=(c6 j oj hj).2;rw[we,hw]at this;simpa [wX] using this
end
def PX (P:Program)(s:St)(o:Oper)(v:AV):Prop:=
 o.guard=none/\∀F os a w,Rel F os s a w->∃u,(∀w',Grow w w'->(execOp a.eval o).run P w'=.ok (.value u) w')/\Ab F w os v u
section
variable {P : Program} {s : St} {o : Oper} {v : AV} {n : Nat} {e : Nat -> AV} {st : List Row} {t : Tmp} {ty : TypeId} {ps : String} {ed : Array Edge} {x : Operand}
theorem RX.G (h:RX P s o v):PX P s o v:=⟨h.1,λF os a w hr=>let ⟨u,h1,h2⟩:=h.2 F os a w hr;⟨u,λw' g=>h1 w' (λb hb=>g.2 b (hr.Fu b hb)),h2⟩⟩
theorem TN (hq:AQ P s o.op v)(hg:o.guard=none)(hs :∀ρ,Still P (execOp ρ o)):Pd P s o v:=
 ⟨hg,λF os a w hr=>by
  obtain⟨x,u,rfl,h1,h2⟩:=SN hr (hq (·=v) rfl);exact⟨u,(hs _ w _ _ h1).2,h2⟩⟩
theorem Xx {F:Nat->Prop}{os:List Own}{a:Act}{w:World}{id g i off:Nat}{el:TypeId}{size:Nat}{xs:List (List AV)}{cs:List AV}(hr:Rel F os ⟨n,e,st⟩ a w)(h:St.ev ⟨n,e,st⟩ x=.ptr id g i off)(tv:st[id]?=some ⟨g,el,size,xs⟩)(hi:xs[i]?=some cs):
  ∃b,a.eval x=.pointer (some ⟨b,i*size+off,none⟩)/\b<w.heap.size/\∀j c,cs[j]?=some c->∃u,w.cell? ⟨b,i*size+j,none⟩=some u/\Ab F w os c u:=by
 have h1:=hr.ev x;rw[h]at h1;simp only[Ab]at h1;obtain⟨o,ho,_,_,h2⟩:=h1;have uV:os.map Own.row=st:=hr.st;have hg:o.row=⟨g,el,size,xs⟩:=by
  rw[<- uV,pB,ho]at tv;simpa using tv
 rw[hg]at h2;obtain⟨_,_,b,hb,hv⟩:=h2 rfl;obtain⟨_,cur,h3,_,_,_,h6⟩:=(hr.rows id o ho).some b hb;rw[hg]at h3 h6;refine⟨b,hv,(px.1 h3).1,λj c hc=>?_⟩;obtain⟨u,h7,h8⟩:=h6 i cs hi j c hc;exact⟨u,by simp only[World.cell?,h3];exact h7,h8⟩
theorem Xj {id g i off sz:Nat}{tt el:TypeId}{size:Nat}{xs:List (List AV)}{cs:List AV}{c:AV}(hti:Dc P tt=some (false,sz))(h:St.ev ⟨n,e,st⟩ x=.ptr id g i off)(tv:st[id]?=some ⟨g,el,size,xs⟩)(hi:xs[i]?=some cs)(hc:cs[off]?=some c):PX P ⟨n,e,st⟩ ⟨some t,.load tt x,ty,ps,ed,none⟩ c:=
 ⟨rfl,λF os a w hr=>by
  obtain⟨b,e2,hb,vq⟩:=Xx hr h tv hi;obtain⟨d,i',hud,xI,e1,e3⟩:=Js hti;obtain⟨u,hu1,xB⟩:=vq off c hc;refine⟨u,λw' hw'=>?_,xB⟩;have xW:=Lr (w:=w') hud;rw[<- e1]at xW;have vK:w'.cell? ⟨b,i*size+off,none⟩=some u:=by rw[<- hu1];exact rY (hw'.2 b hb)
  simp[execOp,e2,Instr.loadAt,Instr.sureAddr,loadVar,xW,vK]⟩
theorem Vw {id g i off sz:Nat}{tt el:TypeId}{size:Nat}{xs:List (List AV)}{cs:List AV}(hti:Dc P tt=some (true,sz))(h:St.ev ⟨n,e,st⟩ x=.ptr id g i off)(tv:st[id]?=some ⟨g,el,size,xs⟩)(hi:xs[i]?=some cs)(hl:off+sz<=cs.length):PX P ⟨n,e,st⟩ ⟨some t,.load tt x,ty,ps,ed,none⟩ (.agg ((cs.drop off).take sz)):=
 ⟨rfl,λF os a w hr=>by
  obtain⟨b,e2,hb,hx⟩:=Xx hr h tv hi;obtain⟨d,i',hud,xI,e1,e3⟩:=Js hti;have hch:∃f:Nat->Value,∀j,j<sz->w.cell? ((⟨b,i*size+off,none⟩:Addr).add j)=some (f j)/\∀c,cs[off+j]?=some c->Ab F w os c (f j):=
   ⟨λj=>(w.cell? ((⟨b,i*size+off,none⟩:Addr).add j)).getD undef,λj hj=>by
    have uU:off+j<cs.length:=by omega
    obtain⟨u,hu1,xB⟩:=hx (off+j) cs[off+j] (pF uU);have hu1':w.cell? ((⟨b,i*size+off,none⟩:Addr).add j)=some u:=by rw[Ce,<- hu1,qd]
    simp only[hu1',rK];refine⟨oz,λc hc=>?_⟩;rw[pF uU,pC]at hc;exact hc▸xB⟩
  obtain⟨f,hf⟩:=hch;refine⟨.agg ((List.range sz).map f).toArray,λw' hw'=>?_,?_⟩
  .have xW:=Lr (w:=w') hud;rw[<- e1]at xW;have ue:(sizeOf tt).run P w'=.ok i'.size w':=by simp[sizeOf,typeInfo,xI]
   have hlc:=run_loadCells (P:=P) w' ⟨b,i*size+off,none⟩ sz f (λj hj=>by
    rw[<- (hf j hj).1,Ce];exact rY (hw'.2 b hb))
   simp only at e3;simp[execOp,e2,Instr.loadAt,Instr.sureAddr,loadVar,xW,ue,<- e3,hlc]
  .simp only[Ab];refine⟨_,rfl,Db (by simp;omega) λj c u hc hu=>?_⟩;simp only[pn,qH]at hc;split at hc
   .rename_i hj;simp only[pB,rR hj,qF,pC]at hu;subst hu;exact (hf j hj).2 c hc
   .cases hc⟩
def hE (T:LN P)(s:St):Op->Option AV
 |.move x=>fo (s.ev x)
 |.assign x=>fo (s.ev x)
 |.fieldAddr t x f=>match s.ev x with
  |.C9 cs off=>(OR T.f t f).bind λj=>some (.C9 cs (off+j))
  |.ptr id g i off=>(OR T.f t f).bind λj=>Ze g s.st[id]? λr=>bif Nat.ble (off+j) r.size then some (.ptr id g i (off+j)) else none
  |_=>none
 |.load t x=>Xi T s t (s.ev x)
 |_=>none
def eC:Op->Bool
 |.load ..=>false
 |_=>true
theorem mG {T:LN P}{op:Op}(h:hE T ⟨n,e,st⟩ op=some v):(eC op=true/\Pd P ⟨n,e,st⟩ ⟨some t,op,ty,ps,ed,none⟩ v)∨(eC op=false/\PX P ⟨n,e,st⟩ ⟨some t,op,ty,ps,ed,none⟩ v):=by
 unfold hE at h;split at h
 .exact .inl ⟨rfl,Ia (Pa h)⟩
 .exact .inl ⟨rfl,RM (Pa h)⟩
 .split at h
  .rename_i hx;obtain⟨j,h1,h2⟩:=pz.1 h;cases h2;exact .inl ⟨rfl,NN (RO h1) hx rfl⟩
  .rename_i hx;obtain⟨j,h1,h2⟩:=pz.1 h;obtain⟨el,size,xs,hr,h2⟩:=NU h2;simp only at h2;cases hb:Nat.ble (_+j) size with
   |false=>rw[hb]at h2;cases h2
   |true=>rw[hb]at h2;cases h2;exact .inl ⟨rfl,Kv (RO h1) hx hr (qW hb) rfl⟩
  .cases h
 .refine .inr ⟨rfl,?_⟩;unfold Xi at h;split at h
  .rename_i hx;obtain⟨⟨b,sz⟩,h1,h2⟩:=pz.1 h;rcases MJ h2 with ⟨hb,h3⟩|⟨hb,h3,rfl⟩<;>simp only at hb<;>subst hb
   .exact (PZ (Ky h1) hx h3).G
   .exact (Vs (Ky h1) hx h3 rfl).G
  .rename_i hx;obtain⟨el,size,xs,hr,h⟩:=NU h;obtain⟨cs,hi,h⟩:=pz.1 h;obtain⟨⟨b,sz⟩,h1,h2⟩:=pz.1 h;rcases MJ h2 with ⟨hb,h3⟩|⟨hb,h3,rfl⟩<;>simp only at hb<;>subst hb
   .exact Xj (Ky h1) hx hr hi h3
   .exact Vw (Ky h1) hx hr hi h3
  .cases h
 .cases h
def Wp (P:Program):Op->Bool
 |.indexAddr ..=>true
 |.call ⟨.builtin .len,xs,ts⟩=>match xs.toList,ts.toList with
  | [_],[t]=>DG P t
  |_,_=>false
 |_=>false
theorem YC {op:Op}(h:Wp P op=true)(ρ:Operand->Value):Still P (execOp ρ ⟨some t,op,ty,ps,ed,none⟩):=by
 unfold Wp at h;split at h
 .exact Still.bind (.indexAt _ _ _) λ_=>.pure _
 .rename_i xs ts;split at h
  .rename_i x t' h1 h2;obtain rfl:xs=#[x]:=by rw[<- ry (xs:=xs),h1]
   obtain rfl:ts=#[t']:=by rw[<- ry (xs:=ts),h2]
   exact Still.bind (m:=Builtin.len_ #[t'] ty (#[x].map ρ)) (by simpa using Still.len h) λ_=>.pure _
  .cases h
 .cases h
end
def ck (ops:Array Oper)(tm:Array Bool)(i n:Nat)(d:Option Tmp):Bool:=
 Region.noSelect ops&&Region.free .any ops tm i&&(Region.ready .any ops tm).contains i&&Cy n d
def cO (ops:Array Oper)(tm:Array Bool)(i n:Nat)(d:Option Tmp)(op:Op):Bool:=
 bif eC op then ck ops tm i n d else NZ ops tm i n d
section
variable {P : Program} {k : Nat} {ops : Array Oper} {Q : Exit -> St -> Prop} {N f : Nat} {tm : Array Bool} {s : St} {o : Oper} {v : AV} {n : Nat} {e : Nat -> AV} {st : List Row} {t : Tmp} {op : Op} {ty : TypeId} {ps : String} {ed : Array Edge}
theorem OA {K:Prop}{i:Nat}{d:Option Tmp}(hc:ck ops tm i n d=true)(h:Region.noSelect ops=true->Region.free .any ops tm i=true->(Region.ready .any ops tm).contains i=true->Cy n d=true->K):K:=by
 unfold ck at hc;simp only[pZ]at hc;exact h hc.1.1.1 hc.1.1.2 hc.1.2 hc.2
theorem X9 (i:Nat)(hn:s.n=N)(ho:ops[i]?=some o)(hc:NZ ops tm i N o.dst=true)(hh:PX P s o v)(h:AX P k ops Q N f (tm.setIfInBounds i true) (s.put o.dst v)):AX P k ops Q N (f+1) tm s:=
 ⟨hn,λF0 os0 w0 F os a w hrel he=>by
  obtain⟨hg,hh⟩:=hh;obtain⟨u,hu,hv⟩:=hh F os a w hrel;have hd:Cy s.n o.dst=true:=by
   unfold NZ at hc;simp only[pZ]at hc;rw[hn];exact hc.1.1.2
  exact wpAny_of_held (S:=λ_=>True) _ _ _ _ (R9 ho hc (λc a w ⟨_,_,_,hp,_⟩=>nomatch hp.1) (.inl ⟨by unfold Region.wanted;rw[hg],hu⟩) oz (XG _ _ _ _ (h.2 F0 os0 w0 F os _ w (hrel.put hd hv) he)))⟩
theorem S0 (i:Nat)(hn:s.n=N)(ho:ops[i]?=some o)(hc:NZ ops tm i N o.dst=true)(hh:PX P s o v)(h:AY P k ops Q N f (tm.setIfInBounds i true) (s.put o.dst v)):AY P k ops Q N (f+1) tm s:=
 ⟨hn,λF0 os0 w0 F os a w hrel he=>by
  obtain⟨hg,hh⟩:=hh;obtain⟨u,hu,hv⟩:=hh F os a w hrel;have hd:Cy s.n o.dst=true:=by
   unfold NZ at hc;simp only[pZ]at hc;rw[hn];exact hc.1.1.2
  exact R9 ho hc (λc a w ⟨_,_,_,hp,_⟩=>nomatch hp.1) (.inl ⟨by unfold Region.wanted;rw[hg],hu⟩) he.Ix (h.2 F0 os0 w0 F os _ w (hrel.put hd hv) he)⟩
theorem AX.hq (T:LN P)(i:Nat)(ho:ops[i]?=some ⟨some t,op,ty,ps,ed,none⟩)(hc:cO ops tm i n (some t) op=true)(h:hE T ⟨n,e,st⟩ op=some v)(hk:AX P k ops Q n f (tm.setIfInBounds i true) ⟨n,DQ e t v,st⟩):AX P k ops Q n (f+1) tm ⟨n,e,st⟩:=by
 unfold cO at hc;rcases mG (t:=t) (ty:=ty) (ps:=ps) (ed:=ed) h with ⟨hp,hh⟩|⟨hp,hh⟩
 .rw[hp]at hc;exact OA hc λa b c d=>H5 i rfl ho a b c d hh hk
 .rw[hp]at hc;exact X9 i rfl ho hc hh hk
theorem H7 (T:LN P)(i:Nat)(ho:ops[i]?=some ⟨some t,op,ty,ps,ed,none⟩)(hc:cO ops tm i n (some t) op=true)(h:hE T ⟨n,e,st⟩ op=some v)(hk:AY P k ops Q n f (tm.setIfInBounds i true) ⟨n,DQ e t v,st⟩):AY P k ops Q n (f+1) tm ⟨n,e,st⟩:=by
 unfold cO at hc;rcases mG (t:=t) (ty:=ty) (ps:=ps) (ed:=ed) h with ⟨hp,hh⟩|⟨hp,hh⟩
 .rw[hp]at hc;exact OA hc λa b c d=>V4 i rfl ho a b c d hh hk
 .rw[hp]at hc;exact S0 i rfl ho hc hh hk
theorem Ik (i:Nat)(ho:ops[i]?=some ⟨some t,op,ty,ps,ed,none⟩)(hc:ck ops tm i n (some t)=true)(hs:Wp P op=true)(h:AQ P ⟨n,e,st⟩ op v)(hk:AX P k ops Q n f (tm.setIfInBounds i true) ⟨n,DQ e t v,st⟩):AX P k ops Q n (f+1) tm ⟨n,e,st⟩:=
 OA hc λa b c d=>H5 i rfl ho a b c d (TN h rfl λρ=>YC hs ρ) hk
theorem OX (i:Nat)(ho:ops[i]?=some ⟨some t,op,ty,ps,ed,none⟩)(hc:ck ops tm i n (some t)=true)(hs:Wp P op=true)(h:AQ P ⟨n,e,st⟩ op v)(hk:AY P k ops Q n f (tm.setIfInBounds i true) ⟨n,DQ e t v,st⟩):AY P k ops Q n (f+1) tm ⟨n,e,st⟩:=
 OA hc λa b c d=>V4 i rfl ho a b c d (TN h rfl λρ=>YC hs ρ) hk
end
end Go.Abs
namespace Go.Abs
open Go
section
variable {P : Program} {k : Nat} {ops : Array Oper} {Q : Exit -> St -> Prop} {n m len : Nat} {st st' R : List Row} {e : Nat -> AV} {ds : List (Option Tmp)} {d : Option Tmp} {t : Tmp} {T el ty : TypeId} {ps : String} {ed : Array Edge} {v v' : AV} {r : List Oper} {gd : Option (Nat × Bool)} {xs : List (List AV)} {g size sz bytes : Nat} {zz cs : List AV} {x y : Operand} {f : FuncId} {vI : Array Operand} {ts : Array TypeId} {uf : List AV} {ag : Bool} {parts : Array (Nat × Operand)} {α : Type}
theorem AS {β:Type}{a b:β}(h:some a=some b):b=a:=(Sh.BU h).symm
theorem Bn {l:List α}{enc:α->List AV}(h :∀x,(enc x).all simple=true:=by exact λ_=>rfl):ET (l.map enc):=Ai h
theorem EU (L:List (Nat×AV))(st':List Row)(id:Nat){l:List α}{enc:α->List AV}(tv:st[id]?=some ⟨g,el,size,l.map enc⟩)(h:ME (λt=>Abs.BZ id g (l.map enc) (e t)) L)(hp :∀x,(enc x).all simple=true)(hc:(Nat.ble k id,st.set id ⟨g+1,el,size,[]⟩)=(true,st'))(hk:AO P k ops Q ds r ⟨n,AP L,st'⟩):AO P k ops Q ds r ⟨n,e,st⟩:=
 As (Wk.BZ tv (qW (qX Prod.fst hc)) (Ai hp) h (qX Prod.snd hc)) hk
theorem CC (m:Nat)(l:List α)(enc:α->List AV)(he:DB P T=some ⟨el,size,bytes,zz⟩)(h:(Nat.ble (len*size) 16777216,(Md (λi=>some (i*size,size)) ((List.replicate len zz).flatten) (parts.toList.map λp=>(p.1,St.ev ⟨n,e,st⟩ p.2))).map (chunk size len),len,st.length)=(true,some (l.map enc),l.length,m))
  (hk:AO P k ops Q (ds++[some t]) r ⟨n,DQ e t (.own m 0 l.length),st++[⟨0,el,size,l.map enc⟩]⟩):AO P k ops Q ds (⟨some t,.buildSlice T len parts,ty,ps,ed,none⟩::r) ⟨n,e,st⟩:=by
 simp only[rA]at h;obtain⟨h1,h2,h3,h4⟩:=h;obtain⟨cs,hc,hck⟩:=pH.1 h2;exact So AN he (qW h1) rfl hc hck h3 h4 rfl hk
def nb (sz n:Nat)(e:Nat->AV)(st:List Row)(x y:Operand):Option (List Row):=
 match St.ev ⟨n,e,st⟩ x with
 |.ptr id g i off=>match st[id]? with
  |some ⟨g',el,size,xs⟩=>match xs[i]? with
   |some zz=>match J9 (St.ev ⟨n,e,st⟩ y) with
    |some cs=>match Nat.beq g' g,Nat.beq cs.length sz,Nat.ble (off+cs.length) size with
     |true,true,true=>some (st.set id ⟨g',el,size,xs.set i (HL zz off cs)⟩)
     |_,_,_=>none
    |none=>none
   |none=>none
  |none=>none
 |_=>none
theorem Bx (ht:Dc P T=some (ag,sz))(h:nb sz n e st x y=some st')(hk:AO P k ops Q (ds++[none]) r ⟨n,e,st'⟩):AO P k ops Q ds (⟨none,.store T x y,ty,ps,ed,none⟩::r) ⟨n,e,st⟩:=by
 unfold nb at h;split at h
 .rename_i id g i off hx;split at h
  .rename_i g' el size xs hr;split at h
   .rename_i zz hi;split at h
    .rename_i cs hc;split at h
     .rename_i h1 h2 h3;obtain rfl:=qa h1;exact Ja AN ht hx hr hi rfl hc (qa h2) (qW h3) (qf h) hk
     .cases h
    .cases h
   .cases h
  .cases h
 .cases h
def na (sz:Nat)(s:St)(x:Operand):Option (List AV):=
 match s.ev x with
 |.ptr id g i off=>match s.st[id]? with
  |some ⟨g',_,_,xs⟩=>match xs[i]? with
   |some cs=>match Nat.beq g' g,Nat.ble (off+sz) cs.length with
    |true,true=>some ((cs.drop off).take sz)
    |_,_=>none
   |none=>none
  |none=>none
 |_=>none
theorem FY (x:Operand)(vs:List AV){s:St}(ht:Dc P T=some (true,sz))(h:na sz s x=some vs):AQ P s (.load T x) (.agg vs):=by
 unfold na at h;split at h
 .rename_i id g i off hx;split at h
  .rename_i g' el size xs hr;split at h
   .rename_i cs hi;split at h
    .rename_i h1 h2;obtain rfl:=qa h1;exact Cp ht hx hr hi (qW h2) (qf h)
    .cases h
   .cases h
  .cases h
 .cases h
theorem Ee (m:Nat)(h:((J9 (St.ev ⟨n,e,st⟩ x)).bind λcs=>if cs.isEmpty then none else some cs,st.length)=(some cs,m))(hk:AO P k ops Q (ds++[some t]) r ⟨n,DQ e t (.ptr m 0 0 0),st++[⟨0,T,cs.length,[cs]⟩]⟩):AO P k ops Q ds (⟨some t,.box T x,ty,ps,ed,none⟩::r) ⟨n,e,st⟩:=by
 simp only[rA]at h;obtain⟨cs',h1,h2⟩:=pz.1 h.1;split at h2
 .cases h2
 .rename_i uq;obtain rfl:=qf h2;exact Wy AN rfl h1 (by simpa using uq) h.2 rfl hk
theorem DL (m:Nat)(hz:IK P T=some zz)(hm:st.length=m)(hk:AO P k ops Q (ds++[some t]) r ⟨n,DQ e t (.ptr m 0 0 0),st++[⟨0,T,zz.length,[zz]⟩]⟩):AO P k ops Q ds (⟨some t,.alloc T,ty,ps,ed,none⟩::r) ⟨n,e,st⟩:=KB AN hz hm rfl hk
def eJ:List Nat->Bool
 | []=>true
 |a::l=>!l.any (Nat.beq a)&&eJ l
theorem aY:∀{l:List Nat},eJ l=true->l.Nodup
 | [],_=>.nil
 |a::l,h=>by
  simp only[eJ,pZ,sQ,List.any_eq_false]at h;exact List.nodup_cons.2 ⟨λhm=>h.1 a hm (Nat.beq_refl a),aY h.2⟩
def lH (A B:List Row)(sel:List Nat)(st:List Row)(vs:List AV)(v:AV):=(eJ sel,sel.all (Nat.blt · st.length),CE st sel,vs.map (Jn sel),B.length,Q0 sel st.length v,FX sel B 0 st)
theorem oG (A B st':List Row)(v':AV)(sel:List Nat)(hg:GO ds gd e)(hb:Cq P f=true)(hc:BJ P f uf A λr st=>r=v/\st=B)(h:lH A B sel st (vI.toList.map (St.ev ⟨n,e,st⟩)++[]) v=(true,true,A,uf,sel.length,v',st'))
  (hs:SR sel A A) (h1:UN sel st.length B B) (hk:AO P k ops Q (ds++[d]) r (St.put ⟨n,e,st'⟩ d v')):AO P k ops Q ds (⟨d,.call ⟨.value (.func f),vI,ts⟩,ty,ps,ed,gd⟩::r) ⟨n,e,st⟩:=by
 simp only[lH,rA]at h;obtain⟨a1,a2,a3,a4,a5,a6,a7⟩:=h;exact QK sel hg hb hc rfl (aY a1) (pG.2 λi hi=>by have:=pG.1 a2 i hi;simp only[Nat.blt]at this;exact sT (qW this)) a3 hs a4 a5 h1 .nil a6 a7 hk
theorem Hl {e1 e2:TypeId}{g1 g2 z1 z2:Nat}{c1 c2:List AV}(st':List Row)(v':AV)(sel:List Nat)(hg:GO ds gd e)(hb:Cq P f=true)(hc:BJ P f uf [⟨g1,e1,z1,[c1]⟩] λr st=>r=v/\st=[⟨g2,e2,z2,[c2]⟩])(h:lH [⟨g1,e1,z1,[c1]⟩] [⟨g2,e2,z2,[c2]⟩] sel st (vI.toList.map (St.ev ⟨n,e,st⟩)++[]) v=(true,true,[⟨g1,e1,z1,[c1]⟩],uf,sel.length,v',st'))
  (h1:(c1.map (Jg sel),c1.all AV.leaf,c2.map (Lm sel st.length),c2.all AV.leaf)=(c1,true,c2,true)) (hk:AO P k ops Q (ds++[d]) r (St.put ⟨n,e,st'⟩ d v')):AO P k ops Q ds (⟨d,.call ⟨.value (.func f),vI,ts⟩,ty,ps,ed,gd⟩::r) ⟨n,e,st⟩:=by
 simp only[rA]at h1;exact oG _ _ st' v' sel hg hb hc h (.raw h1.1 h1.2.1 .nil) (.raw h1.2.2.1 h1.2.2.2 .nil) hk
theorem Ow {β:Type}{e1 e2 e3 e4:TypeId}{g1 g2 g3 g4 z1 z2 z3 z4:Nat}{c1 c2:List AV}{l1:List α}{l2:List β}{n1:α->List AV}{n2:β->List AV}(st':List Row)(v':AV)(sel:List Nat)(hg:GO ds gd e)(hb:Cq P f=true)(hc:BJ P f uf [⟨g1,e1,z1,[c1]⟩,⟨g3,e3,z3,l1.map n1⟩] λr st=>r=v/\st=[⟨g2,e2,z2,[c2]⟩,⟨g4,e4,z4,l2.map n2⟩])(h:lH [⟨g1,e1,z1,[c1]⟩,⟨g3,e3,z3,l1.map n1⟩] [⟨g2,e2,z2,[c2]⟩,⟨g4,e4,z4,l2.map n2⟩] sel st (vI.toList.map (St.ev ⟨n,e,st⟩)++[]) v=(true,true,[⟨g1,e1,z1,[c1]⟩,⟨g3,e3,z3,l1.map n1⟩],uf,sel.length,v',st'))
  (h1:(c1.map (Jg sel),c1.all AV.leaf,c2.map (Lm sel st.length),c2.all AV.leaf)=(c1,true,c2,true)) (p1 :∀x,(n1 x).all simple=true) (p2 :∀x,(n2 x).all simple=true) (hk:AO P k ops Q (ds++[d]) r (St.put ⟨n,e,st'⟩ d v')):AO P k ops Q ds (⟨d,.call ⟨.value (.func f),vI,ts⟩,ty,ps,ed,gd⟩::r) ⟨n,e,st⟩:=by
 simp only[rA]at h1;exact oG _ _ st' v' sel hg hb hc h (.raw h1.1 h1.2.1 (.pure (Ai p1) .nil)) (.raw h1.2.2.1 h1.2.2.2 (.pure (Ai p2) .nil)) hk
theorem G5 {args:List AV}(hb:Cq P f=true)(hc:BJ P f args [] λr st=>r=v/\st=[])(h:(vI.toList.map (St.ev ⟨n,e,st⟩)++[],args.all flat,fo (shift st.length v))=(args,true,some v'))(hk:AO P k ops Q (ds++[d]) r (St.put ⟨n,e,st⟩ d v')):AO P k ops Q ds (⟨d,.call ⟨.value (.func f),vI,ts⟩,ty,ps,ed,none⟩::r) ⟨n,e,st⟩:=by
 simp only[rA]at h;exact zc hb hc h.1 h.2.1 h.2.2 hk
theorem D0 {args:List AV}(v':AV)(hb:Cq P f=true)(hc:BJ P f args [] λr st=>r=v/\st=[])(h:(vI.toList.map (St.ev ⟨n,e,st⟩)++[],args.all flat,fo (shift st.length v))=(args,true,some v'))(hk:AO P k ops Q (ds++[d]) r (St.put ⟨n,e,st⟩ d v')):AO P k ops Q ds (⟨d,.call ⟨.value (.func f),vI,ts⟩,ty,ps,ed,none⟩::r) ⟨n,e,st⟩:=G5 hb hc h hk
theorem Aq {L:List (Nat×AV)}(h:Tw e L=TF L:=by exact rfl):Wk k ⟨n,e,st⟩ ⟨n,AP L,st⟩:=Bz h
section
variable {x0 y0 : Row} {z0 : List Row} {K : MS -> Prop}
theorem ni (A B:List Row)(v':AV)(y0:Row)(sel:List Nat)(hg:GO ds gd e)(hb:Cq P f=true)(hc:BJ P f uf A λr st=>r=v/\st=B)(h:(eJ sel,sel.all (Nat.blt · (R.length+1)),CE (x0::R) sel,(vI.toList.map (St.ev ⟨n,e,[]⟩)++[]).map (Jn sel),B.length,FX sel B 0 (x0::R))=(true,true,A,uf,sel.length,y0::R))(hv :∀N,Q0 sel N v=v')
  (hs:SR sel A A) (h1 :∀N,UN sel N B B) (hk:JC P k R (ds++[some t]) r K ⟨n,DQ e t v',y0,z0⟩):JC P k R ds (⟨some t,.call ⟨.value (.func f),vI,ts⟩,ty,ps,ed,gd⟩::r) K ⟨n,e,x0,z0⟩:=by
 simp only[rA]at h;obtain⟨a1,a2,a3,a4,a5,a7⟩:=h;exact nr sel hg hb hc rfl (aY a1) (pG.2 λi hi=>by have:=pG.1 a2 i hi;simp only[Nat.blt]at this;exact sT (qW this)) a3 hs a4 a5 h1 hv a7 hk
theorem UE {e1 e2:TypeId}{g1 g2 z1 z2:Nat}{c1 c2:List AV}(v':AV)(y0:Row)(sel:List Nat)(hg:GO ds gd e)(hb:Cq P f=true)(hc:BJ P f uf [⟨g1,e1,z1,[c1]⟩] λr st=>r=v/\st=[⟨g2,e2,z2,[c2]⟩])(h:(eJ sel,sel.all (Nat.blt · (R.length+1)),CE (x0::R) sel,(vI.toList.map (St.ev ⟨n,e,[]⟩)++[]).map (Jn sel),1,FX sel [⟨g2,e2,z2,[c2]⟩] 0 (x0::R))=(true,true,[⟨g1,e1,z1,[c1]⟩],uf,sel.length,y0::R))(hv :∀N,(Q0 sel N v,c1.map (Jg sel),c1.all AV.leaf,c2.map (Lm sel N),c2.all AV.leaf)=(v',c1,true,c2,true))
  (hk:JC P k R (ds++[some t]) r K ⟨n,DQ e t v',y0,z0⟩):JC P k R ds (⟨some t,.call ⟨.value (.func f),vI,ts⟩,ty,ps,ed,gd⟩::r) K ⟨n,e,x0,z0⟩:=by
 simp only[rA]at hv;exact ni _ _ v' y0 sel hg hb hc h (λN=>(hv N).1) (.raw (hv 0).2.1 (hv 0).2.2.1 .nil) (λN=>.raw (hv N).2.2.2.1 (hv N).2.2.2.2 .nil) hk
theorem PI {β:Type}{e1 e2 e3 e4:TypeId}{g1 g2 g3 g4 z1 z2 z3 z4:Nat}{c1 c2:List AV}{l1:List α}{l2:List β}{n1:α->List AV}{n2:β->List AV}(v':AV)(y0:Row)(sel:List Nat)(hg:GO ds gd e)(hb:Cq P f=true)(hc:BJ P f uf [⟨g1,e1,z1,[c1]⟩,⟨g3,e3,z3,l1.map n1⟩] λr st=>r=v/\st=[⟨g2,e2,z2,[c2]⟩,⟨g4,e4,z4,l2.map n2⟩])
  (h:(eJ sel,sel.all (Nat.blt · (R.length+1)),CE (x0::R) sel,(vI.toList.map (St.ev ⟨n,e,[]⟩)++[]).map (Jn sel),2,FX sel [⟨g2,e2,z2,[c2]⟩,⟨g4,e4,z4,l2.map n2⟩] 0 (x0::R))=(true,true,[⟨g1,e1,z1,[c1]⟩,⟨g3,e3,z3,l1.map n1⟩],uf,sel.length,y0::R)) (hv :∀N,(Q0 sel N v,c1.map (Jg sel),c1.all AV.leaf,c2.map (Lm sel N),c2.all AV.leaf)=(v',c1,true,c2,true))
  (p1 :∀x,(n1 x).all simple=true) (p2 :∀x,(n2 x).all simple=true) (hk:JC P k R (ds++[some t]) r K ⟨n,DQ e t v',y0,z0⟩):JC P k R ds (⟨some t,.call ⟨.value (.func f),vI,ts⟩,ty,ps,ed,gd⟩::r) K ⟨n,e,x0,z0⟩:=by
 simp only[rA]at hv;exact ni _ _ v' y0 sel hg hb hc h (λN=>(hv N).1) (.raw (hv 0).2.1 (hv 0).2.2.1 (.pure (Ai p1) .nil)) (λN=>.raw (hv N).2.2.2.1 (hv N).2.2.2.2 (.pure (Ai p2) .nil)) hk
end
section
variable {N f : Nat} {tm : Array Bool} {op : Op}
theorem Fb (T:LN P)(i:Nat)(ho:ops[i]?=some ⟨some t,op,ty,ps,ed,none⟩)(h:hE T ⟨n,e,st⟩ op=some v)(hk:AX P k ops Q n f (tm.setIfInBounds i true) ⟨n,DQ e t v,st⟩)(hc:cO ops tm i n (some t) op=true:=by kernel_rfl):AX P k ops Q n (f+1) tm ⟨n,e,st⟩:=AX.hq T i ho hc h hk
theorem L0 {id:Nat}{x:Row}(R:List Row)(m:Nat)(h:JC P k R [] (ops.toList.take m) (λs'=>AO P k ops Q ((ops.toList.take m).map (·.dst)) (ops.toList.drop m) (s'.st R)) ⟨n,e,x,[]⟩)(hm:P.follows .mixedOrders=true:=by kernel_rfl)(hB:Region.lexTailB .any ops m=true:=by kernel_rfl)(hw:Qn .any ops m=true:=by kernel_rfl)(hd:(ops.toList.all λo=>Cy n o.dst)=true:=by rfl):AW P k (.region id ops true) Q ⟨n,e,x::R⟩:=AW.eE R m hm hB hw hd h
end
end
end Go.Abs
namespace Go.Abs
open Go
theorem V5 {P:Program}{n:Nat}{e:Nat->AV}{st:List Row}{t:Tmp}{ty:TypeId}{ps:String}{ed:Array Edge}{x:Operand}{id g i off sz:Nat}{tt el:TypeId}{size:Nat}{xs:List (List AV)}{cs vs:List AV}(hti:Dc P tt=some (true,sz))(h:St.ev ⟨n,e,st⟩ x=.ptr id g i off)(tv:st[id]?=some ⟨g,el,size,xs⟩)(hi:xs[i]?=some cs)(hl:off+sz<=cs.length)(hv:(cs.drop off).take sz=vs):PX P ⟨n,e,st⟩ ⟨some t,.load tt x,ty,ps,ed,none⟩ (.agg vs):=
 hv▸Vw hti h tv hi hl
end Go.Abs
