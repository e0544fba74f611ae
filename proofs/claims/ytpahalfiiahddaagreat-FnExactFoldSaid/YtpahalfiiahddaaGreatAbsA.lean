import Derived.WalkKit
import Derived.Below
import Derived.OwnWalk
import Derived.Orders
import Derived.StillTail

namespace Go.Abs
open Go
theorem U {α:Sort _} {a:α}:a=a:=rfl
inductive AV where
 | EZ
 | un
 | int (k:IntKind) (n:Int)
 | bool (b:Bool)
 | str (s:ByteArray)
 | zc
 | OO
 | ON
 | sl (xs:List (List AV))
 | own (id gen len:Nat)
 | ptr (id gen i off:Nat)
 | Bu (x:List AV) (off:Nat)
 | fn (f:FuncId) (caps:List AV)
 | agg (cs:List AV)
 | DT (vs:List AV)
 | dv (el size:Nat) (xs:List (List AV))
 deriving Inhabited
abbrev i64 (n:Int):AV:=.int .i64 n
def AV.leaf:AV→Bool
 | .EZ | .un | .agg _ | .DT _ | .dv ..=>false
 | _=>true
def AV.kept:AV→Bool
 | .dv ..=>true
 | c=>c.leaf
theorem C5 {c:AV} (h:c.leaf=true):c.kept=true:=by cases c <;> simp_all [AV.kept,AV.leaf]
structure Row where
 gen:Nat
 elem:TypeId
 size:Nat
 xs:List (List AV)
structure Own where
 row:Row
 ES:Option Nat
 cap:Nat
 more:Nat→Prop
def Own.owns (o:Own) (b:Nat):Prop:=o.ES=some b∨o.more b
def DU:Nat→Prop:=fun _=>False
mutual
def Al (F:Nat→Prop) (w:World):List Own→AV→Value→Prop
 | _,.EZ,_=>True
 | _,.un,v=>v=undef
 | _,.int k n,v=>v=.int k n
 | _,.bool b,v=>v=.bool b
 | _,.str s,v=>v=.string s
 | _,.zc,v=>∃a,v=.slice a 0 0
 | _,.OO,v=>v=.pointer none
 | _,.ON,v=>v=.nilFunc
 | _,.sl xs,v=>∃a cap,v=.slice a xs.length cap∧xs.length≤cap∧(xs≠[]→∃b o size,a=some ⟨b,o,none⟩∧F b∧(∀x∈xs,x.length=size)∧Fo F w xs b o)
 | os,.own id g n,v=>∃o,os[id]?=some o∧g≤o.row.gen∧(∃a l c,v=.slice a l c)∧(o.row.gen=g→n≤o.row.xs.length∧((o.ES=none∧∃a,v=.slice a n 0)∨∃b,o.ES=some b∧v=.slice (some ⟨b,(o.row.xs.length - n) * o.row.size,none⟩) n (o.cap - (o.row.xs.length - n))))
 | os,.ptr id g i off,v=>∃o,os[id]?=some o∧g≤o.row.gen∧(∃a,v=.pointer a)∧(o.row.gen=g→i < o.row.xs.length∧off≤o.row.size∧∃b,o.ES=some b∧v=.pointer (some ⟨b,i * o.row.size+off,none⟩))
 | _,.Bu x off,v=>∃b o,v=.pointer (some ⟨b,o+off,none⟩)∧F b∧Dv F w x b o
 | os,.fn f caps,v=>∃us:List Value,v=.func (.func f) #[] us.toArray∧BQ F w os caps us
 | os,.agg cs,v=>∃us:List Value,v=.agg us.toArray∧BQ F w os cs us
 | os,.DT vs,v=>∃us:List Value,v=.tuple us.toArray∧BQ F w os vs us
 | _,.dv _ _ _,v=>∃a l c,v=.slice a l c
def BQ (F:Nat→Prop) (w:World):List Own→List AV→List Value→Prop
 | _,[],us=>us=[]
 | os,x :: r,us=>∃u us',us=u :: us'∧Al F w os x u∧BQ F w os r us'
def Dv (F:Nat→Prop) (w:World):List AV→Nat→Nat→Prop
 | [],_,_=>True
 | x :: r,b,o=>(∃u,w.cell? ⟨b,o,none⟩=some u∧x.leaf=true∧Al F w [] x u)∧Dv F w r b (o+1)
def Fo (F:Nat→Prop) (w:World):List (List AV)→Nat→Nat→Prop
 | [],_,_=>True
 | x :: r,b,o=>Dv F w x b o∧Fo F w r b (o+x.length)
end
mutual
def C2 (S:Nat→Prop) (w:World):AV→Value→Prop
 | .dv el size xs,v=>0 < size∧((xs=[]∧∃a,v=.slice a 0 0)∨∃b cap cur,v=.slice (some ⟨b,0,none⟩) xs.length cap∧xs.length≤cap∧cap≤maxLen∧S b∧
   w.heap[b]?=some (.cells cur el (0,0))∧cur.size=cap * size∧(∀x∈xs,x.length=size)∧JO (fun c=>S c∧c≠b) w xs cur 0)
 | .int k n,v=>v=.int k n
 | .bool b,v=>v=.bool b
 | .str s,v=>v=.string s
 | .zc,v=>∃a,v=.slice a 0 0
 | .OO,v=>v=.pointer none
 | .ON,v=>v=.nilFunc
 | _,_=>False
def JO (S:Nat→Prop) (w:World):List (List AV)→Array Value→Nat→Prop
 | [],_,_=>True
 | x :: r,cur,o=>∃S1 S2:Nat→Prop,(∀b,S1 b→S b)∧(∀b,S2 b→S b)∧(∀b,S1 b→¬ S2 b)∧JQ S1 w x cur o∧JO S2 w r cur (o+x.length)
def JQ (S:Nat→Prop) (w:World):List AV→Array Value→Nat→Prop
 | [],_,_=>True
 | x :: r,cur,o=>∃S1 S2:Nat→Prop,(∀b,S1 b→S b)∧(∀b,S2 b→S b)∧(∀b,S1 b→¬ S2 b)∧(∃u,cur[o]?=some u∧C2 S1 w x u)∧JQ S2 w r cur (o+1)
end
def Iw (w:World) (o:Own):Prop:=
 ∃D:Nat→Nat→Nat→Prop,(∀i j b,D i j b→o.more b)∧(∀i j i' j' b,D i j b→D i' j' b→i=i'∧j=j')∧
  ∀b,o.ES=some b→∀cur el l,w.heap[b]?=some (.cells cur el l)→∀(i:Nat) x (j:Nat) e s ys,o.row.xs[i]?=some x→x[j]?=some (.dv e s ys)→
   ∃u,cur[i * o.row.size+j]?=some u∧C2 (D i j) w (.dv e s ys) u
structure KU (F:Nat→Prop) (w:World) (os:List Own) (o:Own):Prop where
 pos:0 < o.row.size
 lens :∀x∈o.row.xs,x.length=o.row.size∧∀c∈x,c.kept=true
 none:o.ES=none→o.row.xs=[]∧o.cap=0
 some :∀b,o.ES=some b→¬ F b∧∃cur:Array Value,w.heap[b]?=some (.cells cur o.row.elem (0,0))∧cur.size=o.cap * o.row.size∧o.row.xs.length≤o.cap∧o.cap≤maxLen∧
  ∀i x,o.row.xs[i]?=some x→∀j c,x[j]?=some c→∃u,cur[i * o.row.size+j]?=some u∧Al F w os c u
 mo :∀b,o.more b→¬ F b∧b < w.heap.size∧o.ES≠Option.some b
 deep:Iw w o
theorem KA {o:Own} {n:Nat} {b:Nat} (h:n=o.row.xs.length):Value.slice (some ⟨b,(o.row.xs.length - n) * o.row.size,none⟩) n (o.cap - (o.row.xs.length - n))=.slice (some ⟨b,0,none⟩) n o.cap:=by
 subst h;simp
structure St where
 n:Nat
 env:Nat→AV
 st:List Row
def D7 (e:Nat→AV) (d:Nat) (v:AV):Nat→AV:=fun k=>if k=d then v else e k
structure Rel (F:Nat→Prop) (os:List Own) (s:St) (a:Act) (w:World):Prop where
 st:os.map Own.row=s.st
 env :∀k,Al F w os (s.env k) (a.tmps.getD k undef)
 size:a.tmps.size=s.n
 rows :∀(i:Nat) (o:Own),os[i]?=some o→KU F w os o
 inj :∀(i j:Nat) (oi oj:Own) (b:Nat),os[i]?=some oi→os[j]?=some oj→oi.owns b→oj.owns b→i=j
 D3 :∀b,F b→b < w.heap.size
 defers:a.defers=[]
structure Ext (F:Nat→Prop) (os:List Own) (w:World) (F':Nat→Prop) (os':List Own) (w':World) (k:Nat):Prop where
 sys:w'.os=w.os
 tape:w'.tape=w.tape
 output:w'.output=w.output
 size:w.heap.size≤w'.heap.size
 Kn :∀b,F b→F' b
 Gx :∀b,F b→w'.heap[b]?=w.heap[b]?
 other :∀b,b < w.heap.size→¬ F b→(∀o:Own,o∈os→¬ o.owns b)→w'.heap[b]?=w.heap[b]?∧¬ F' b∧∀o:Own,o∈os'→¬ o.owns b
 RD :∀(i:Nat) (o:Own),i < k→os[i]?=some o→∃o':Own,os'[i]?=some o'∧o.row.gen≤o'.row.gen∧o'.row.size=o.row.size∧(o'.row.gen=o.row.gen→o'.ES=o.ES∧o'.cap=o.cap∧o'.row.xs.length=o.row.xs.length)
theorem CW (F:Nat→Prop) (os:List Own) (w:World) (k:Nat):Ext F os w F os w k:=
 ⟨rfl,rfl,rfl,Nat.le_refl _,fun _ h=>h,fun _ _=>rfl,fun _ _ h1 h2=>⟨rfl,h1,h2⟩,fun _ o _ h=>⟨o,h,Nat.le_refl _,rfl,fun _=>⟨rfl,rfl,rfl⟩⟩⟩
theorem Ext.trans {F F' F'':Nat→Prop} {os os' os'':List Own} {w w' w'':World} {k:Nat} (h:Ext F os w F' os' w' k) (g:Ext F' os' w' F'' os'' w'' k):Ext F os w F'' os'' w'' k:=by
 refine⟨g.sys.trans h.sys,g.tape.trans h.tape,g.output.trans h.output,Nat.le_trans h.size g.size,fun b hb=>g.Kn b (h.Kn b hb),
  fun b hb=>(g.Gx b (h.Kn b hb)).trans (h.Gx b hb),fun b hb h1 h2=>?_,fun i o hi ho=>?_⟩
 ·obtain⟨e1,n1,m1⟩:=h.other b hb h1 h2
  obtain⟨e2,n2,m2⟩:=g.other b (Nat.lt_of_lt_of_le hb h.size) n1 m1
  exact⟨e2.trans e1,n2,m2⟩
 ·obtain⟨o',ho',l1,s1,p1⟩:=h.RD i o hi ho
  obtain⟨o'',ho'',l2,s2,p2⟩:=g.RD i o' hi ho'
  refine⟨o'',ho'',Nat.le_trans l1 l2,s2.trans s1,fun e=>?_⟩
  have e1:o'.row.gen=o.row.gen:=by omega
  have e2:o''.row.gen=o'.row.gen:=by omega
  obtain⟨a1,a2,a3⟩:=p1 e1
  obtain⟨b1,b2,b3⟩:=p2 e2
  exact⟨b1.trans a1,b2.trans a2,b3.trans a3⟩
mutual
theorem B9 {F F':Nat→Prop} {w w':World} (hF :∀b,F b→F' b) (hw :∀b,F b→w'.heap[b]?=w.heap[b]?) :
  ∀(os os':List Own) (_ :∀(i:Nat) (o:Own),os[i]?=some o→∃o':Own,os'[i]?=some o'∧o.row.gen≤o'.row.gen∧o'.row.size=o.row.size∧(o'.row.gen=o.row.gen→o'.ES=o.ES∧o'.cap=o.cap∧o'.row.xs.length=o.row.xs.length)) (x:AV) (v:Value),Al F w os x v→Al F' w' os' x v
 | _,_,_,.EZ,_,_=>by simp[Al]
 | _,_,_,.un,_,h=>by simpa [Al] using h
 | _,_,_,.int _ _,_,h=>by simpa [Al] using h
 | _,_,_,.bool _,_,h=>by simpa [Al] using h
 | _,_,_,.str _,_,h=>by simpa [Al] using h
 | _,_,_,.zc,_,h=>by simpa [Al] using h
 | _,_,_,.OO,_,h=>by simpa [Al] using h
 | _,_,_,.ON,_,h=>by simpa [Al] using h
 | _,_,_,.dv ..,_,h=>by simpa [Al] using h
 | _,_,_,.sl xs,v,h=>by
  simp only[Al] at h ⊢
  obtain⟨a,cap,hv,hcap,h2⟩:=h
  refine⟨a,cap,hv,hcap,fun hne=>?_⟩
  obtain⟨b,o,size,ha,hb,hs,hr⟩:=h2 hne
  exact⟨b,o,size,ha,hF b hb,hs,OK hF hw xs b o hb hr⟩
 | os,os',hos,.own id g n,v,h=>by
  simp only[Al] at h ⊢
  obtain⟨o,ho,hle,hsh,h1⟩:=h
  obtain⟨o',ho',hl',hs',hp'⟩:=hos id o ho
  refine⟨o',ho',by omega,hsh,fun e=>?_⟩
  obtain⟨e1,e2,e3⟩:=hp' (by omega)
  obtain⟨h2,h3⟩:=h1 (by omega)
  refine⟨by omega,?_⟩
  rw[e1,e2,e3,hs'];exact h3
 | os,os',hos,.ptr id g i off,v,h=>by
  simp only[Al] at h ⊢
  obtain⟨o,ho,hle,hsh,h1⟩:=h
  obtain⟨o',ho',hl',hs',hp'⟩:=hos id o ho
  refine⟨o',ho',by omega,hsh,fun e=>?_⟩
  obtain⟨e1,e2,e3⟩:=hp' (by omega)
  obtain⟨h2,h3,h4⟩:=h1 (by omega)
  refine⟨by omega,by omega,?_⟩
  rw[e1,hs'];exact h4
 | _,_,_,.Bu x off,v,h=>by
  simp only[Al] at h ⊢
  obtain⟨b,o,hv,hb,hr⟩:=h
  exact⟨b,o,hv,hF b hb,Ka hF hw x b o hb hr⟩
 | os,os',hos,.fn f caps,v,h=>by
  simp only[Al] at h ⊢
  obtain⟨us,hv,hr⟩:=h
  exact⟨us,hv,Lx hF hw os os' hos caps us hr⟩
 | os,os',hos,.agg cs,v,h=>by
  simp only[Al] at h ⊢
  obtain⟨us,hv,hr⟩:=h
  exact⟨us,hv,Lx hF hw os os' hos cs us hr⟩
 | os,os',hos,.DT cs,v,h=>by
  simp only[Al] at h ⊢
  obtain⟨us,hv,hr⟩:=h
  exact⟨us,hv,Lx hF hw os os' hos cs us hr⟩
theorem Lx {F F':Nat→Prop} {w w':World} (hF :∀b,F b→F' b) (hw :∀b,F b→w'.heap[b]?=w.heap[b]?) :
  ∀(os os':List Own) (_ :∀(i:Nat) (o:Own),os[i]?=some o→∃o':Own,os'[i]?=some o'∧o.row.gen≤o'.row.gen∧o'.row.size=o.row.size∧(o'.row.gen=o.row.gen→o'.ES=o.ES∧o'.cap=o.cap∧o'.row.xs.length=o.row.xs.length)) (xs:List AV) (us:List Value),BQ F w os xs us→BQ F' w' os' xs us
 | _,_,_,[],_,h=>by simpa [BQ] using h
 | os,os',hos,x :: r,us,h=>by
  simp only[BQ] at h ⊢
  obtain⟨u,us',hu,h1,h2⟩:=h
  exact⟨u,us',hu,B9 hF hw os os' hos x u h1,Lx hF hw os os' hos r us' h2⟩
theorem Ka {F F':Nat→Prop} {w w':World} (hF :∀b,F b→F' b) (hw :∀b,F b→w'.heap[b]?=w.heap[b]?) :
  ∀(xs:List AV) (b o:Nat),F b→Dv F w xs b o→Dv F' w' xs b o
 | [],_,_,_,_=>by simp[Dv]
 | x :: r,b,o,hb,h=>by
  simp only[Dv] at h ⊢
  obtain⟨⟨u,hu,hl,h1⟩,h2⟩:=h
  refine⟨⟨u,?_,hl,B9 hF hw [] [] (by simp) x u h1⟩,Ka hF hw r b (o+1) hb h2⟩
  rw[← hu];exact World.cell?_of_block (hw b hb)
theorem OK {F F':Nat→Prop} {w w':World} (hF :∀b,F b→F' b) (hw :∀b,F b→w'.heap[b]?=w.heap[b]?) :
  ∀(xs:List (List AV)) (b o:Nat),F b→Fo F w xs b o→Fo F' w' xs b o
 | [],_,_,_,_=>by simp[Fo]
 | x :: r,b,o,hb,h=>by
  simp only[Fo] at h ⊢
  exact⟨Ka hF hw x b o hb h.1,OK hF hw r b (o+x.length) hb h.2⟩
end
mutual
theorem JK {S S':Nat→Prop} {w w':World} (hS :∀b,S b→S' b) (hw :∀b,S b→w'.heap[b]?=w.heap[b]?) :∀(x:AV) (v:Value),C2 S w x v→C2 S' w' x v
 | .dv el size xs,v,h=>by
  simp only[C2] at h ⊢
  obtain⟨hp,h⟩:=h
  refine⟨hp,?_⟩
  rcases h with h | ⟨b,cap,cur,h1,h2,h3,h4,h5,h6,h7,h8⟩
  ·exact .inl h
  ·refine .inr ⟨b,cap,cur,h1,h2,h3,hS b h4,by rw[hw b h4];exact h5,h6,h7,Mu (S:=fun c=>S c∧c≠b) (fun c hc=>⟨hS c hc.1,hc.2⟩) (fun c hc=>hw c hc.1) xs cur 0 h8⟩
 | .int _ _,_,h=>by simpa [C2] using h
 | .bool _,_,h=>by simpa [C2] using h
 | .str _,_,h=>by simpa [C2] using h
 | .zc,_,h=>by simpa [C2] using h
 | .OO,_,h=>by simpa [C2] using h
 | .ON,_,h=>by simpa [C2] using h
 | .EZ,_,h=>by simp[C2] at h
 | .un,_,h=>by simp[C2] at h
 | .sl _,_,h=>by simp[C2] at h
 | .own ..,_,h=>by simp[C2] at h
 | .ptr ..,_,h=>by simp[C2] at h
 | .Bu ..,_,h=>by simp[C2] at h
 | .fn ..,_,h=>by simp[C2] at h
 | .agg _,_,h=>by simp[C2] at h
 | .DT _,_,h=>by simp[C2] at h
theorem Mu {S S':Nat→Prop} {w w':World} (hS :∀b,S b→S' b) (hw :∀b,S b→w'.heap[b]?=w.heap[b]?) :∀(xs:List (List AV)) (cur:Array Value) (o:Nat),JO S w xs cur o→JO S' w' xs cur o
 | [],_,_,_=>by simp[JO]
 | x :: r,cur,o,h=>by
  simp only[JO] at h ⊢
  obtain⟨S1,S2,h1,h2,h3,h4,h5⟩:=h
  exact⟨S1,S2,fun b hb=>hS b (h1 b hb),fun b hb=>hS b (h2 b hb),h3,RJ (fun _ h=>h) (fun b hb=>hw b (h1 b hb)) x cur o h4,Mu (fun _ h=>h) (fun b hb=>hw b (h2 b hb)) r cur _ h5⟩
theorem RJ {S S':Nat→Prop} {w w':World} (hS :∀b,S b→S' b) (hw :∀b,S b→w'.heap[b]?=w.heap[b]?) :∀(xs:List AV) (cur:Array Value) (o:Nat),JQ S w xs cur o→JQ S' w' xs cur o
 | [],_,_,_=>by simp[JQ]
 | x :: r,cur,o,h=>by
  simp only[JQ] at h ⊢
  obtain⟨S1,S2,h1,h2,h3,⟨u,h4,h5⟩,h6⟩:=h
  exact⟨S1,S2,fun b hb=>hS b (h1 b hb),fun b hb=>hS b (h2 b hb),h3,⟨u,h4,JK (fun _ h=>h) (fun b hb=>hw b (h1 b hb)) x u h5⟩,RJ (fun _ h=>h) (fun b hb=>hw b (h2 b hb)) r cur _ h6⟩
end
theorem DO {w:World} {o:Own} (h :∀x∈o.row.xs,∀c∈x,c.leaf=true):Iw w o:=
 ⟨fun _ _ _=>False,fun _ _ _ h=>h.elim,fun _ _ _ _ _ h=>h.elim,fun _ _ _ _ _ _ i x j e s ys hx hc=>by
  have:=h x (List.mem_of_getElem? hx) _ (List.mem_of_getElem? hc)
  simp[AV.leaf] at this⟩
theorem Iw.keep {w w':World} {o o':Own} (h:Iw w o) (hb:o'.ES=o.ES) (hm :∀b,o.more b→o'.more b) (hs:o'.row.size=o.row.size)
  (hw :∀b,o.owns b→w'.heap[b]?=w.heap[b]?)
  (hr :∀(i:Nat) x (j:Nat) e s ys,o'.row.xs[i]?=some x→x[j]?=some (.dv e s ys)→∃x0,o.row.xs[i]?=some x0∧x0[j]?=some (.dv e s ys)):Iw w' o':=by
 obtain⟨D,h1,h2,h3⟩:=h
 refine⟨D,fun i j b hb=>hm b (h1 i j b hb),h2,fun b hob cur el l hcur i x j e s ys hx hc=>?_⟩
 rw[hb] at hob
 rw[hw b (.inl hob)] at hcur
 obtain⟨x0,hx0,hc0⟩:=hr i x j e s ys hx hc
 obtain⟨u,e1,e2⟩:=h3 b hob cur el l hcur i x0 j e s ys hx0 hc0
 exact⟨u,by rw[hs];exact e1,JK (fun _ h=>h) (fun c hc=>hw c (.inr (h1 i j c hc))) _ u e2⟩
theorem Iw.mapped {w:World} {o o':Own} (f:AV→AV) (hf :∀c e s ys,f c=.dv e s ys→c=.dv e s ys) (h:Iw w o) (hb:o'.ES=o.ES) (hm:o'.more=o.more) (hs:o'.row.size=o.row.size)
  (hx:o'.row.xs=o.row.xs.map (·.map f)):Iw w o':=by
 refine h.keep hb (fun b hb=>by rw[hm];exact hb) hs (fun _ _=>rfl) fun i x j e s ys hx' hc=>?_
 rw[hx,List.getElem?_map,Option.map_eq_some_iff] at hx'
 obtain⟨y,hy,rfl⟩:=hx'
 rw[List.getElem?_map,Option.map_eq_some_iff] at hc
 obtain⟨d,hd,hc⟩:=hc
 exact⟨y,hy,by rw[hd,hf _ _ _ _ hc]⟩
theorem KU.lt {F:Nat→Prop} {w:World} {os:List Own} {o:Own} (h:KU F w os o) {b:Nat} (hb:o.owns b):b < w.heap.size:=by
 rcases hb with hb | hb
 ·obtain⟨_,cur,hcur,_⟩:=h.some b hb
  exact (Array.getElem?_eq_some_iff.1 hcur).1
 ·exact (h.mo b hb).2.1
theorem KU.nF {F:Nat→Prop} {w:World} {os:List Own} {o:Own} (h:KU F w os o) {b:Nat} (hb:o.owns b):¬ F b:=by
 rcases hb with hb | hb
 ·exact (h.some b hb).1
 ·exact (h.mo b hb).1
end Go.Abs

