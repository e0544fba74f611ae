import Derived.WalkKit
import Derived.Below
import Derived.OwnWalk
import Derived.Orders
import Derived.StillTail

namespace Go.Abs
open Go
theorem U {α:Sort _} {a:α}:a=a:=rfl
inductive AV where
 | Eu
 | un
 | int (k:IntKind) (n:Int)
 | bool (b:Bool)
 | str (s:ByteArray)
 | zc
 | PG
 | O1
 | sl (xs:List (List AV))
 | own (id gen len:Nat)
 | ptr (id gen i off:Nat)
 | Bd (x:List AV) (off:Nat)
 | fn (f:FuncId) (caps:List AV)
 | agg (cs:List AV)
 | DE (vs:List AV)
 | dv (el size:Nat) (xs:List (List AV))
 deriving Inhabited
abbrev i64 (n:Int):AV:=.int .i64 n
def AV.leaf:AV→Bool
 | .Eu | .un | .agg _ | .DE _ | .dv ..=>false
 | _=>true
def AV.kept:AV→Bool
 | .dv ..=>true
 | c=>c.leaf
theorem Cp {c:AV} (h:c.leaf=true):c.kept=true:=by cases c <;> simp_all [AV.kept,AV.leaf]
structure Row where
 gen:Nat
 elem:TypeId
 size:Nat
 xs:List (List AV)
structure Own where
 row:Row
 Eb:Option Nat
 cap:Nat
 more:Nat→Prop
def Own.owns (o:Own) (b:Nat):Prop:=o.Eb=some b∨o.more b
def Dv:Nat→Prop:=fun _=>False
mutual
def Ae (F:Nat→Prop) (w:World):List Own→AV→Value→Prop
 | _,.Eu,_=>True
 | _,.un,v=>v=undef
 | _,.int k n,v=>v=.int k n
 | _,.bool b,v=>v=.bool b
 | _,.str s,v=>v=.string s
 | _,.zc,v=>∃a,v=.slice a 0 0
 | _,.PG,v=>v=.pointer none
 | _,.O1,v=>v=.nilFunc
 | _,.sl xs,v=>∃a cap,v=.slice a xs.length cap∧xs.length≤cap∧(xs≠[]→∃b o size,a=some ⟨b,o,none⟩∧F b∧(∀x∈xs,x.length=size)∧GN F w xs b o)
 | os,.own id g n,v=>∃o,os[id]?=some o∧g≤o.row.gen∧(∃a l c,v=.slice a l c)∧(o.row.gen=g→n≤o.row.xs.length∧((o.Eb=none∧∃a,v=.slice a n 0)∨∃b,o.Eb=some b∧v=.slice (some ⟨b,(o.row.xs.length - n) * o.row.size,none⟩) n (o.cap - (o.row.xs.length - n))))
 | os,.ptr id g i off,v=>∃o,os[id]?=some o∧g≤o.row.gen∧(∃a,v=.pointer a)∧(o.row.gen=g→i < o.row.xs.length∧off≤o.row.size∧∃b,o.Eb=some b∧v=.pointer (some ⟨b,i * o.row.size+off,none⟩))
 | _,.Bd x off,v=>∃b o,v=.pointer (some ⟨b,o+off,none⟩)∧F b∧EJ F w x b o
 | os,.fn f caps,v=>∃us:List Value,v=.func (.func f) #[] us.toArray∧BG F w os caps us
 | os,.agg cs,v=>∃us:List Value,v=.agg us.toArray∧BG F w os cs us
 | os,.DE vs,v=>∃us:List Value,v=.tuple us.toArray∧BG F w os vs us
 | _,.dv _ _ _,v=>∃a l c,v=.slice a l c
def BG (F:Nat→Prop) (w:World):List Own→List AV→List Value→Prop
 | _,[],us=>us=[]
 | os,x :: r,us=>∃u us',us=u :: us'∧Ae F w os x u∧BG F w os r us'
def EJ (F:Nat→Prop) (w:World):List AV→Nat→Nat→Prop
 | [],_,_=>True
 | x :: r,b,o=>(∃u,w.cell? ⟨b,o,none⟩=some u∧x.leaf=true∧Ae F w [] x u)∧EJ F w r b (o+1)
def GN (F:Nat→Prop) (w:World):List (List AV)→Nat→Nat→Prop
 | [],_,_=>True
 | x :: r,b,o=>EJ F w x b o∧GN F w r b (o+x.length)
end
mutual
def DG (S:Nat→Prop) (w:World):AV→Value→Prop
 | .dv el size xs,v=>0 < size∧((xs=[]∧∃a,v=.slice a 0 0)∨∃b cap cur,v=.slice (some ⟨b,0,none⟩) xs.length cap∧xs.length≤cap∧cap≤maxLen∧S b∧
   w.heap[b]?=some (.cells cur el (0,0))∧cur.size=cap * size∧(∀x∈xs,x.length=size)∧Jt (fun c=>S c∧c≠b) w xs cur 0)
 | .int k n,v=>v=.int k n
 | .bool b,v=>v=.bool b
 | .str s,v=>v=.string s
 | .zc,v=>∃a,v=.slice a 0 0
 | .PG,v=>v=.pointer none
 | .O1,v=>v=.nilFunc
 | _,_=>False
def Jt (S:Nat→Prop) (w:World):List (List AV)→Array Value→Nat→Prop
 | [],_,_=>True
 | x :: r,cur,o=>∃S1 S2:Nat→Prop,(∀b,S1 b→S b)∧(∀b,S2 b→S b)∧(∀b,S1 b→¬ S2 b)∧Jw S1 w x cur o∧Jt S2 w r cur (o+x.length)
def Jw (S:Nat→Prop) (w:World):List AV→Array Value→Nat→Prop
 | [],_,_=>True
 | x :: r,cur,o=>∃S1 S2:Nat→Prop,(∀b,S1 b→S b)∧(∀b,S2 b→S b)∧(∀b,S1 b→¬ S2 b)∧(∃u,cur[o]?=some u∧DG S1 w x u)∧Jw S2 w r cur (o+1)
end
def JV (w:World) (o:Own):Prop:=
 ∃D:Nat→Nat→Nat→Prop,(∀i j b,D i j b→o.more b)∧(∀i j i' j' b,D i j b→D i' j' b→i=i'∧j=j')∧
  ∀b,o.Eb=some b→∀cur el l,w.heap[b]?=some (.cells cur el l)→∀(i:Nat) x (j:Nat) e s ys,o.row.xs[i]?=some x→x[j]?=some (.dv e s ys)→
   ∃u,cur[i * o.row.size+j]?=some u∧DG (D i j) w (.dv e s ys) u
structure KO (F:Nat→Prop) (w:World) (os:List Own) (o:Own):Prop where
 pos:0 < o.row.size
 lens :∀x∈o.row.xs,x.length=o.row.size∧∀c∈x,c.kept=true
 none:o.Eb=none→o.row.xs=[]∧o.cap=0
 some :∀b,o.Eb=some b→¬ F b∧∃cur:Array Value,w.heap[b]?=some (.cells cur o.row.elem (0,0))∧cur.size=o.cap * o.row.size∧o.row.xs.length≤o.cap∧o.cap≤maxLen∧
  ∀i x,o.row.xs[i]?=some x→∀j c,x[j]?=some c→∃u,cur[i * o.row.size+j]?=some u∧Ae F w os c u
 mo :∀b,o.more b→¬ F b∧b < w.heap.size∧o.Eb≠Option.some b
 deep:JV w o
theorem Km {o:Own} {n:Nat} {b:Nat} (h:n=o.row.xs.length):Value.slice (some ⟨b,(o.row.xs.length - n) * o.row.size,none⟩) n (o.cap - (o.row.xs.length - n))=.slice (some ⟨b,0,none⟩) n o.cap:=by
 subst h;simp
structure St where
 n:Nat
 env:Nat→AV
 st:List Row
def Dh (e:Nat→AV) (d:Nat) (v:AV):Nat→AV:=fun k=>if k=d then v else e k
structure Rel (F:Nat→Prop) (os:List Own) (s:St) (a:Act) (w:World):Prop where
 st:os.map Own.row=s.st
 env :∀k,Ae F w os (s.env k) (a.tmps.getD k undef)
 size:a.tmps.size=s.n
 rows :∀(i:Nat) (o:Own),os[i]?=some o→KO F w os o
 inj :∀(i j:Nat) (oi oj:Own) (b:Nat),os[i]?=some oi→os[j]?=some oj→oi.owns b→oj.owns b→i=j
 EO :∀b,F b→b < w.heap.size
 defers:a.defers=[]
structure Ext (F:Nat→Prop) (os:List Own) (w:World) (F':Nat→Prop) (os':List Own) (w':World) (k:Nat):Prop where
 sys:w'.os=w.os
 tape:w'.tape=w.tape
 output:w'.output=w.output
 size:w.heap.size≤w'.heap.size
 LY :∀b,F b→F' b
 HP :∀b,F b→w'.heap[b]?=w.heap[b]?
 other :∀b,b < w.heap.size→¬ F b→(∀o:Own,o∈os→¬ o.owns b)→w'.heap[b]?=w.heap[b]?∧¬ F' b∧∀o:Own,o∈os'→¬ o.owns b
 Sa :∀(i:Nat) (o:Own),i < k→os[i]?=some o→∃o':Own,os'[i]?=some o'∧o.row.gen≤o'.row.gen∧o'.row.size=o.row.size∧(o'.row.gen=o.row.gen→o'.Eb=o.Eb∧o'.cap=o.cap∧o'.row.xs.length=o.row.xs.length)
theorem Ext.refl (F:Nat→Prop) (os:List Own) (w:World) (k:Nat):Ext F os w F os w k:=
 ⟨rfl,rfl,rfl,Nat.le_refl _,fun _ h=>h,fun _ _=>rfl,fun _ _ h1 h2=>⟨rfl,h1,h2⟩,fun _ o _ h=>⟨o,h,Nat.le_refl _,rfl,fun _=>⟨rfl,rfl,rfl⟩⟩⟩
theorem Ext.trans {F F' F'':Nat→Prop} {os os' os'':List Own} {w w' w'':World} {k:Nat} (h:Ext F os w F' os' w' k) (g:Ext F' os' w' F'' os'' w'' k):Ext F os w F'' os'' w'' k:=by
 refine⟨g.sys.trans h.sys,g.tape.trans h.tape,g.output.trans h.output,Nat.le_trans h.size g.size,fun b hb=>g.LY b (h.LY b hb),
  fun b hb=>(g.HP b (h.LY b hb)).trans (h.HP b hb),fun b hb h1 h2=>?_,fun i o hi ho=>?_⟩
 ·obtain⟨e1,n1,m1⟩:=h.other b hb h1 h2
  obtain⟨e2,n2,m2⟩:=g.other b (Nat.lt_of_lt_of_le hb h.size) n1 m1
  exact⟨e2.trans e1,n2,m2⟩
 ·obtain⟨o',ho',l1,s1,p1⟩:=h.Sa i o hi ho
  obtain⟨o'',ho'',l2,s2,p2⟩:=g.Sa i o' hi ho'
  refine⟨o'',ho'',Nat.le_trans l1 l2,s2.trans s1,fun e=>?_⟩
  have e1:o'.row.gen=o.row.gen:=by omega
  have e2:o''.row.gen=o'.row.gen:=by omega
  obtain⟨a1,a2,a3⟩:=p1 e1
  obtain⟨b1,b2,b3⟩:=p2 e2
  exact⟨b1.trans a1,b2.trans a2,b3.trans a3⟩
mutual
theorem B6 {F F':Nat→Prop} {w w':World} (hF :∀b,F b→F' b) (hw :∀b,F b→w'.heap[b]?=w.heap[b]?) :
  ∀(os os':List Own) (_ :∀(i:Nat) (o:Own),os[i]?=some o→∃o':Own,os'[i]?=some o'∧o.row.gen≤o'.row.gen∧o'.row.size=o.row.size∧(o'.row.gen=o.row.gen→o'.Eb=o.Eb∧o'.cap=o.cap∧o'.row.xs.length=o.row.xs.length)) (x:AV) (v:Value),Ae F w os x v→Ae F' w' os' x v
 | _,_,_,.Eu,_,_=>by simp[Ae]
 | _,_,_,.un,_,h=>by simpa [Ae] using h
 | _,_,_,.int _ _,_,h=>by simpa [Ae] using h
 | _,_,_,.bool _,_,h=>by simpa [Ae] using h
 | _,_,_,.str _,_,h=>by simpa [Ae] using h
 | _,_,_,.zc,_,h=>by simpa [Ae] using h
 | _,_,_,.PG,_,h=>by simpa [Ae] using h
 | _,_,_,.O1,_,h=>by simpa [Ae] using h
 | _,_,_,.dv ..,_,h=>by simpa [Ae] using h
 | _,_,_,.sl xs,v,h=>by
  simp only[Ae] at h ⊢
  obtain⟨a,cap,hv,hcap,h2⟩:=h
  refine⟨a,cap,hv,hcap,fun hne=>?_⟩
  obtain⟨b,o,size,ha,hb,hs,hr⟩:=h2 hne
  exact⟨b,o,size,ha,hF b hb,hs,O5 hF hw xs b o hb hr⟩
 | os,os',hos,.own id g n,v,h=>by
  simp only[Ae] at h ⊢
  obtain⟨o,ho,hle,hsh,h1⟩:=h
  obtain⟨o',ho',hl',hs',hp'⟩:=hos id o ho
  refine⟨o',ho',by omega,hsh,fun e=>?_⟩
  obtain⟨e1,e2,e3⟩:=hp' (by omega)
  obtain⟨h2,h3⟩:=h1 (by omega)
  refine⟨by omega,?_⟩
  rw[e1,e2,e3,hs'];exact h3
 | os,os',hos,.ptr id g i off,v,h=>by
  simp only[Ae] at h ⊢
  obtain⟨o,ho,hle,hsh,h1⟩:=h
  obtain⟨o',ho',hl',hs',hp'⟩:=hos id o ho
  refine⟨o',ho',by omega,hsh,fun e=>?_⟩
  obtain⟨e1,e2,e3⟩:=hp' (by omega)
  obtain⟨h2,h3,h4⟩:=h1 (by omega)
  refine⟨by omega,by omega,?_⟩
  rw[e1,hs'];exact h4
 | _,_,_,.Bd x off,v,h=>by
  simp only[Ae] at h ⊢
  obtain⟨b,o,hv,hb,hr⟩:=h
  exact⟨b,o,hv,hF b hb,Kz hF hw x b o hb hr⟩
 | os,os',hos,.fn f caps,v,h=>by
  simp only[Ae] at h ⊢
  obtain⟨us,hv,hr⟩:=h
  exact⟨us,hv,Mc hF hw os os' hos caps us hr⟩
 | os,os',hos,.agg cs,v,h=>by
  simp only[Ae] at h ⊢
  obtain⟨us,hv,hr⟩:=h
  exact⟨us,hv,Mc hF hw os os' hos cs us hr⟩
 | os,os',hos,.DE cs,v,h=>by
  simp only[Ae] at h ⊢
  obtain⟨us,hv,hr⟩:=h
  exact⟨us,hv,Mc hF hw os os' hos cs us hr⟩
theorem Mc {F F':Nat→Prop} {w w':World} (hF :∀b,F b→F' b) (hw :∀b,F b→w'.heap[b]?=w.heap[b]?) :
  ∀(os os':List Own) (_ :∀(i:Nat) (o:Own),os[i]?=some o→∃o':Own,os'[i]?=some o'∧o.row.gen≤o'.row.gen∧o'.row.size=o.row.size∧(o'.row.gen=o.row.gen→o'.Eb=o.Eb∧o'.cap=o.cap∧o'.row.xs.length=o.row.xs.length)) (xs:List AV) (us:List Value),BG F w os xs us→BG F' w' os' xs us
 | _,_,_,[],_,h=>by simpa [BG] using h
 | os,os',hos,x :: r,us,h=>by
  simp only[BG] at h ⊢
  obtain⟨u,us',hu,h1,h2⟩:=h
  exact⟨u,us',hu,B6 hF hw os os' hos x u h1,Mc hF hw os os' hos r us' h2⟩
theorem Kz {F F':Nat→Prop} {w w':World} (hF :∀b,F b→F' b) (hw :∀b,F b→w'.heap[b]?=w.heap[b]?) :
  ∀(xs:List AV) (b o:Nat),F b→EJ F w xs b o→EJ F' w' xs b o
 | [],_,_,_,_=>by simp[EJ]
 | x :: r,b,o,hb,h=>by
  simp only[EJ] at h ⊢
  obtain⟨⟨u,hu,hl,h1⟩,h2⟩:=h
  refine⟨⟨u,?_,hl,B6 hF hw [] [] (by simp) x u h1⟩,Kz hF hw r b (o+1) hb h2⟩
  rw[← hu];exact World.cell?_of_block (hw b hb)
theorem O5 {F F':Nat→Prop} {w w':World} (hF :∀b,F b→F' b) (hw :∀b,F b→w'.heap[b]?=w.heap[b]?) :
  ∀(xs:List (List AV)) (b o:Nat),F b→GN F w xs b o→GN F' w' xs b o
 | [],_,_,_,_=>by simp[GN]
 | x :: r,b,o,hb,h=>by
  simp only[GN] at h ⊢
  exact⟨Kz hF hw x b o hb h.1,O5 hF hw r b (o+x.length) hb h.2⟩
end
mutual
theorem Jx {S S':Nat→Prop} {w w':World} (hS :∀b,S b→S' b) (hw :∀b,S b→w'.heap[b]?=w.heap[b]?) :∀(x:AV) (v:Value),DG S w x v→DG S' w' x v
 | .dv el size xs,v,h=>by
  simp only[DG] at h ⊢
  obtain⟨hp,h⟩:=h
  refine⟨hp,?_⟩
  rcases h with h | ⟨b,cap,cur,h1,h2,h3,h4,h5,h6,h7,h8⟩
  ·exact .inl h
  ·refine .inr ⟨b,cap,cur,h1,h2,h3,hS b h4,by rw[hw b h4];exact h5,h6,h7,OJ (S:=fun c=>S c∧c≠b) (fun c hc=>⟨hS c hc.1,hc.2⟩) (fun c hc=>hw c hc.1) xs cur 0 h8⟩
 | .int _ _,_,h=>by simpa [DG] using h
 | .bool _,_,h=>by simpa [DG] using h
 | .str _,_,h=>by simpa [DG] using h
 | .zc,_,h=>by simpa [DG] using h
 | .PG,_,h=>by simpa [DG] using h
 | .O1,_,h=>by simpa [DG] using h
 | .Eu,_,h=>by simp[DG] at h
 | .un,_,h=>by simp[DG] at h
 | .sl _,_,h=>by simp[DG] at h
 | .own ..,_,h=>by simp[DG] at h
 | .ptr ..,_,h=>by simp[DG] at h
 | .Bd ..,_,h=>by simp[DG] at h
 | .fn ..,_,h=>by simp[DG] at h
 | .agg _,_,h=>by simp[DG] at h
 | .DE _,_,h=>by simp[DG] at h
theorem OJ {S S':Nat→Prop} {w w':World} (hS :∀b,S b→S' b) (hw :∀b,S b→w'.heap[b]?=w.heap[b]?) :∀(xs:List (List AV)) (cur:Array Value) (o:Nat),Jt S w xs cur o→Jt S' w' xs cur o
 | [],_,_,_=>by simp[Jt]
 | x :: r,cur,o,h=>by
  simp only[Jt] at h ⊢
  obtain⟨S1,S2,h1,h2,h3,h4,h5⟩:=h
  exact⟨S1,S2,fun b hb=>hS b (h1 b hb),fun b hb=>hS b (h2 b hb),h3,SZ (fun _ h=>h) (fun b hb=>hw b (h1 b hb)) x cur o h4,OJ (fun _ h=>h) (fun b hb=>hw b (h2 b hb)) r cur _ h5⟩
theorem SZ {S S':Nat→Prop} {w w':World} (hS :∀b,S b→S' b) (hw :∀b,S b→w'.heap[b]?=w.heap[b]?) :∀(xs:List AV) (cur:Array Value) (o:Nat),Jw S w xs cur o→Jw S' w' xs cur o
 | [],_,_,_=>by simp[Jw]
 | x :: r,cur,o,h=>by
  simp only[Jw] at h ⊢
  obtain⟨S1,S2,h1,h2,h3,⟨u,h4,h5⟩,h6⟩:=h
  exact⟨S1,S2,fun b hb=>hS b (h1 b hb),fun b hb=>hS b (h2 b hb),h3,⟨u,h4,Jx (fun _ h=>h) (fun b hb=>hw b (h1 b hb)) x u h5⟩,SZ (fun _ h=>h) (fun b hb=>hw b (h2 b hb)) r cur _ h6⟩
end
theorem Cs {w:World} {o:Own} (h :∀x∈o.row.xs,∀c∈x,c.leaf=true):JV w o:=
 ⟨fun _ _ _=>False,fun _ _ _ h=>h.elim,fun _ _ _ _ _ h=>h.elim,fun _ _ _ _ _ _ i x j e s ys hx hc=>by
  have:=h x (List.mem_of_getElem? hx) _ (List.mem_of_getElem? hc)
  simp[AV.leaf] at this⟩
theorem JV.keep {w w':World} {o o':Own} (h:JV w o) (hb:o'.Eb=o.Eb) (hm :∀b,o.more b→o'.more b) (hs:o'.row.size=o.row.size)
  (hw :∀b,o.owns b→w'.heap[b]?=w.heap[b]?)
  (hr :∀(i:Nat) x (j:Nat) e s ys,o'.row.xs[i]?=some x→x[j]?=some (.dv e s ys)→∃x0,o.row.xs[i]?=some x0∧x0[j]?=some (.dv e s ys)):JV w' o':=by
 obtain⟨D,h1,h2,h3⟩:=h
 refine⟨D,fun i j b hb=>hm b (h1 i j b hb),h2,fun b hob cur el l hcur i x j e s ys hx hc=>?_⟩
 rw[hb] at hob
 rw[hw b (.inl hob)] at hcur
 obtain⟨x0,hx0,hc0⟩:=hr i x j e s ys hx hc
 obtain⟨u,e1,e2⟩:=h3 b hob cur el l hcur i x0 j e s ys hx0 hc0
 exact⟨u,by rw[hs];exact e1,Jx (fun _ h=>h) (fun c hc=>hw c (.inr (h1 i j c hc))) _ u e2⟩
theorem JV.mapped {w:World} {o o':Own} (f:AV→AV) (hf :∀c e s ys,f c=.dv e s ys→c=.dv e s ys) (h:JV w o) (hb:o'.Eb=o.Eb) (hm:o'.more=o.more) (hs:o'.row.size=o.row.size)
  (hx:o'.row.xs=o.row.xs.map (·.map f)):JV w o':=by
 refine h.keep hb (fun b hb=>by rw[hm];exact hb) hs (fun _ _=>rfl) fun i x j e s ys hx' hc=>?_
 rw[hx,List.getElem?_map,Option.map_eq_some_iff] at hx'
 obtain⟨y,hy,rfl⟩:=hx'
 rw[List.getElem?_map,Option.map_eq_some_iff] at hc
 obtain⟨d,hd,hc⟩:=hc
 exact⟨y,hy,by rw[hd,hf _ _ _ _ hc]⟩
theorem KO.lt {F:Nat→Prop} {w:World} {os:List Own} {o:Own} (h:KO F w os o) {b:Nat} (hb:o.owns b):b < w.heap.size:=by
 rcases hb with hb | hb
 ·obtain⟨_,cur,hcur,_⟩:=h.some b hb
  exact (Array.getElem?_eq_some_iff.1 hcur).1
 ·exact (h.mo b hb).2.1
theorem KO.nF {F:Nat→Prop} {w:World} {os:List Own} {o:Own} (h:KO F w os o) {b:Nat} (hb:o.owns b):¬ F b:=by
 rcases hb with hb | hb
 ·exact (h.some b hb).1
 ·exact (h.mo b hb).1
end Go.Abs

