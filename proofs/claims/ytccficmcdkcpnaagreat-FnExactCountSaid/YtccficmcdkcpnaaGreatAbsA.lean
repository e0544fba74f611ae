import Derived.WalkKit
import Derived.Below
import Derived.OwnWalk
import Derived.Orders
import Derived.StillTail
abbrev uJ:=@Option.bind_some
abbrev uK:=@List.getElem?_eq_some_iff
abbrev uL:=@List.mem_of_getElem?
abbrev uM:=@trivial
abbrev uN:=@Bool.false_eq_true
abbrev uO:=@Option.some.injEq
abbrev uP:=@List.getElem?_map
abbrev uQ:=@List.getElem?_eq_getElem
abbrev uR:=@Option.map_eq_some_iff
abbrev uS:=@List.all_eq_true
abbrev uT:=@Bool.and_eq_true
abbrev uU:=@List.getElem?_append_left
abbrev uV:=@List.getElem?_set_self
abbrev uW:=@decide_eq_false_iff_not
abbrev uX:=@if_pos
abbrev uY:=@if_neg
abbrev uZ:=@List.length_map
abbrev ue:=@Nat.zero_le
abbrev uf:=@if_false
abbrev ug:=@List.getElem?_append_right
abbrev uj:=@decide_eq_true_eq
abbrev uq:=@Nat.le_refl
abbrev uu:=@List.length_append
abbrev uw:=@List.mem_map
abbrev uz:=@List.mem_cons
abbrev vA:=@decide_false
abbrev vB:=@decide_true
abbrev vC:=@List.getElem?_cons_zero
abbrev vD:=@List.length_cons
abbrev vE:=@List.getElem?_set_ne
abbrev vF:=@List.mem_iff_getElem?
abbrev vG:=@List.drop_zero
abbrev vH:=@if_true
abbrev vI:=@congrArg
abbrev vJ:=@List.mem_append
abbrev vK:=@List.map_cons
abbrev vL:=@List.map_congr_left
abbrev vM:=@List.eq_nil_of_length_eq_zero
abbrev vN:=@List.getElem?_take
abbrev vO:=@Option.bind_eq_some_iff
abbrev vP:=@List.append_assoc
abbrev vQ:=@List.mem_singleton
abbrev vR:=@Array.getElem?_eq_some_iff
abbrev vS:=@Go.Result.andThen_ok
abbrev vT:=@Bool.not_true
abbrev vU:=@Go.Sem.run_bind
abbrev vV:=@List.append_nil
abbrev vW:=@List.getElem?_cons_succ
abbrev vX:=@decide_eq_decide
abbrev vY:=@Option.map_some
abbrev vZ:=@List.getElem?_drop
abbrev va:=@Nat.mul_le_mul_right
abbrev vd:=@Nat.zero_add
abbrev ve:=@Bool.and_eq_false_iff
abbrev vf:=@List.getElem?_eq_none
abbrev vg:=@Nat.add_mul
abbrev vh:=@List.nil_append
abbrev vi:=@Nat.lt_of_lt_of_le
abbrev vj:=@Bool.not_eq_true'
abbrev vk:=@Array.getElem?_eq_getElem
abbrev vl:=@List.length_nil
abbrev vm:=@of_decide_eq_true
abbrev vn:=@Go.run_underlying
abbrev vp:=@List.take_length
abbrev vq:=@List.mem_or_eq_of_mem_set
abbrev vr:=@List.length_filter_le
abbrev vt:=@List.length_take
abbrev vu:=@Int.eq_ofNat_of_zero_le
abbrev vv:=@Go.Sem.run_pure
abbrev vw:=@Nat.eq_of_beq_eq_true
abbrev vx:=@List.map_append
abbrev vy:=@Array.length_toList
abbrev vz:=@List.mem_cons_of_mem
abbrev wA:=@Array.getElem?_toList
abbrev wB:=@Bool.not_false
abbrev wC:=@List.mem_of_mem_drop
abbrev wD:=@Nat.lt_trichotomy
abbrev wE:=@Prod.mk.injEq
abbrev wF:=@Nat.le_of_ble_eq_true
abbrev wG:=@Option.elim_some
abbrev wH:=@Int.toNat_natCast
abbrev wJ:=@List.map_id
abbrev wK:=@List.mem_of_mem_take
abbrev wL:=@Decidable.byContradiction
abbrev wM:=@List.pairwise_cons
abbrev wO:=@List.take_of_length_le
abbrev wP:=@List.mem_filter
abbrev wQ:=@List.mem_range
abbrev wR:=@Ne.symm
abbrev wS:=@List.length_singleton
abbrev wT:=@List.mem_filterMap
abbrev wU:=@Bool.true_and
abbrev wV:=@Nat.min_eq_left
abbrev wW:=@List.map_nil
abbrev wX:=@Nat.sub_self
abbrev wY:=@List.getElem?_range
abbrev wZ:=@Nat.add_assoc
abbrev wa:=@List.map_map
abbrev wb:=@List.map_set
abbrev wc:=@Array.getD_eq_getD_getElem?
abbrev we:=@List.findIdx?_eq_some_iff_getElem
abbrev wg:=@Array.getElem?_append_left
abbrev wh:=@Bool.false_and
abbrev wi:=@List.filter_congr
abbrev wj:=@List.length_pos_of_mem
abbrev wm:=@Go.cell_of_row
abbrev wo:=@List.mem_cons_self
abbrev wq:=@Option.getD_some
abbrev wu:=@List.filterMap_cons
abbrev wv:=@List.drop_eq_nil_of_le
abbrev wx:=@Nat.le_trans
abbrev wy:=@Nat.lt_or_ge
abbrev wz:=@List.sum_cons
abbrev xA:=@List.drop_length
abbrev xB:=@List.getElem_mem
abbrev xC:=@List.mem_replicate
abbrev xD:=@decide_eq_true_iff
abbrev xE:=@Go.heap_alloc_new
abbrev xF:=@List.take_append_drop
abbrev xG:=@List.pairwise_iff_getElem
abbrev xH:=@Bool.or_eq_true
abbrev xI:=@Nat.zero_mul
abbrev xJ:=@Go.World.cell?_of_block
abbrev xK:=@Array.ext'
abbrev xL:=@List.take_set_of_le
abbrev xM:=@List.filter_filter
abbrev xN:=@Nat.add_zero
abbrev xO:=@Nat.sub_zero
abbrev xP:=@Go.grownCap_le_maxLen
abbrev xQ:=@List.foldl_cons
abbrev xR:=@List.take_left'
abbrev xS:=@Option.some.inj
abbrev xT:=@List.all_cons
abbrev xU:=@Array.toArray_toList
abbrev xV:=@List.getD_eq_getElem?_getD
abbrev xW:=@List.pairwise_append
abbrev xX:=@Go.size_zeroCells
abbrev xY:=@List.filter_cons
abbrev xZ:=@List.length_drop
abbrev xb:=@List.drop_eq_getElem_cons
abbrev xc:=@List.mem_map_of_mem
abbrev xe:=@Int.natCast_nonneg
abbrev xf:=@List.map_replicate
abbrev xg:=@Int.le_refl
abbrev xh:=@List.drop_of_length_le
abbrev xj:=@List.ext_getElem?
abbrev xk:=@List.mapM_cons
abbrev xl:=@List.size_toArray
abbrev xm:=@decide_eq_true
abbrev xn:=@Array.getElem?_modify
abbrev xp:=@List.getElem?_toArray
abbrev xu:=@List.set_getElem_self
abbrev xx:=@List.singleton_append
abbrev xy:=@Array.toList_map
abbrev xz:=@List.cons_append
abbrev yA:=@List.mem_toArray
abbrev yB:=@Nat.mod_eq_of_lt
abbrev yC:=@Bool.and_true
abbrev yD:=@Array.mem_toList_iff
abbrev yE:=@Bool.or_eq_false_iff
abbrev yF:=@List.getElem?_mapIdx
abbrev yG:=@Bool.eq_iff_iff
abbrev yH:=@Int.natCast_mul
abbrev yI:=@List.drop_succ_cons
abbrev yJ:=@List.filter_eq_self
abbrev yK:=@List.length_pos_iff
abbrev yL:=@Nat.mul_comm
abbrev yM:=@Bool.and_assoc
abbrev yN:=@List.map_filterMap
abbrev yO:=@List.take_zero
abbrev yP:=@of_decide_eq_false
abbrev yQ:=@Go.ready_mono
abbrev yR:=@Function.comp_def
abbrev yS:=@List.getElem?_set
abbrev yU:=@Nat.le_zero
abbrev yV:=@Go.grownCap_ge
abbrev yW:=@List.cons.inj
abbrev yX:=@List.map_take
abbrev yY:=@Nat.lt_irrefl
abbrev yZ:=@Bool.not_eq_true
abbrev yb:=@Go.mem_ready
abbrev yc:=@or_false
abbrev ye:=@List.all_map
abbrev yh:=@List.cons.injEq
abbrev yi:=@List.length_set
abbrev yj:=@Nat.mul_add_mod
abbrev yk:=@Nat.not_lt_zero
abbrev ym:=@Option.map_none
abbrev yr:=@Nat.mul_one
abbrev yv:=@Go.wp_mono
theorem yp:0<=1:=by decide
theorem yu:0<=0:=by decide
theorem yy:0+2<=3:=by decide
theorem zA:1<=1:=by decide
theorem zB:0+5<=6:=by decide
theorem zC:0+1<=1:=by decide
theorem zD:0+0<=1:=by decide
theorem zE:0<=2:=by decide
theorem zF:0+5<=5:=by decide
theorem zG:2<=3:=by decide
theorem zH:0+2<=2:=by decide
theorem zI:6<=11:=by decide
theorem zJ:3<=8:=by decide
theorem zK:3<=9:=by decide
theorem zL:2<=2:=by decide
theorem zM:6<=12:=by decide
theorem zN:6<=10:=by decide
theorem zO:0+0<=6:=by decide
theorem zP (i:Nat):((i:Int)+1)=((i+1:Nat):Int):=by omega
theorem zQ:((0:Nat):Int)=0:=rfl
set_option linter.all false
namespace Go.Abs
open Go
theorem AA {α:Sort _}{a:α}:a=a:=rfl
inductive AV where
 | F6
 | un
 | int (k:IntKind) (n:Int)
 | bool (b:Bool)
 | str (s:ByteArray)
 | zc
 | Tm
 | TU
 | sl (xs:List (List AV))
 | own (id gen len:Nat)
 | ptr (id gen i off:Nat)
 | Bj (x:List AV) (off:Nat)
 | fn (f:FuncId) (caps:List AV)
 | agg (cs:List AV)
 | CW (vs:List AV)
 | dv (el size:Nat) (xs:List (List AV))
 | ex (v:Value)
 | bd (f:FuncId) (first:List AV)
 deriving Inhabited
abbrev i64 (n:Int):AV:=.int .i64 n
def AV.leaf:AV->Bool
 | .F6|.un|.agg _|.CW _|.dv ..=>false
 | _=>true
def AV.kept:AV->Bool
 | .dv ..=>true
 | c=>c.leaf
theorem DL {c:AV}(h:c.leaf=true):c.kept=true:=by cases c<;>simp_all [AV.kept,AV.leaf]
structure Row where
 gen:Nat
 elem:TypeId
 size:Nat
 xs:List (List AV)
structure Own where
 row:Row
 Ea:Option Nat
 cap:Nat
 more:Nat->Prop
def Own.owns (o:Own)(b:Nat):Prop:=o.Ea=some b∨o.more b
def Gb:Nat->Prop:=λ_=>False
mutual
def Ae (F:Nat->Prop)(w:World):List Own->AV->Value->Prop
 | _,.F6,_=>True
 | _,.un,v=>v=undef
 | _,.int k n,v=>v=.int k n
 | _,.bool b,v=>v=.bool b
 | _,.str s,v=>v=.string s
 | _,.zc,v=>∃a,v=.slice a 0 0
 | _,.Tm,v=>v=.pointer none
 | _,.TU,v=>v=.nilFunc
 | _,.sl xs,v=>∃a cap,v=.slice a xs.length cap/\xs.length<=cap/\(xs≠[]->∃b o size,a=some ⟨b,o,none⟩/\F b/\(∀x∈xs,x.length=size)/\Ie F w xs b o)
 | os,.own id g n,v=>∃o,os[id]?=some o/\g<=o.row.gen/\(∃a l c,v=.slice a l c)/\(o.row.gen=g->n<=o.row.xs.length/\((o.Ea=none/\∃a,v=.slice a n 0)∨∃b,o.Ea=some b/\v=.slice (some ⟨b,(o.row.xs.length-n)*o.row.size,none⟩) n (o.cap-(o.row.xs.length-n))))
 | os,.ptr id g i off,v=>∃o,os[id]?=some o/\g<=o.row.gen/\(∃a,v=.pointer a)/\(o.row.gen=g->i<o.row.xs.length/\off<=o.row.size/\∃b,o.Ea=some b/\v=.pointer (some ⟨b,i*o.row.size+off,none⟩))
 | _,.Bj x off,v=>∃b o,v=.pointer (some ⟨b,o+off,none⟩)/\F b/\FU F w x b o
 | os,.fn f caps,v=>∃us:List Value,v=.func (.func f) #[] us.toArray/\Bc F w os caps us
 | os,.agg cs,v=>∃us:List Value,v=.agg us.toArray/\Bc F w os cs us
 | os,.CW vs,v=>∃us:List Value,v=.tuple us.toArray/\Bc F w os vs us
 | _,.dv _ _ _,v=>∃a l c,v=.slice a l c
 | _,.ex u,v=>v=u/\u.oneCell'=true
 | _,.bd f cs,v=>∃us:List Value,v=.func (.func f) us.toArray #[]/\Bc F w [] cs us
def Bc (F:Nat->Prop)(w:World):List Own->List AV->List Value->Prop
 | _,[],us=>us=[]
 | os,x::r,us=>∃u us',us=u::us'/\Ae F w os x u/\Bc F w os r us'
def FU (F:Nat->Prop)(w:World):List AV->Nat->Nat->Prop
 | [],_,_=>True
 | x::r,b,o=>(∃u,w.cell? ⟨b,o,none⟩=some u/\x.leaf=true/\Ae F w [] x u)/\FU F w r b (o+1)
def Ie (F:Nat->Prop)(w:World):List (List AV)->Nat->Nat->Prop
 | [],_,_=>True
 | x::r,b,o=>FU F w x b o/\Ie F w r b (o+x.length)
end
mutual
def EX (S:Nat->Prop)(w:World):AV->Value->Prop
 | .dv el size xs,v=>0<size/\((xs=[]/\∃a,v=.slice a 0 0)∨∃b cap cur,v=.slice (some ⟨b,0,none⟩) xs.length cap/\xs.length<=cap/\cap<=maxLen/\S b/\
   w.heap[b]?=some (.cells cur el (0,0))/\cur.size=cap*size/\(∀x∈xs,x.length=size)/\Nq (λc=>S c/\c≠b) w xs cur 0)
 | .int k n,v=>v=.int k n
 | .bool b,v=>v=.bool b
 | .str s,v=>v=.string s
 | .zc,v=>∃a,v=.slice a 0 0
 | .Tm,v=>v=.pointer none
 | .TU,v=>v=.nilFunc
 | _,_=>False
def Nq (S:Nat->Prop)(w:World):List (List AV)->Array Value->Nat->Prop
 | [],_,_=>True
 | x::r,cur,o=>∃S1 S2:Nat->Prop,(∀b,S1 b->S b)/\(∀b,S2 b->S b)/\(∀b,S1 b->¬ S2 b)/\Nf S1 w x cur o/\Nq S2 w r cur (o+x.length)
def Nf (S:Nat->Prop)(w:World):List AV->Array Value->Nat->Prop
 | [],_,_=>True
 | x::r,cur,o=>∃S1 S2:Nat->Prop,(∀b,S1 b->S b)/\(∀b,S2 b->S b)/\(∀b,S1 b->¬ S2 b)/\(∃u,cur[o]?=some u/\EX S1 w x u)/\Nf S2 w r cur (o+1)
end
def NB (w:World)(o:Own):Prop:=
 ∃D:Nat->Nat->Nat->Prop,(∀i j b,D i j b->o.more b)/\(∀i j i' j' b,D i j b->D i' j' b->i=i'/\j=j')/\
  ∀b,o.Ea=some b->∀cur el l,w.heap[b]?=some (.cells cur el l)->∀(i:Nat) x (j:Nat) e s ys,o.row.xs[i]?=some x->x[j]?=some (.dv e s ys)->
   ∃u,cur[i*o.row.size+j]?=some u/\EX (D i j) w (.dv e s ys) u
structure MZ (F:Nat->Prop) (w:World) (os:List Own) (o:Own):Prop where
 pos:0<o.row.size
 lens :∀x∈o.row.xs,x.length=o.row.size/\∀c∈x,c.kept=true
 none:o.Ea=none->o.row.xs=[]/\o.cap=0
 some :∀b,o.Ea=some b->¬ F b/\∃cur:Array Value,w.heap[b]?=some (.cells cur o.row.elem (0,0))/\cur.size=o.cap*o.row.size/\o.row.xs.length<=o.cap/\o.cap<=maxLen/\
  ∀i x,o.row.xs[i]?=some x->∀j c,x[j]?=some c->∃u,cur[i*o.row.size+j]?=some u/\Ae F w os c u
 mo :∀b,o.more b->¬ F b/\b<w.heap.size/\o.Ea≠Option.some b
 deep:NB w o
theorem PD {o:Own}{n b:Nat}(h:n=o.row.xs.length):Value.slice (some ⟨b,(o.row.xs.length-n)*o.row.size,none⟩) n (o.cap-(o.row.xs.length-n))=.slice (some ⟨b,0,none⟩) n o.cap:=by
 subst h;simp
structure St where
 n:Nat
 env:Nat->AV
 st:List Row
def EW (e:Nat->AV)(d:Nat)(v:AV):Nat->AV:=λk=>if k=d then v else e k
structure Rel (F:Nat->Prop) (os:List Own) (s:St) (a:Act) (w:World):Prop where
 st:os.map Own.row=s.st
 env :∀k,Ae F w os (s.env k) (a.tmps.getD k undef)
 size:a.tmps.size=s.n
 rows :∀(i:Nat) (o:Own),os[i]?=some o->MZ F w os o
 inj :∀(i j:Nat) (oi oj:Own) (b:Nat),os[i]?=some oi->os[j]?=some oj->oi.owns b->oj.owns b->i=j
 GK :∀b,F b->b<w.heap.size
 defers:a.defers=[]
structure Ext (F:Nat->Prop) (os:List Own) (w:World) (F':Nat->Prop) (os':List Own) (w':World) (k:Nat):Prop where
 sys:w'.os=w.os
 tape:w'.tape=w.tape
 output:w'.output=w.output
 size:w.heap.size<=w'.heap.size
 RN :∀b,F b->F' b
 Jx :∀b,F b->w'.heap[b]?=w.heap[b]?
 other :∀b,b<w.heap.size->¬ F b->(∀o:Own,o∈os->¬ o.owns b)->w'.heap[b]?=w.heap[b]?/\¬ F' b/\∀o:Own,o∈os'->¬ o.owns b
 kL :∀(i:Nat) (o:Own),i<k->os[i]?=some o->∃o':Own,os'[i]?=some o'/\o.row.gen<=o'.row.gen/\o'.row.size=o.row.size/\(o'.row.gen=o.row.gen->o'.Ea=o.Ea/\o'.cap=o.cap/\o'.row.xs.length=o.row.xs.length)
theorem Ext.refl (F:Nat->Prop)(os:List Own)(w:World)(k:Nat):Ext F os w F os w k:=
 ⟨rfl,rfl,rfl,uq _,λ_ h=>h,λ_ _=>rfl,λ_ _ h1 h2=>⟨rfl,h1,h2⟩,λ_ o _ h=>⟨o,h,uq _,rfl,λ_=>⟨rfl,rfl,rfl⟩⟩⟩
theorem Ext.trans {F F' F'':Nat->Prop}{os os' os'':List Own}{w w' w'':World}{k:Nat}(h:Ext F os w F' os' w' k)(g:Ext F' os' w' F'' os'' w'' k):Ext F os w F'' os'' w'' k:=by
 refine⟨g.sys.trans h.sys,g.tape.trans h.tape,g.output.trans h.output,wx h.size g.size,λb hb=>g.RN b (h.RN b hb),
  λb hb=>(g.Jx b (h.RN b hb)).trans (h.Jx b hb),λb hb h1 h2=>?_,λi o hi ho=>?_⟩
 ·obtain⟨e1,n1,m1⟩:=h.other b hb h1 h2;obtain⟨e2,n2,m2⟩:=g.other b (vi hb h.size) n1 m1;exact⟨e2.trans e1,n2,m2⟩
 ·obtain⟨o',ho',l1,s1,p1⟩:=h.kL i o hi ho;obtain⟨o'',ho'',l2,s2,p2⟩:=g.kL i o' hi ho';refine⟨o'',ho'',wx l1 l2,s2.trans s1,λe=>?_⟩;have e1:o'.row.gen=o.row.gen:=by omega
  have e2:o''.row.gen=o'.row.gen:=by omega
  obtain⟨a1,a2,a3⟩:=p1 e1;obtain⟨b1,b2,b3⟩:=p2 e2;exact⟨b1.trans a1,b2.trans a2,b3.trans a3⟩
mutual
theorem D8 {F F':Nat->Prop}{w w':World}(hF :∀b,F b->F' b)(hw :∀b,F b->w'.heap[b]?=w.heap[b]?):
  ∀(os os':List Own) (_ :∀(i:Nat) (o:Own),os[i]?=some o->∃o':Own,os'[i]?=some o'/\o.row.gen<=o'.row.gen/\o'.row.size=o.row.size/\(o'.row.gen=o.row.gen->o'.Ea=o.Ea/\o'.cap=o.cap/\o'.row.xs.length=o.row.xs.length)) (x:AV) (v:Value),Ae F w os x v->Ae F' w' os' x v
 | _,_,_,.F6,_,_=>by simp[Ae]
 | _,_,_,.un,_,h=>by simpa [Ae] using h
 | _,_,_,.int _ _,_,h=>by simpa [Ae] using h
 | _,_,_,.bool _,_,h=>by simpa [Ae] using h
 | _,_,_,.str _,_,h=>by simpa [Ae] using h
 | _,_,_,.zc,_,h=>by simpa [Ae] using h
 | _,_,_,.Tm,_,h=>by simpa [Ae] using h
 | _,_,_,.TU,_,h=>by simpa [Ae] using h
 | _,_,_,.dv ..,_,h=>by simpa [Ae] using h
 | _,_,_,.ex _,_,h=>by simpa [Ae] using h
 | _,_,_,.sl xs,v,h=>by
  simp only[Ae]at h⊢;obtain⟨a,cap,hv,hcap,h2⟩:=h;refine⟨a,cap,hv,hcap,λhne=>?_⟩;obtain⟨b,o,size,ha,hb,hs,hr⟩:=h2 hne;exact⟨b,o,size,ha,hF b hb,hs,Ue hF hw xs b o hb hr⟩
 | os,os',hos,.own id g n,v,h=>by
  simp only[Ae]at h⊢;obtain⟨o,ho,hle,hsh,h1⟩:=h;obtain⟨o',ho',hl',hs',hp'⟩:=hos id o ho;refine⟨o',ho',by omega,hsh,λe=>?_⟩;obtain⟨e1,e2,e3⟩:=hp' (by omega);obtain⟨h2,h3⟩:=h1 (by omega);refine⟨by omega,?_⟩;rw[e1,e2,e3,hs'];exact h3
 | os,os',hos,.ptr id g i off,v,h=>by
  simp only[Ae]at h⊢;obtain⟨o,ho,hle,hsh,h1⟩:=h;obtain⟨o',ho',hl',hs',hp'⟩:=hos id o ho;refine⟨o',ho',by omega,hsh,λe=>?_⟩;obtain⟨e1,e2,e3⟩:=hp' (by omega);obtain⟨h2,h3,h4⟩:=h1 (by omega);refine⟨by omega,by omega,?_⟩;rw[e1,hs'];exact h4
 | _,_,_,.Bj x off,v,h=>by
  simp only[Ae]at h⊢;obtain⟨b,o,hv,hb,hr⟩:=h;exact⟨b,o,hv,hF b hb,PF hF hw x b o hb hr⟩
 | os,os',hos,.fn f caps,v,h=>by
  simp only[Ae]at h⊢;obtain⟨us,hv,hr⟩:=h;exact⟨us,hv,PU hF hw os os' hos caps us hr⟩
 | os,os',hos,.agg cs,v,h=>by
  simp only[Ae]at h⊢;obtain⟨us,hv,hr⟩:=h;exact⟨us,hv,PU hF hw os os' hos cs us hr⟩
 | _,_,_,.bd f cs,v,h=>by
  simp only[Ae]at h⊢;obtain⟨us,hv,hr⟩:=h;exact⟨us,hv,PU hF hw [] [] (by simp) cs us hr⟩
 | os,os',hos,.CW cs,v,h=>by
  simp only[Ae]at h⊢;obtain⟨us,hv,hr⟩:=h;exact⟨us,hv,PU hF hw os os' hos cs us hr⟩
theorem PU {F F':Nat->Prop}{w w':World}(hF :∀b,F b->F' b)(hw :∀b,F b->w'.heap[b]?=w.heap[b]?):
  ∀(os os':List Own) (_ :∀(i:Nat) (o:Own),os[i]?=some o->∃o':Own,os'[i]?=some o'/\o.row.gen<=o'.row.gen/\o'.row.size=o.row.size/\(o'.row.gen=o.row.gen->o'.Ea=o.Ea/\o'.cap=o.cap/\o'.row.xs.length=o.row.xs.length)) (xs:List AV) (us:List Value),Bc F w os xs us->Bc F' w' os' xs us
 | _,_,_,[],_,h=>by simpa [Bc] using h
 | os,os',hos,x::r,us,h=>by
  simp only[Bc]at h⊢;obtain⟨u,us',hu,h1,h2⟩:=h;exact⟨u,us',hu,D8 hF hw os os' hos x u h1,PU hF hw os os' hos r us' h2⟩
theorem PF {F F':Nat->Prop}{w w':World}(hF :∀b,F b->F' b)(hw :∀b,F b->w'.heap[b]?=w.heap[b]?):
  ∀(xs:List AV) (b o:Nat),F b->FU F w xs b o->FU F' w' xs b o
 | [],_,_,_,_=>by simp[FU]
 | x::r,b,o,hb,h=>by
  simp only[FU]at h⊢;obtain⟨⟨u,hu,hl,h1⟩,h2⟩:=h;refine⟨⟨u,?_,hl,D8 hF hw [] [] (by simp) x u h1⟩,PF hF hw r b (o+1) hb h2⟩;rw[<- hu];exact xJ (hw b hb)
theorem Ue {F F':Nat->Prop}{w w':World}(hF :∀b,F b->F' b)(hw :∀b,F b->w'.heap[b]?=w.heap[b]?):
  ∀(xs:List (List AV)) (b o:Nat),F b->Ie F w xs b o->Ie F' w' xs b o
 | [],_,_,_,_=>by simp[Ie]
 | x::r,b,o,hb,h=>by
  simp only[Ie]at h⊢;exact⟨PF hF hw x b o hb h.1,Ue hF hw r b (o+x.length) hb h.2⟩
end
mutual
theorem Nb {S S':Nat->Prop}{w w':World}(hS :∀b,S b->S' b)(hw :∀b,S b->w'.heap[b]?=w.heap[b]?):∀(x:AV) (v:Value),EX S w x v->EX S' w' x v
 | .dv el size xs,v,h=>by
  simp only[EX]at h⊢;obtain⟨hp,h⟩:=h;refine⟨hp,?_⟩;rcases h with h|⟨b,cap,cur,h1,h2,h3,h4,h5,h6,h7,h8⟩
  ·exact .inl h
  ·refine .inr ⟨b,cap,cur,h1,h2,h3,hS b h4,by rw[hw b h4];exact h5,h6,h7,Tj (S:=λc=>S c/\c≠b) (λc hc=>⟨hS c hc.1,hc.2⟩) (λc hc=>hw c hc.1) xs cur 0 h8⟩
 | .int _ _,_,h=>by simpa [EX] using h
 | .bool _,_,h=>by simpa [EX] using h
 | .str _,_,h=>by simpa [EX] using h
 | .zc,_,h=>by simpa [EX] using h
 | .Tm,_,h=>by simpa [EX] using h
 | .TU,_,h=>by simpa [EX] using h
 | .F6,_,h=>by simp[EX]at h
 | .un,_,h=>by simp[EX]at h
 | .sl _,_,h=>by simp[EX]at h
 | .own ..,_,h=>by simp[EX]at h
 | .ptr ..,_,h=>by simp[EX]at h
 | .Bj ..,_,h=>by simp[EX]at h
 | .fn ..,_,h=>by simp[EX]at h
 | .agg _,_,h=>by simp[EX]at h
 | .CW _,_,h=>by simp[EX]at h
theorem Tj {S S':Nat->Prop}{w w':World}(hS :∀b,S b->S' b)(hw :∀b,S b->w'.heap[b]?=w.heap[b]?):∀(xs:List (List AV)) (cur:Array Value) (o:Nat),Nq S w xs cur o->Nq S' w' xs cur o
 | [],_,_,_=>by simp[Nq]
 | x::r,cur,o,h=>by
  simp only[Nq]at h⊢;obtain⟨S1,S2,h1,h2,h3,h4,h5⟩:=h;exact⟨S1,S2,λb hb=>hS b (h1 b hb),λb hb=>hS b (h2 b hb),h3,Xl (λ_ h=>h) (λb hb=>hw b (h1 b hb)) x cur o h4,Tj (λ_ h=>h) (λb hb=>hw b (h2 b hb)) r cur _ h5⟩
theorem Xl {S S':Nat->Prop}{w w':World}(hS :∀b,S b->S' b)(hw :∀b,S b->w'.heap[b]?=w.heap[b]?):∀(xs:List AV) (cur:Array Value) (o:Nat),Nf S w xs cur o->Nf S' w' xs cur o
 | [],_,_,_=>by simp[Nf]
 | x::r,cur,o,h=>by
  simp only[Nf]at h⊢;obtain⟨S1,S2,h1,h2,h3,⟨u,h4,h5⟩,h6⟩:=h;exact⟨S1,S2,λb hb=>hS b (h1 b hb),λb hb=>hS b (h2 b hb),h3,⟨u,h4,Nb (λ_ h=>h) (λb hb=>hw b (h1 b hb)) x u h5⟩,Xl (λ_ h=>h) (λb hb=>hw b (h2 b hb)) r cur _ h6⟩
end
theorem Fz {w:World}{o:Own}(h :∀x∈o.row.xs,∀c∈x,c.leaf=true):NB w o:=
 ⟨λ_ _ _=>False,λ_ _ _ h=>h.elim,λ_ _ _ _ _ h=>h.elim,λ_ _ _ _ _ _ i x j e s ys hx hc=>by
  have:=h x (uL hx) _ (uL hc);simp[AV.leaf]at this⟩
theorem NB.keep {w w':World}{o o':Own}(h:NB w o)(hb:o'.Ea=o.Ea)(hm :∀b,o.more b->o'.more b)(hs:o'.row.size=o.row.size)
  (hw :∀b,o.owns b->w'.heap[b]?=w.heap[b]?)
  (hr :∀(i:Nat) x (j:Nat) e s ys,o'.row.xs[i]?=some x->x[j]?=some (.dv e s ys)->∃x0,o.row.xs[i]?=some x0/\x0[j]?=some (.dv e s ys)):NB w' o':=by
 obtain⟨D,h1,h2,h3⟩:=h;refine⟨D,λi j b hb=>hm b (h1 i j b hb),h2,λb hob cur el l AAF i x j e s ys hx hc=>?_⟩;rw[hb]at hob;rw[hw b (.inl hob)]at AAF;obtain⟨x0,hx0,hc0⟩:=hr i x j e s ys hx hc;obtain⟨u,e1,e2⟩:=h3 b hob cur el l AAF i x0 j e s ys hx0 hc0;exact⟨u,by rw[hs];exact e1,Nb (λ_ h=>h) (λc hc=>hw c (.inr (h1 i j c hc))) _ u e2⟩
theorem NB.mapped {w:World}{o o':Own}(f:AV->AV)(hf :∀c e s ys,f c=.dv e s ys->c=.dv e s ys)(h:NB w o)(hb:o'.Ea=o.Ea)(hm:o'.more=o.more)(hs:o'.row.size=o.row.size)
  (hx:o'.row.xs=o.row.xs.map (·.map f)):NB w o':=by
 refine h.keep hb (λb hb=>by rw[hm];exact hb) hs (λ_ _=>rfl) λi x j e s ys hx' hc=>?_;rw[hx,uP,uR]at hx';obtain⟨y,hy,rfl⟩:=hx';rw[uP,uR]at hc;obtain⟨d,hd,hc⟩:=hc;exact⟨y,hy,by rw[hd,hf _ _ _ _ hc]⟩
theorem MZ.lt {F:Nat->Prop}{w:World}{os:List Own}{o:Own}(h:MZ F w os o){b:Nat}(hb:o.owns b):b<w.heap.size:=by
 rcases hb with hb|hb
 ·obtain⟨_,cur,AAF,_⟩:=h.some b hb;exact (vR.1 AAF).1
 ·exact (h.mo b hb).2.1
theorem MZ.nF {F:Nat->Prop}{w:World}{os:List Own}{o:Own}(h:MZ F w os o){b:Nat}(hb:o.owns b):¬ F b:=by
 rcases hb with hb|hb
 ·exact (h.some b hb).1
 ·exact (h.mo b hb).1
end Go.Abs
