import Derived.WalkKit
import Derived.Below
import Derived.OwnWalk
import Derived.Orders
import Derived.StillTail
abbrev po:=@Option.bind_some
abbrev pt:=@List.mem_of_getElem?
abbrev pw:=@trivial
abbrev px:=@List.getElem?_eq_some_iff
abbrev py:=@Bool.false_eq_true
abbrev pz:=@Option.some.injEq
abbrev qA:=@List.getElem?_map
abbrev qB:=@Option.map_eq_some_iff
abbrev qC:=@List.all_eq_true
abbrev qD:=@List.getElem?_eq_getElem
abbrev qF:=@if_pos
abbrev qG:=@if_neg
abbrev qH:=@List.mem_cons
abbrev qI:=@List.getElem?_set_self
abbrev qJ:=@decide_eq_true_eq
abbrev qK:=@List.getElem?_append_left
abbrev qM:=@decide_false
abbrev qN:=@decide_true
abbrev qO:=@List.mem_singleton
abbrev qP:=@Bool.and_eq_true
abbrev qQ:=@List.length_append
abbrev qR:=@if_false
abbrev qS:=@List.getElem?_append_right
abbrev qT:=@List.mem_map
abbrev qU:=@Nat.le_refl
abbrev qV:=@List.eq_nil_of_length_eq_zero
abbrev qW:=@decide_eq_false_iff_not
abbrev qZ:=@List.getElem?_set_ne
abbrev qa:=@List.length_cons
abbrev qb:=@List.mem_append
abbrev qc:=@List.length_map
abbrev qd:=@Nat.zero_le
abbrev qe:=@if_true
abbrev qf:=@List.mem_iff_getElem?
abbrev qg:=@List.getElem?_cons_zero
abbrev qh:=@Option.bind_eq_some_iff
abbrev qi:=@List.not_mem_nil
abbrev qj:=@List.map_cons
abbrev qk:=@List.map_congr_left
abbrev ql:=@List.getElem?_take
abbrev qm:=@List.append_assoc
abbrev qn:=@Nat.add_mul
abbrev qo:=@Nat.mul_le_mul_right
abbrev qp:=@Go.Result.andThen_ok
abbrev qq:=@List.getElem?_cons_succ
abbrev qs:=@Go.Sem.run_bind
abbrev qt:=@List.length_nil
abbrev qu:=@Int.eq_ofNat_of_zero_le
abbrev qv:=@Array.getElem?_eq_some_iff
abbrev qw:=@List.mem_cons_of_mem
abbrev qx:=@Option.map_some
abbrev qy:=@List.getElem?_drop
abbrev qz:=@Bool.and_eq_false_iff
abbrev rA:=@Bool.not_true
abbrev rB:=@List.mem_or_eq_of_mem_set
abbrev rC:=@congrArg
abbrev rD:=@Go.run_underlying
abbrev rE:=@List.mem_append_left
abbrev rF:=@Nat.add_assoc
abbrev rG:=@List.drop_zero
abbrev rH:=@Go.Sem.run_pure
abbrev rI:=@or_false
abbrev rJ:=@Option.elim_some
abbrev rK:=@Nat.eq_of_beq_eq_true
abbrev rL:=@Prod.mk.injEq
abbrev rM:=@List.map_append
abbrev rN:=@List.nil_append
abbrev rO:=@List.mem_of_mem_take
abbrev rP:=@decide_eq_decide
abbrev rQ:=@List.mem_filterMap
abbrev rR:=@List.getElem?_eq_none
abbrev rS:=@Nat.le_of_ble_eq_true
abbrev rT:=@Nat.zero_add
abbrev rU:=@Array.getElem?_eq_getElem
abbrev rV:=@of_decide_eq_true
abbrev rW:=@Nat.lt_of_lt_of_le
abbrev rX:=@Ne.symm
abbrev rY:=@List.append_nil
abbrev rZ:=@List.map_id
abbrev ra:=@List.map_map
abbrev rb:=@Nat.lt_trichotomy
abbrev re:=@List.mem_of_mem_drop
abbrev rf:=@List.map_nil
abbrev rh:=@List.map_set
abbrev ri:=@List.take_length
abbrev rj:=@List.take_of_length_le
abbrev rl:=@List.filterMap_cons
abbrev rm:=@List.mem_range
abbrev rn:=@Nat.lt_or_ge
abbrev rp:=@List.mem_cons_self
abbrev rq:=@Array.getD_eq_getD_getElem?
abbrev rr:=@List.findIdx?_eq_some_iff_getElem
abbrev ru:=@Array.getElem?_append_left
abbrev rv:=@Int.toNat_natCast
abbrev ry:=@Array.getElem?_toList
abbrev sA:=@List.getElem?_zipWith
abbrev sB:=@List.length_drop
abbrev sC:=@Nat.eq_zero_or_pos
abbrev sD:=@decide_eq_true_iff
abbrev sE:=@decide_eq_true
abbrev sF:=@Option.some.inj
abbrev sG:=@Array.length_toList
abbrev sH:=@List.getElem?_range
abbrev sI:=@List.mem_map_of_mem
abbrev sJ:=@List.drop_eq_nil_of_le
abbrev sK:=@Nat.sub_self
abbrev sL:=@List.all_cons
abbrev sM:=@List.length_take
abbrev sN:=@Option.getD_some
abbrev sO:=@List.mem_append_right
abbrev sP:=@Go.World.cell?_of_block
abbrev sQ:=@Array.ext'
abbrev sR:=@List.getElem_mem
abbrev sS:=@List.length_pos_of_mem
abbrev sT:=@List.cons.injEq
abbrev sU:=@Bool.and_self
abbrev sV:=@List.singleton_append
abbrev sW:=@Bool.not_eq_true'
abbrev sX:=@List.ext_getElem?
abbrev sY:=@List.size_toArray
abbrev sZ:=@Array.toArray_toList
abbrev sa:=@List.getD_eq_getElem?_getD
abbrev sb:=@Go.cell_of_row
abbrev sc:=@Go.ready_mono
abbrev sd:=@List.any_eq_true
abbrev se:=@List.cons_append
abbrev sf:=@Nat.mod_eq_of_lt
abbrev si:=@Go.mem_ready
abbrev sj:=@List.pairwise_iff_getElem
abbrev sm:=@Array.setIfInBounds_comm
abbrev sn:=@List.sum_cons
abbrev sq:=@Int.natCast_mul
abbrev su:=@Nat.div_le_self
abbrev sv:=@Go.run_append_grow
abbrev sw:=@Int.add_sub_cancel
abbrev sx:=@Go.grownCap_le_maxLen
abbrev sy:=@Array.getElem?_eq_none
abbrev tA:=@List.drop_of_length_le
abbrev tB:=@List.mapM_cons
abbrev tC:=@Nat.add_zero
abbrev tD:=@Go.growslice_fits
abbrev tE:=@List.getElem?_toArray
abbrev tF:=@Array.toList_map
abbrev tG:=@List.mem_toArray
abbrev tH:=@Array.mem_toList_iff
abbrev tI:=@List.getElem?_mapIdx
abbrev tJ:=@Go.getD_set_ne
abbrev tK:=@Bool.or_eq_true
abbrev tL:=@Nat.min_eq_left
abbrev tM:=@List.length_pos_iff
abbrev tN:=@List.take_set_of_le
abbrev tO:=@Nat.mul_comm
abbrev tP:=@Nat.zero_mul
abbrev tQ:=@Bool.and_assoc
abbrev tR:=@Int.natCast_nonneg
abbrev tS:=@List.map_filterMap
abbrev tT:=@List.map_replicate
abbrev tU:=@List.set_cons_zero
abbrev tV:=@List.take_zero
abbrev tW:=@of_decide_eq_false
abbrev tX:=@Function.comp_def
abbrev tY:=@Nat.le_zero
abbrev tZ:=@Go.setRow_heap
abbrev ta:=@Bool.true_and
abbrev tc:=@List.cons.inj
abbrev td:=@Go.wp_region_any
abbrev te:=@Bool.not_eq_true
abbrev th:=@List.map_toArray
abbrev tj:=@Go.Region.free_spec
abbrev tk:=@List.all_map
abbrev tl:=@Nat.le_trans
abbrev tm:=@Nat.sub_zero
abbrev tn:=@Bool.eq_iff_iff
abbrev tp:=@List.length_set
abbrev tq:=@Option.map_none
abbrev tu:=@Go.wp_mono
theorem tr:0+3<=3:=by decide
theorem tv:0+2<=2:=by decide
theorem tw:0<=0:=by decide
theorem tx:0+5<=5:=by decide
theorem tz:0+2<=3:=by decide
theorem uA:2<=6:=by decide
theorem uB:0+1<=2:=by decide
theorem uC:0+1<=1:=by decide
theorem uD:0+0<=1:=by decide
theorem uF:2<=3:=by decide
theorem uG:2<=5:=by decide
theorem uH:2<=4:=by decide
theorem uI:2<=2:=by decide
theorem uJ:2+3<=5:=by decide
theorem uK:1<=4:=by decide
theorem uL:0<=1:=by decide
theorem uM:0+0<=2:=by decide
theorem uN:1<=2:=by decide
theorem uO:2<=7:=by decide
theorem uP:0+1<=5:=by decide
theorem uQ:0+0<=3:=by decide
theorem uR (i:Nat):((i:Int)+1)=((i+1:Nat):Int):=by omega
theorem uS:((0:Nat):Int)=0:=rfl
set_option linter.all false
namespace Go.Abs
open Go
theorem AA {α:Sort _}{a:α}:a=a:=rfl
inductive AV where
 | FZ
 | un
 | int (k:IntKind) (n:Int)
 | bool (b:Bool)
 | str (s:ByteArray)
 | zc
 | R3
 | Rl
 | sl (xs:List (List AV))
 | own (id gen len:Nat)
 | ptr (id gen i off:Nat)
 | CT (x:List AV) (off:Nat)
 | fn (f:FuncId) (vp:List AV)
 | agg (cs:List AV)
 | Dv (vs:List AV)
 | dv (el size:Nat) (xs:List (List AV))
 | ex (v:Value)
 | bd (f:FuncId) (first:List AV)
 deriving Inhabited
abbrev i64 (n:Int):AV:=.int .i64 n
def AV.leaf:AV->Bool
 | .FZ|.un|.agg _|.Dv _|.dv ..=>false
 | _=>true
def AV.kept:AV->Bool
 | .dv ..=>true
 | c=>c.leaf
theorem Du {c:AV}(h:c.leaf=true):c.kept=true:=by cases c<;>simp_all [AV.kept,AV.leaf]
structure Row where
 gen:Nat
 elem:TypeId
 size:Nat
 xs:List (List AV)
structure Own where
 row:Row
 GB:Option Nat
 cap:Nat
 more:Nat->Prop
def Own.owns (o:Own)(b:Nat):Prop:=o.GB=some b∨o.more b
def Ga:Nat->Prop:=λ_=>False
mutual
def Ac (F:Nat->Prop)(w:World):List Own->AV->Value->Prop
 | _,.FZ,_=>True
 | _,.un,v=>v=undef
 | _,.int k n,v=>v=.int k n
 | _,.bool b,v=>v=.bool b
 | _,.str s,v=>v=.string s
 | _,.zc,v=>∃a,v=.slice a 0 0
 | _,.R3,v=>v=.pointer none
 | _,.Rl,v=>v=.nilFunc
 | _,.sl xs,v=>∃a cap,v=.slice a xs.length cap/\xs.length<=cap/\(xs≠[]->∃b o size,a=some ⟨b,o,none⟩/\F b/\(∀x∈xs,x.length=size)/\Ih F w xs b o)
 | os,.own id g n,v=>∃o,os[id]?=some o/\g<=o.row.gen/\(∃a l c,v=.slice a l c)/\(o.row.gen=g->n<=o.row.xs.length/\((o.GB=none/\∃a,v=.slice a n 0)∨∃b,o.GB=some b/\v=.slice (some ⟨b,(o.row.xs.length-n)*o.row.size,none⟩) n (o.cap-(o.row.xs.length-n))))
 | os,.ptr id g i off,v=>∃o,os[id]?=some o/\g<=o.row.gen/\(∃a,v=.pointer a)/\(o.row.gen=g->i<o.row.xs.length/\off<=o.row.size/\∃b,o.GB=some b/\v=.pointer (some ⟨b,i*o.row.size+off,none⟩))
 | _,.CT x off,v=>∃b o,v=.pointer (some ⟨b,o+off,none⟩)/\F b/\F3 F w x b o
 | os,.fn f vp,v=>∃us:List Value,v=.func (.func f) #[] us.toArray/\Bw F w os vp us
 | os,.agg cs,v=>∃us:List Value,v=.agg us.toArray/\Bw F w os cs us
 | os,.Dv vs,v=>∃us:List Value,v=.tuple us.toArray/\Bw F w os vs us
 | _,.dv _ _ _,v=>∃a l c,v=.slice a l c
 | _,.ex u,v=>v=u/\u.oneCell'=true
 | _,.bd f cs,v=>∃us:List Value,v=.func (.func f) us.toArray #[]/\Bw F w [] cs us
def Bw (F:Nat->Prop)(w:World):List Own->List AV->List Value->Prop
 | _,[],us=>us=[]
 | os,x::r,us=>∃u yO,us=u::yO/\Ac F w os x u/\Bw F w os r yO
def F3 (F:Nat->Prop)(w:World):List AV->Nat->Nat->Prop
 | [],_,_=>True
 | x::r,b,o=>(∃u,w.cell? ⟨b,o,none⟩=some u/\x.leaf=true/\Ac F w [] x u)/\F3 F w r b (o+1)
def Ih (F:Nat->Prop)(w:World):List (List AV)->Nat->Nat->Prop
 | [],_,_=>True
 | x::r,b,o=>F3 F w x b o/\Ih F w r b (o+x.length)
end
mutual
def FQ (S:Nat->Prop)(w:World):AV->Value->Prop
 | .dv el size xs,v=>0<size/\((xs=[]/\∃a,v=.slice a 0 0)∨∃b cap cur,v=.slice (some ⟨b,0,none⟩) xs.length cap/\xs.length<=cap/\cap<=maxLen/\S b/\
   w.heap[b]?=some (.cells cur el (0,0))/\cur.size=cap*size/\(∀x∈xs,x.length=size)/\Ob (λc=>S c/\c≠b) w xs cur 0)
 | .int k n,v=>v=.int k n
 | .bool b,v=>v=.bool b
 | .str s,v=>v=.string s
 | .zc,v=>∃a,v=.slice a 0 0
 | .R3,v=>v=.pointer none
 | .Rl,v=>v=.nilFunc
 | _,_=>False
def Ob (S:Nat->Prop)(w:World):List (List AV)->Array Value->Nat->Prop
 | [],_,_=>True
 | x::r,cur,o=>∃S1 S2:Nat->Prop,(∀b,S1 b->S b)/\(∀b,S2 b->S b)/\(∀b,S1 b->¬ S2 b)/\Ol S1 w x cur o/\Ob S2 w r cur (o+x.length)
def Ol (S:Nat->Prop)(w:World):List AV->Array Value->Nat->Prop
 | [],_,_=>True
 | x::r,cur,o=>∃S1 S2:Nat->Prop,(∀b,S1 b->S b)/\(∀b,S2 b->S b)/\(∀b,S1 b->¬ S2 b)/\(∃u,cur[o]?=some u/\FQ S1 w x u)/\Ol S2 w r cur (o+1)
end
def MW (w:World)(o:Own):Prop:=
 ∃D:Nat->Nat->Nat->Prop,(∀i j b,D i j b->o.more b)/\(∀i j i' j' b,D i j b->D i' j' b->i=i'/\j=j')/\
  ∀b,o.GB=some b->∀cur el l,w.heap[b]?=some (.cells cur el l)->∀(i:Nat) x (j:Nat) e s ys,o.row.xs[i]?=some x->x[j]?=some (.dv e s ys)->
   ∃u,cur[i*o.row.size+j]?=some u/\FQ (D i j) w (.dv e s ys) u
structure Pu (F:Nat->Prop) (w:World) (os:List Own) (o:Own):Prop where
 pos:0<o.row.size
 lens :∀x∈o.row.xs,x.length=o.row.size/\∀c∈x,c.kept=true
 none:o.GB=none->o.row.xs=[]/\o.cap=0
 some :∀b,o.GB=some b->¬ F b/\∃cur:Array Value,w.heap[b]?=some (.cells cur o.row.elem (0,0))/\cur.size=o.cap*o.row.size/\o.row.xs.length<=o.cap/\o.cap<=maxLen/\
  ∀i x,o.row.xs[i]?=some x->∀j c,x[j]?=some c->∃u,cur[i*o.row.size+j]?=some u/\Ac F w os c u
 mo :∀b,o.more b->¬ F b/\b<w.heap.size/\o.GB≠Option.some b
 deep:MW w o
theorem OM {o:Own}{n b:Nat}(h:n=o.row.xs.length):Value.slice (some ⟨b,(o.row.xs.length-n)*o.row.size,none⟩) n (o.cap-(o.row.xs.length-n))=.slice (some ⟨b,0,none⟩) n o.cap:=by
 subst h;simp
structure St where
 n:Nat
 env:Nat->AV
 st:List Row
def Dr (e:Nat->AV)(d:Nat)(v:AV):Nat->AV:=λk=>if k=d then v else e k
structure Rel (F:Nat->Prop) (os:List Own) (s:St) (a:Act) (w:World):Prop where
 st:os.map Own.row=s.st
 env :∀k,Ac F w os (s.env k) (a.tmps.getD k undef)
 size:a.tmps.size=s.n
 rows :∀(i:Nat) (o:Own),os[i]?=some o->Pu F w os o
 inj :∀(i j:Nat) (oi oj:Own) (b:Nat),os[i]?=some oi->os[j]?=some oj->oi.owns b->oj.owns b->i=j
 HO :∀b,F b->b<w.heap.size
 defers:a.defers=[]
structure Ext (F:Nat->Prop) (os:List Own) (w:World) (F':Nat->Prop) (os':List Own) (w':World) (k:Nat):Prop where
 sys:w'.os=w.os
 tape:w'.tape=w.tape
 output:w'.output=w.output
 size:w.heap.size<=w'.heap.size
 RI :∀b,F b->F' b
 KX :∀b,F b->w'.heap[b]?=w.heap[b]?
 other :∀b,b<w.heap.size->¬ F b->(∀o:Own,o∈os->¬ o.owns b)->w'.heap[b]?=w.heap[b]?/\¬ F' b/\∀o:Own,o∈os'->¬ o.owns b
 dA :∀(i:Nat) (o:Own),i<k->os[i]?=some o->∃o':Own,os'[i]?=some o'/\o.row.gen<=o'.row.gen/\o'.row.size=o.row.size/\(o'.row.gen=o.row.gen->o'.GB=o.GB/\o'.cap=o.cap/\o'.row.xs.length=o.row.xs.length)
theorem Ext.refl (F:Nat->Prop)(os:List Own)(w:World)(k:Nat):Ext F os w F os w k:=
 ⟨rfl,rfl,rfl,qU _,λ_ h=>h,λ_ _=>rfl,λ_ _ h1 h2=>⟨rfl,h1,h2⟩,λ_ o _ h=>⟨o,h,qU _,rfl,λ_=>⟨rfl,rfl,rfl⟩⟩⟩
theorem Ext.trans {F F' F'':Nat->Prop}{os os' os'':List Own}{w w' w'':World}{k:Nat}(h:Ext F os w F' os' w' k)(g:Ext F' os' w' F'' os'' w'' k):Ext F os w F'' os'' w'' k:=by
 refine⟨g.sys.trans h.sys,g.tape.trans h.tape,g.output.trans h.output,tl h.size g.size,λb hb=>g.RI b (h.RI b hb),
  λb hb=>(g.KX b (h.RI b hb)).trans (h.KX b hb),λb hb h1 h2=>?_,λi o hi ho=>?_⟩
 ·obtain⟨e1,n1,m1⟩:=h.other b hb h1 h2;obtain⟨e2,n2,m2⟩:=g.other b (rW hb h.size) n1 m1;exact⟨e2.trans e1,n2,m2⟩
 ·obtain⟨o',vc,l1,s1,p1⟩:=h.dA i o hi ho;obtain⟨o'',ho'',l2,s2,p2⟩:=g.dA i o' hi vc;refine⟨o'',ho'',tl l1 l2,s2.trans s1,λe=>?_⟩;have e1:o'.row.gen=o.row.gen:=by omega
  have e2:o''.row.gen=o'.row.gen:=by omega
  obtain⟨a1,a2,a3⟩:=p1 e1;obtain⟨b1,b2,b3⟩:=p2 e2;exact⟨b1.trans a1,b2.trans a2,b3.trans a3⟩
mutual
theorem Ds {F F':Nat->Prop}{w w':World}(hF :∀b,F b->F' b)(hw :∀b,F b->w'.heap[b]?=w.heap[b]?):
  ∀(os os':List Own) (_ :∀(i:Nat) (o:Own),os[i]?=some o->∃o':Own,os'[i]?=some o'/\o.row.gen<=o'.row.gen/\o'.row.size=o.row.size/\(o'.row.gen=o.row.gen->o'.GB=o.GB/\o'.cap=o.cap/\o'.row.xs.length=o.row.xs.length)) (x:AV) (v:Value),Ac F w os x v->Ac F' w' os' x v
 | _,_,_,.FZ,_,_=>by simp[Ac]
 | _,_,_,.un,_,h=>by simpa [Ac] using h
 | _,_,_,.int _ _,_,h=>by simpa [Ac] using h
 | _,_,_,.bool _,_,h=>by simpa [Ac] using h
 | _,_,_,.str _,_,h=>by simpa [Ac] using h
 | _,_,_,.zc,_,h=>by simpa [Ac] using h
 | _,_,_,.R3,_,h=>by simpa [Ac] using h
 | _,_,_,.Rl,_,h=>by simpa [Ac] using h
 | _,_,_,.dv ..,_,h=>by simpa [Ac] using h
 | _,_,_,.ex _,_,h=>by simpa [Ac] using h
 | _,_,_,.sl xs,v,h=>by
  simp only[Ac]at h⊢;obtain⟨a,cap,hv,yU,h2⟩:=h;refine⟨a,cap,hv,yU,λvZ=>?_⟩;obtain⟨b,o,size,ha,hb,hs,hr⟩:=h2 vZ;exact⟨b,o,size,ha,hF b hb,hs,TO hF hw xs b o hb hr⟩
 | os,os',vq,.own id g n,v,h=>by
  simp only[Ac]at h⊢;obtain⟨o,ho,hle,hsh,h1⟩:=h;obtain⟨o',vc,yk,zw,zi⟩:=vq id o ho;refine⟨o',vc,by omega,hsh,λe=>?_⟩;obtain⟨e1,e2,e3⟩:=zi (by omega);obtain⟨h2,h3⟩:=h1 (by omega);refine⟨by omega,?_⟩;rw[e1,e2,e3,zw];exact h3
 | os,os',vq,.ptr id g i off,v,h=>by
  simp only[Ac]at h⊢;obtain⟨o,ho,hle,hsh,h1⟩:=h;obtain⟨o',vc,yk,zw,zi⟩:=vq id o ho;refine⟨o',vc,by omega,hsh,λe=>?_⟩;obtain⟨e1,e2,e3⟩:=zi (by omega);obtain⟨h2,h3,h4⟩:=h1 (by omega);refine⟨by omega,by omega,?_⟩;rw[e1,zw];exact h4
 | _,_,_,.CT x off,v,h=>by
  simp only[Ac]at h⊢;obtain⟨b,o,hv,hb,hr⟩:=h;exact⟨b,o,hv,hF b hb,OZ hF hw x b o hb hr⟩
 | os,os',vq,.fn f vp,v,h=>by
  simp only[Ac]at h⊢;obtain⟨us,hv,hr⟩:=h;exact⟨us,hv,Ox hF hw os os' vq vp us hr⟩
 | os,os',vq,.agg cs,v,h=>by
  simp only[Ac]at h⊢;obtain⟨us,hv,hr⟩:=h;exact⟨us,hv,Ox hF hw os os' vq cs us hr⟩
 | _,_,_,.bd f cs,v,h=>by
  simp only[Ac]at h⊢;obtain⟨us,hv,hr⟩:=h;exact⟨us,hv,Ox hF hw [] [] (by simp) cs us hr⟩
 | os,os',vq,.Dv cs,v,h=>by
  simp only[Ac]at h⊢;obtain⟨us,hv,hr⟩:=h;exact⟨us,hv,Ox hF hw os os' vq cs us hr⟩
theorem Ox {F F':Nat->Prop}{w w':World}(hF :∀b,F b->F' b)(hw :∀b,F b->w'.heap[b]?=w.heap[b]?):
  ∀(os os':List Own) (_ :∀(i:Nat) (o:Own),os[i]?=some o->∃o':Own,os'[i]?=some o'/\o.row.gen<=o'.row.gen/\o'.row.size=o.row.size/\(o'.row.gen=o.row.gen->o'.GB=o.GB/\o'.cap=o.cap/\o'.row.xs.length=o.row.xs.length)) (xs:List AV) (us:List Value),Bw F w os xs us->Bw F' w' os' xs us
 | _,_,_,[],_,h=>by simpa [Bw] using h
 | os,os',vq,x::r,us,h=>by
  simp only[Bw]at h⊢;obtain⟨u,yO,hu,h1,h2⟩:=h;exact⟨u,yO,hu,Ds hF hw os os' vq x u h1,Ox hF hw os os' vq r yO h2⟩
theorem OZ {F F':Nat->Prop}{w w':World}(hF :∀b,F b->F' b)(hw :∀b,F b->w'.heap[b]?=w.heap[b]?):
  ∀(xs:List AV) (b o:Nat),F b->F3 F w xs b o->F3 F' w' xs b o
 | [],_,_,_,_=>by simp[F3]
 | x::r,b,o,hb,h=>by
  simp only[F3]at h⊢;obtain⟨⟨u,hu,hl,h1⟩,h2⟩:=h;refine⟨⟨u,?_,hl,Ds hF hw [] [] (by simp) x u h1⟩,OZ hF hw r b (o+1) hb h2⟩;rw[<- hu];exact sP (hw b hb)
theorem TO {F F':Nat->Prop}{w w':World}(hF :∀b,F b->F' b)(hw :∀b,F b->w'.heap[b]?=w.heap[b]?):
  ∀(xs:List (List AV)) (b o:Nat),F b->Ih F w xs b o->Ih F' w' xs b o
 | [],_,_,_,_=>by simp[Ih]
 | x::r,b,o,hb,h=>by
  simp only[Ih]at h⊢;exact⟨OZ hF hw x b o hb h.1,TO hF hw r b (o+x.length) hb h.2⟩
end
mutual
theorem Og {S S':Nat->Prop}{w w':World}(hS :∀b,S b->S' b)(hw :∀b,S b->w'.heap[b]?=w.heap[b]?):∀(x:AV) (v:Value),FQ S w x v->FQ S' w' x v
 | .dv el size xs,v,h=>by
  simp only[FQ]at h⊢;obtain⟨hp,h⟩:=h;refine⟨hp,?_⟩;rcases h with h|⟨b,cap,cur,h1,h2,h3,h4,h5,h6,h7,h8⟩
  ·exact .inl h
  ·refine .inr ⟨b,cap,cur,h1,h2,h3,hS b h4,by rw[hw b h4];exact h5,h6,h7,Rx (S:=λc=>S c/\c≠b) (λc hc=>⟨hS c hc.1,hc.2⟩) (λc hc=>hw c hc.1) xs cur 0 h8⟩
 | .int _ _,_,h=>by simpa [FQ] using h
 | .bool _,_,h=>by simpa [FQ] using h
 | .str _,_,h=>by simpa [FQ] using h
 | .zc,_,h=>by simpa [FQ] using h
 | .R3,_,h=>by simpa [FQ] using h
 | .Rl,_,h=>by simpa [FQ] using h
 | .FZ,_,h=>by simp[FQ]at h
 | .un,_,h=>by simp[FQ]at h
 | .sl _,_,h=>by simp[FQ]at h
 | .own ..,_,h=>by simp[FQ]at h
 | .ptr ..,_,h=>by simp[FQ]at h
 | .CT ..,_,h=>by simp[FQ]at h
 | .fn ..,_,h=>by simp[FQ]at h
 | .agg _,_,h=>by simp[FQ]at h
 | .Dv _,_,h=>by simp[FQ]at h
theorem Rx {S S':Nat->Prop}{w w':World}(hS :∀b,S b->S' b)(hw :∀b,S b->w'.heap[b]?=w.heap[b]?):∀(xs:List (List AV)) (cur:Array Value) (o:Nat),Ob S w xs cur o->Ob S' w' xs cur o
 | [],_,_,_=>by simp[Ob]
 | x::r,cur,o,h=>by
  simp only[Ob]at h⊢;obtain⟨S1,S2,h1,h2,h3,h4,h5⟩:=h;exact⟨S1,S2,λb hb=>hS b (h1 b hb),λb hb=>hS b (h2 b hb),h3,V7 (λ_ h=>h) (λb hb=>hw b (h1 b hb)) x cur o h4,Rx (λ_ h=>h) (λb hb=>hw b (h2 b hb)) r cur _ h5⟩
theorem V7 {S S':Nat->Prop}{w w':World}(hS :∀b,S b->S' b)(hw :∀b,S b->w'.heap[b]?=w.heap[b]?):∀(xs:List AV) (cur:Array Value) (o:Nat),Ol S w xs cur o->Ol S' w' xs cur o
 | [],_,_,_=>by simp[Ol]
 | x::r,cur,o,h=>by
  simp only[Ol]at h⊢;obtain⟨S1,S2,h1,h2,h3,⟨u,h4,h5⟩,h6⟩:=h;exact⟨S1,S2,λb hb=>hS b (h1 b hb),λb hb=>hS b (h2 b hb),h3,⟨u,h4,Og (λ_ h=>h) (λb hb=>hw b (h1 b hb)) x u h5⟩,V7 (λ_ h=>h) (λb hb=>hw b (h2 b hb)) r cur _ h6⟩
end
theorem E7 {w:World}{o:Own}(h :∀x∈o.row.xs,∀c∈x,c.leaf=true):MW w o:=
 ⟨λ_ _ _=>False,λ_ _ _ h=>h.elim,λ_ _ _ _ _ h=>h.elim,λ_ _ _ _ _ _ i x j e s ys hx hc=>by
  have:=h x (pt hx) _ (pt hc);simp[AV.leaf]at this⟩
theorem MW.keep {w w':World}{o o':Own}(h:MW w o)(hb:o'.GB=o.GB)(hm :∀b,o.more b->o'.more b)(hs:o'.row.size=o.row.size)
  (hw :∀b,o.owns b->w'.heap[b]?=w.heap[b]?)
  (hr :∀(i:Nat) x (j:Nat) e s ys,o'.row.xs[i]?=some x->x[j]?=some (.dv e s ys)->∃x0,o.row.xs[i]?=some x0/\x0[j]?=some (.dv e s ys)):MW w' o':=by
 obtain⟨D,h1,h2,h3⟩:=h;refine⟨D,λi j b hb=>hm b (h1 i j b hb),h2,λb xp cur el l vU i x j e s ys hx hc=>?_⟩;rw[hb]at xp;rw[hw b (.inl xp)]at vU;obtain⟨x0,hx0,wZ⟩:=hr i x j e s ys hx hc;obtain⟨u,e1,e2⟩:=h3 b xp cur el l vU i x0 j e s ys hx0 wZ;exact⟨u,by rw[hs];exact e1,Og (λ_ h=>h) (λc hc=>hw c (.inr (h1 i j c hc))) _ u e2⟩
theorem MW.mapped {w:World}{o o':Own}(f:AV->AV)(hf :∀c e s ys,f c=.dv e s ys->c=.dv e s ys)(h:MW w o)(hb:o'.GB=o.GB)(hm:o'.more=o.more)(hs:o'.row.size=o.row.size)
  (hx:o'.row.xs=o.row.xs.map (·.map f)):MW w o':=by
 refine h.keep hb (λb hb=>by rw[hm];exact hb) hs (λ_ _=>rfl) λi x j e s ys ym hc=>?_;rw[hx,qA,qB]at ym;obtain⟨y,hy,rfl⟩:=ym;rw[qA,qB]at hc;obtain⟨d,hd,hc⟩:=hc;exact⟨y,hy,by rw[hd,hf _ _ _ _ hc]⟩
theorem Pu.lt {F:Nat->Prop}{w:World}{os:List Own}{o:Own}(h:Pu F w os o){b:Nat}(hb:o.owns b):b<w.heap.size:=by
 rcases hb with hb|hb
 ·obtain⟨_,cur,vU,_⟩:=h.some b hb;exact (qv.1 vU).1
 ·exact (h.mo b hb).2.1
theorem Pu.nF {F:Nat->Prop}{w:World}{os:List Own}{o:Own}(h:Pu F w os o){b:Nat}(hb:o.owns b):¬ F b:=by
 rcases hb with hb|hb
 ·exact (h.some b hb).1
 ·exact (h.mo b hb).1
end Go.Abs
