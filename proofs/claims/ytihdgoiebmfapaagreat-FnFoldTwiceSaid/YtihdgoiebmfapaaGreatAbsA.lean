import Derived.WalkKit
import Derived.Below
import Derived.OwnWalk
import Derived.Orders
import Derived.StillTail
namespace Go.Abs
open Go
theorem _root_.nj:0+3<=3:=by decide
theorem _root_.nk:0+2<=2:=by decide
theorem _root_.nm:0+5<=5:=by decide
theorem _root_.np:0<=0:=by decide
theorem _root_.nq:0+1<=1:=by decide
theorem _root_.nr:1<=2:=by decide
theorem _root_.ns:0+1<=2:=by decide
theorem _root_.nt:1<=4:=by decide
theorem _root_.nv:2<=4:=by decide
theorem _root_.nw:2+3<=5:=by decide
theorem _root_.nx:0+2<=3:=by decide
theorem _root_.ny:2<=5:=by decide
theorem _root_.nz:0<=2:=by decide
theorem _root_.oB:1+1<=2:=by decide
theorem _root_.oC:1<=3:=by decide
theorem _root_.oD:1<=5:=by decide
theorem _root_.oE:0<=1:=by decide
theorem _root_.oF:2<=6:=by decide
theorem _root_.oG:0+0<=1:=by decide
theorem _root_.oH:1<=6:=by decide
theorem _root_.oI:1<=1:=by decide
theorem _root_.oJ:2<=3:=by decide
theorem _root_.oK:2+1<=3:=by decide
theorem _root_.oL:1<=7:=by decide
theorem _root_.oM:0+0<=2:=by decide
theorem _root_.oN:2<=2:=by decide
theorem _root_.oO:0+1<=5:=by decide
abbrev _root_.jd:=@Option.bind_some
abbrev _root_.je:=@List.mem_of_getElem?
abbrev _root_.jf:=@trivial
abbrev _root_.jg:=@List.getElem?_eq_some_iff
abbrev _root_.jh:=@Option.some.injEq
abbrev _root_.ji:=@List.getElem?_map
abbrev _root_.jk:=@Bool.false_eq_true
abbrev _root_.jl:=@List.getElem?_eq_getElem
abbrev _root_.jm:=@if_pos
abbrev _root_.jn:=@if_neg
abbrev _root_.jo:=@Option.map_eq_some_iff
abbrev _root_.jq:=@List.all_eq_true
abbrev _root_.jr:=@List.getElem?_append_left
abbrev _root_.js:=@List.mem_cons
abbrev _root_.jt:=@List.getElem?_append_right
abbrev _root_.ju:=@List.getElem?_set_self
abbrev _root_.jv:=@Nat.le_refl
abbrev _root_.jw:=@decide_eq_true_eq
abbrev _root_.jx:=@decide_true
abbrev _root_.jy:=@List.mem_singleton
abbrev _root_.jz:=@List.mem_iff_getElem?
abbrev _root_.kA:=@decide_false
abbrev _root_.kB:=@List.length_map
abbrev _root_.kC:=@List.mem_map
abbrev _root_.kD:=@List.length_append
abbrev _root_.kE:=@Nat.zero_le
abbrev _root_.kF:=@Bool.and_eq_true
abbrev _root_.kG:=@List.getElem?_set_ne
abbrev _root_.kH:=@if_false
abbrev _root_.kI:=@List.map_cons
abbrev _root_.kJ:=@List.mem_append
abbrev _root_.kK:=@List.getElem?_cons_zero
abbrev _root_.kL:=@List.getElem?_take
abbrev _root_.kM:=@List.map_congr_left
abbrev _root_.kN:=@List.not_mem_nil
abbrev _root_.kO:=@if_true
abbrev _root_.kP:=@Nat.add_mul
abbrev _root_.kQ:=@List.length_cons
abbrev _root_.kR:=@Array.getElem?_eq_some_iff
abbrev _root_.kS:=@Nat.mul_le_mul_right
abbrev _root_.kT:=@List.getElem?_cons_succ
abbrev _root_.kU:=@Option.bind_eq_some_iff
abbrev _root_.kV:=@Go.Result.andThen_ok
abbrev _root_.kW:=@List.getElem?_drop
abbrev _root_.kX:=@Go.Sem.run_bind
abbrev _root_.kY:=@List.take_of_length_le
abbrev _root_.kZ:=@Int.eq_ofNat_of_zero_le
abbrev _root_.ka:=@List.eq_nil_of_length_eq_zero
abbrev _root_.kb:=@Option.map_some
abbrev _root_.ke:=@Nat.lt_of_lt_of_le
abbrev _root_.kf:=@congrArg
abbrev _root_.kg:=@Go.run_underlying
abbrev _root_.ko:=@List.mem_append_left
abbrev _root_.kp:=@List.mem_or_eq_of_mem_set
abbrev _root_.kq:=@List.getElem?_eq_none
abbrev _root_.kr:=@List.mem_cons_of_mem
abbrev _root_.kt:=@Nat.zero_add
abbrev _root_.ku:=@Go.Sem.run_pure
abbrev _root_.kv:=@List.mem_of_mem_take
abbrev _root_.kx:=@or_false
abbrev _root_.ky:=@List.append_nil
abbrev _root_.kz:=@List.mem_filterMap
abbrev _root_.lA:=@Array.getElem?_eq_getElem
abbrev _root_.lB:=@of_decide_eq_true
abbrev _root_.lC:=@Array.getD_eq_getD_getElem?
abbrev _root_.lD:=@List.mem_map_of_mem
abbrev _root_.lE:=@List.length_nil
abbrev _root_.lF:=@List.take_zero
abbrev _root_.lG:=@List.append_assoc
abbrev _root_.lH:=@Nat.lt_trichotomy
abbrev _root_.lI:=@List.map_id
abbrev _root_.lJ:=@List.map_append
abbrev _root_.lK:=@Ne.symm
abbrev _root_.lL:=@Bool.not_true
abbrev _root_.lM:=@List.take_length
abbrev _root_.lN:=@List.getElem?_range
abbrev _root_.lO:=@List.getElem?_zipWith
abbrev _root_.lP:=@Array.getElem?_append_left
abbrev _root_.lQ:=@List.mem_of_mem_drop
abbrev _root_.lR:=@List.nil_append
abbrev _root_.lS:=@Nat.add_assoc
abbrev _root_.lT:=@Option.some.inj
abbrev _root_.lU:=@List.map_map
abbrev _root_.lV:=@List.map_nil
abbrev _root_.lW:=@Nat.sub_self
abbrev _root_.lX:=@List.filterMap_cons
abbrev _root_.lY:=@Int.toNat_natCast
abbrev _root_.lZ:=@Nat.eq_of_beq_eq_true
abbrev _root_.la:=@Nat.lt_or_ge
abbrev _root_.ld:=@List.mem_cons_self
abbrev _root_.lg:=@Option.getD_some
abbrev _root_.lh:=@List.findIdx?_eq_some_iff_getElem
abbrev _root_.lj:=@List.drop_zero
abbrev _root_.lk:=@List.ext_getElem?
abbrev _root_.ll:=@List.getD_eq_getElem?_getD
abbrev _root_.ln:=@List.map_set
abbrev _root_.lp:=@List.mem_range
abbrev _root_.lq:=@Array.getElem?_toList
abbrev _root_.lr:=@Nat.le_of_ble_eq_true
abbrev _root_.lu:=@List.length_take
abbrev _root_.lv:=@Nat.eq_zero_or_pos
abbrev _root_.lx:=@List.all_cons
abbrev _root_.ly:=@Array.length_toList
abbrev _root_.lz:=@List.drop_eq_nil_of_le
abbrev _root_.mA:=@Nat.add_zero
abbrev _root_.mB:=@Nat.le_trans
abbrev _root_.mC:=@Option.elim_some
abbrev _root_.mD:=@List.mem_append_right
abbrev _root_.mE:=@List.getElem?_eq_none_iff
abbrev _root_.mF:=@Go.World.cell?_of_block
abbrev _root_.mG:=@List.any_eq_true
abbrev _root_.mH:=@List.getElem_mem
abbrev _root_.mI:=@List.length_drop
abbrev _root_.mJ:=@decide_eq_false_iff_not
abbrev _root_.mK:=@Go.wp_mono
abbrev _root_.mL:=@List.cons.injEq
abbrev _root_.mM:=@List.sum_cons
abbrev _root_.mN:=@List.getElem?_toArray
abbrev _root_.mO:=@List.size_toArray
abbrev _root_.mP:=@Array.ext'
abbrev _root_.mQ:=@Array.toArray_toList
abbrev _root_.mR:=@Go.heap_alloc_old
abbrev _root_.mS:=@Go.ready_mono
abbrev _root_.mT:=@Nat.mod_eq_of_lt
abbrev _root_.mU:=@decide_eq_decide
abbrev _root_.mV:=@Go.mem_ready
abbrev _root_.mW:=@List.pairwise_iff_getElem
abbrev _root_.mX:=@List.map_eq_nil_iff
abbrev _root_.mY:=@Array.setIfInBounds_comm
abbrev _root_.mZ:=@Nat.div_le_self
abbrev _root_.ma:=@Nat.min_eq_left
abbrev _root_.mc:=@Go.run_append_grow
abbrev _root_.me:=@Int.natCast_nonneg
abbrev _root_.mf:=@List.set_cons_zero
abbrev _root_.mg:=@decide_eq_true_iff
abbrev _root_.mh:=@Go.grownCap_le_maxLen
abbrev _root_.ml:=@Go.cell_of_row
abbrev _root_.mm:=@Array.getElem?_eq_none
abbrev _root_.mn:=@List.drop_of_length_le
abbrev _root_.mq:=@List.mapM_cons
abbrev _root_.mr:=@Go.growslice_fits
abbrev _root_.mu:=@List.length_replicate
abbrev _root_.mw:=@List.set_append_right
abbrev _root_.my:=@List.set_getElem_self
abbrev _root_.mz:=@Bool.true_and
abbrev _root_.nA:=@Prod.mk.injEq
abbrev _root_.nB:=@Array.mem_toList_iff
abbrev _root_.nC:=@List.getElem?_mapIdx
abbrev _root_.nD:=@Go.getD_set_ne
abbrev _root_.nE:=@List.length_pos_iff
abbrev _root_.nG:=@List.take_set_of_le
abbrev _root_.nH:=@Nat.sub_zero
abbrev _root_.nI:=@Nat.zero_mul
abbrev _root_.nJ:=@Go.wpIn_mono
abbrev _root_.nK:=@List.map_filterMap
abbrev _root_.nL:=@List.map_replicate
abbrev _root_.nM:=@List.mem_replicate
abbrev _root_.nN:=@Nat.mul_le_mul
abbrev _root_.nO:=@of_decide_eq_false
abbrev _root_.nP:=@Function.comp_def
abbrev _root_.nQ:=@List.length_range
abbrev _root_.nR:=@Nat.le_zero
abbrev _root_.nS:=@Go.setRow_heap
abbrev _root_.nT:=@Bool.and_self
abbrev _root_.nU:=@Go.wp_region_any
abbrev _root_.nV:=@Array.toList_map
abbrev _root_.nW:=@Bool.not_eq_true
abbrev _root_.nX:=@List.cons_append
abbrev _root_.nY:=@List.drop_length
abbrev _root_.nZ:=@List.map_toArray
abbrev _root_.na:=@List.mem_toArray
abbrev _root_.nb:=@Go.Region.free_spec
abbrev _root_.nf:=@Nat.mul_comm
abbrev _root_.ng:=@Int.natCast_mul
abbrev _root_.nh:=@List.length_set
abbrev _root_.ni:=@Option.map_none
theorem AA {α:Sort _}{a:α}:a=a:=rfl
inductive AV where
 | E2
 | un
 | int (k:IntKind) (n:Int)
 | bool (b:Bool)
 | str (s:ByteArray)
 | zc
 | QX
 | Qc
 | sl (xs:List (List AV))
 | own (id gen len:Nat)
 | ptr (id gen i off:Nat)
 | Bh (x:List AV) (off:Nat)
 | fn (f:FuncId) (caps:List AV)
 | agg (cs:List AV)
 | Dw (vs:List AV)
 | dv (el size:Nat) (xs:List (List AV))
 deriving Inhabited
abbrev i64 (n:Int):AV:=.int .i64 n
def AV.leaf:AV->Bool
 | .E2|.un|.agg _|.Dw _|.dv ..=>false
 | _=>true
def AV.kept:AV->Bool
 | .dv ..=>true
 | c=>c.leaf
theorem D0 {c:AV}(h:c.leaf=true):c.kept=true:=by cases c<;>simp_all [AV.kept,AV.leaf]
structure Row where
 gen:Nat
 elem:TypeId
 size:Nat
 xs:List (List AV)
structure Own where
 row:Row
 Fe:Option Nat
 cap:Nat
 more:Nat->Prop
def Own.owns (o:Own)(b:Nat):Prop:=o.Fe=some b∨o.more b
def FW:Nat->Prop:=λ_=>False
mutual
def Ae (F:Nat->Prop)(w:World):List Own->AV->Value->Prop
 | _,.E2,_=>True
 | _,.un,v=>v=undef
 | _,.int k n,v=>v=.int k n
 | _,.bool b,v=>v=.bool b
 | _,.str s,v=>v=.string s
 | _,.zc,v=>∃a,v=.slice a 0 0
 | _,.QX,v=>v=.pointer none
 | _,.Qc,v=>v=.nilFunc
 | _,.sl xs,v=>∃a cap,v=.slice a xs.length cap/\xs.length<=cap/\(xs≠[]->∃b o size,a=some ⟨b,o,none⟩/\F b/\(∀x∈xs,x.length=size)/\HK F w xs b o)
 | os,.own id g n,v=>∃o,os[id]?=some o/\g<=o.row.gen/\(∃a l c,v=.slice a l c)/\(o.row.gen=g->n<=o.row.xs.length/\((o.Fe=none/\∃a,v=.slice a n 0)∨∃b,o.Fe=some b/\v=.slice (some ⟨b,(o.row.xs.length-n)*o.row.size,none⟩) n (o.cap-(o.row.xs.length-n))))
 | os,.ptr id g i off,v=>∃o,os[id]?=some o/\g<=o.row.gen/\(∃a,v=.pointer a)/\(o.row.gen=g->i<o.row.xs.length/\off<=o.row.size/\∃b,o.Fe=some b/\v=.pointer (some ⟨b,i*o.row.size+off,none⟩))
 | _,.Bh x off,v=>∃b o,v=.pointer (some ⟨b,o+off,none⟩)/\F b/\FB F w x b o
 | os,.fn f caps,v=>∃us:List Value,v=.func (.func f) #[] us.toArray/\Br F w os caps us
 | os,.agg cs,v=>∃us:List Value,v=.agg us.toArray/\Br F w os cs us
 | os,.Dw vs,v=>∃us:List Value,v=.tuple us.toArray/\Br F w os vs us
 | _,.dv _ _ _,v=>∃a l c,v=.slice a l c
def Br (F:Nat->Prop)(w:World):List Own->List AV->List Value->Prop
 | _,[],us=>us=[]
 | os,x::r,us=>∃u us',us=u::us'/\Ae F w os x u/\Br F w os r us'
def FB (F:Nat->Prop)(w:World):List AV->Nat->Nat->Prop
 | [],_,_=>True
 | x::r,b,o=>(∃u,w.cell? ⟨b,o,none⟩=some u/\x.leaf=true/\Ae F w [] x u)/\FB F w r b (o+1)
def HK (F:Nat->Prop)(w:World):List (List AV)->Nat->Nat->Prop
 | [],_,_=>True
 | x::r,b,o=>FB F w x b o/\HK F w r b (o+x.length)
end
mutual
def EU (S:Nat->Prop)(w:World):AV->Value->Prop
 | .dv el size xs,v=>0<size/\((xs=[]/\∃a,v=.slice a 0 0)∨∃b cap cur,v=.slice (some ⟨b,0,none⟩) xs.length cap/\xs.length<=cap/\cap<=maxLen/\S b/\
   w.heap[b]?=some (.cells cur el (0,0))/\cur.size=cap*size/\(∀x∈xs,x.length=size)/\Kg (λc=>S c/\c≠b) w xs cur 0)
 | .int k n,v=>v=.int k n
 | .bool b,v=>v=.bool b
 | .str s,v=>v=.string s
 | .zc,v=>∃a,v=.slice a 0 0
 | .QX,v=>v=.pointer none
 | .Qc,v=>v=.nilFunc
 | _,_=>False
def Kg (S:Nat->Prop)(w:World):List (List AV)->Array Value->Nat->Prop
 | [],_,_=>True
 | x::r,cur,o=>∃S1 S2:Nat->Prop,(∀b,S1 b->S b)/\(∀b,S2 b->S b)/\(∀b,S1 b->¬ S2 b)/\Kd S1 w x cur o/\Kg S2 w r cur (o+x.length)
def Kd (S:Nat->Prop)(w:World):List AV->Array Value->Nat->Prop
 | [],_,_=>True
 | x::r,cur,o=>∃S1 S2:Nat->Prop,(∀b,S1 b->S b)/\(∀b,S2 b->S b)/\(∀b,S1 b->¬ S2 b)/\(∃u,cur[o]?=some u/\EU S1 w x u)/\Kd S2 w r cur (o+1)
end
def KO (w:World)(o:Own):Prop:=
 ∃D:Nat->Nat->Nat->Prop,(∀i j b,D i j b->o.more b)/\(∀i j i' j' b,D i j b->D i' j' b->i=i'/\j=j')/\
  ∀b,o.Fe=some b->∀cur el l,w.heap[b]?=some (.cells cur el l)->∀(i:Nat) x (j:Nat) e s ys,o.row.xs[i]?=some x->x[j]?=some (.dv e s ys)->
   ∃u,cur[i*o.row.size+j]?=some u/\EU (D i j) w (.dv e s ys) u
structure MW (F:Nat->Prop) (w:World) (os:List Own) (o:Own):Prop where
 pos:0<o.row.size
 lens :∀x∈o.row.xs,x.length=o.row.size/\∀c∈x,c.kept=true
 none:o.Fe=none->o.row.xs=[]/\o.cap=0
 some :∀b,o.Fe=some b->¬ F b/\∃cur:Array Value,w.heap[b]?=some (.cells cur o.row.elem (0,0))/\cur.size=o.cap*o.row.size/\o.row.xs.length<=o.cap/\o.cap<=maxLen/\
  ∀i x,o.row.xs[i]?=some x->∀j c,x[j]?=some c->∃u,cur[i*o.row.size+j]?=some u/\Ae F w os c u
 mo :∀b,o.more b->¬ F b/\b<w.heap.size/\o.Fe≠Option.some b
 deep:KO w o
theorem L4 {o:Own}{n b:Nat}(h:n=o.row.xs.length):Value.slice (some ⟨b,(o.row.xs.length-n)*o.row.size,none⟩) n (o.cap-(o.row.xs.length-n))=.slice (some ⟨b,0,none⟩) n o.cap:=by
 subst h;simp
structure St where
 n:Nat
 env:Nat->AV
 st:List Row
def ED (e:Nat->AV)(d:Nat)(v:AV):Nat->AV:=λk=>if k=d then v else e k
structure Rel (F:Nat->Prop) (os:List Own) (s:St) (a:Act) (w:World):Prop where
 st:os.map Own.row=s.st
 env :∀k,Ae F w os (s.env k) (a.tmps.getD k undef)
 size:a.tmps.size=s.n
 rows :∀(i:Nat) (o:Own),os[i]?=some o->MW F w os o
 inj :∀(i j:Nat) (oi oj:Own) (b:Nat),os[i]?=some oi->os[j]?=some oj->oi.owns b->oj.owns b->i=j
 FT :∀b,F b->b<w.heap.size
 defers:a.defers=[]
structure Ext (F:Nat->Prop) (os:List Own) (w:World) (F':Nat->Prop) (os':List Own) (w':World) (k:Nat):Prop where
 sys:w'.os=w.os
 tape:w'.tape=w.tape
 output:w'.output=w.output
 size:w.heap.size<=w'.heap.size
 Mr :∀b,F b->F' b
 II :∀b,F b->w'.heap[b]?=w.heap[b]?
 other :∀b,b<w.heap.size->¬ F b->(∀o:Own,o∈os->¬ o.owns b)->w'.heap[b]?=w.heap[b]?/\¬ F' b/\∀o:Own,o∈os'->¬ o.owns b
 Ta :∀(i:Nat) (o:Own),i<k->os[i]?=some o->∃o':Own,os'[i]?=some o'/\o.row.gen<=o'.row.gen/\o'.row.size=o.row.size/\(o'.row.gen=o.row.gen->o'.Fe=o.Fe/\o'.cap=o.cap/\o'.row.xs.length=o.row.xs.length)
theorem Ext.refl (F:Nat->Prop)(os:List Own)(w:World)(k:Nat):Ext F os w F os w k:=
 ⟨rfl,rfl,rfl,jv _,λ_ h=>h,λ_ _=>rfl,λ_ _ h1 h2=>⟨rfl,h1,h2⟩,λ_ o _ h=>⟨o,h,jv _,rfl,λ_=>⟨rfl,rfl,rfl⟩⟩⟩
theorem Ext.trans {F F' F'':Nat->Prop}{os os' os'':List Own}{w w' w'':World}{k:Nat}(h:Ext F os w F' os' w' k)(g:Ext F' os' w' F'' os'' w'' k):Ext F os w F'' os'' w'' k:=by
 refine⟨g.sys.trans h.sys,g.tape.trans h.tape,g.output.trans h.output,mB h.size g.size,λb hb=>g.Mr b (h.Mr b hb),
  λb hb=>(g.II b (h.Mr b hb)).trans (h.II b hb),λb hb h1 h2=>?_,λi o hi ho=>?_⟩
 ·obtain⟨e1,n1,m1⟩:=h.other b hb h1 h2;obtain⟨e2,n2,m2⟩:=g.other b (ke hb h.size) n1 m1;exact⟨e2.trans e1,n2,m2⟩
 ·obtain⟨o',ho',l1,s1,p1⟩:=h.Ta i o hi ho;obtain⟨o'',ho'',l2,s2,p2⟩:=g.Ta i o' hi ho';refine⟨o'',ho'',mB l1 l2,s2.trans s1,λe=>?_⟩;have e1:o'.row.gen=o.row.gen:=by omega
  have e2:o''.row.gen=o'.row.gen:=by omega
  obtain⟨a1,a2,a3⟩:=p1 e1;obtain⟨b1,b2,b3⟩:=p2 e2;exact⟨b1.trans a1,b2.trans a2,b3.trans a3⟩
mutual
theorem DV {F F':Nat->Prop}{w w':World}(hF :∀b,F b->F' b)(hw :∀b,F b->w'.heap[b]?=w.heap[b]?):
  ∀(os os':List Own) (_ :∀(i:Nat) (o:Own),os[i]?=some o->∃o':Own,os'[i]?=some o'/\o.row.gen<=o'.row.gen/\o'.row.size=o.row.size/\(o'.row.gen=o.row.gen->o'.Fe=o.Fe/\o'.cap=o.cap/\o'.row.xs.length=o.row.xs.length)) (x:AV) (v:Value),Ae F w os x v->Ae F' w' os' x v
 | _,_,_,.E2,_,_=>by simp[Ae]
 | _,_,_,.un,_,h=>by simpa [Ae] using h
 | _,_,_,.int _ _,_,h=>by simpa [Ae] using h
 | _,_,_,.bool _,_,h=>by simpa [Ae] using h
 | _,_,_,.str _,_,h=>by simpa [Ae] using h
 | _,_,_,.zc,_,h=>by simpa [Ae] using h
 | _,_,_,.QX,_,h=>by simpa [Ae] using h
 | _,_,_,.Qc,_,h=>by simpa [Ae] using h
 | _,_,_,.dv ..,_,h=>by simpa [Ae] using h
 | _,_,_,.sl xs,v,h=>by
  simp only[Ae]at h⊢;obtain⟨a,cap,hv,hcap,h2⟩:=h;refine⟨a,cap,hv,hcap,λhne=>?_⟩;obtain⟨b,o,size,ha,hb,hs,hr⟩:=h2 hne;exact⟨b,o,size,ha,hF b hb,hs,Qi hF hw xs b o hb hr⟩
 | os,os',hos,.own id g n,v,h=>by
  simp only[Ae]at h⊢;obtain⟨o,ho,hle,hsh,h1⟩:=h;obtain⟨o',ho',hl',hs',hp'⟩:=hos id o ho;refine⟨o',ho',by omega,hsh,λe=>?_⟩;obtain⟨e1,e2,e3⟩:=hp' (by omega);obtain⟨h2,h3⟩:=h1 (by omega);refine⟨by omega,?_⟩;rw[e1,e2,e3,hs'];exact h3
 | os,os',hos,.ptr id g i off,v,h=>by
  simp only[Ae]at h⊢;obtain⟨o,ho,hle,hsh,h1⟩:=h;obtain⟨o',ho',hl',hs',hp'⟩:=hos id o ho;refine⟨o',ho',by omega,hsh,λe=>?_⟩;obtain⟨e1,e2,e3⟩:=hp' (by omega);obtain⟨h2,h3,h4⟩:=h1 (by omega);refine⟨by omega,by omega,?_⟩;rw[e1,hs'];exact h4
 | _,_,_,.Bh x off,v,h=>by
  simp only[Ae]at h⊢;obtain⟨b,o,hv,hb,hr⟩:=h;exact⟨b,o,hv,hF b hb,MC hF hw x b o hb hr⟩
 | os,os',hos,.fn f caps,v,h=>by
  simp only[Ae]at h⊢;obtain⟨us,hv,hr⟩:=h;exact⟨us,hv,N3 hF hw os os' hos caps us hr⟩
 | os,os',hos,.agg cs,v,h=>by
  simp only[Ae]at h⊢;obtain⟨us,hv,hr⟩:=h;exact⟨us,hv,N3 hF hw os os' hos cs us hr⟩
 | os,os',hos,.Dw cs,v,h=>by
  simp only[Ae]at h⊢;obtain⟨us,hv,hr⟩:=h;exact⟨us,hv,N3 hF hw os os' hos cs us hr⟩
theorem N3 {F F':Nat->Prop}{w w':World}(hF :∀b,F b->F' b)(hw :∀b,F b->w'.heap[b]?=w.heap[b]?):
  ∀(os os':List Own) (_ :∀(i:Nat) (o:Own),os[i]?=some o->∃o':Own,os'[i]?=some o'/\o.row.gen<=o'.row.gen/\o'.row.size=o.row.size/\(o'.row.gen=o.row.gen->o'.Fe=o.Fe/\o'.cap=o.cap/\o'.row.xs.length=o.row.xs.length)) (xs:List AV) (us:List Value),Br F w os xs us->Br F' w' os' xs us
 | _,_,_,[],_,h=>by simpa [Br] using h
 | os,os',hos,x::r,us,h=>by
  simp only[Br]at h⊢;obtain⟨u,us',hu,h1,h2⟩:=h;exact⟨u,us',hu,DV hF hw os os' hos x u h1,N3 hF hw os os' hos r us' h2⟩
theorem MC {F F':Nat->Prop}{w w':World}(hF :∀b,F b->F' b)(hw :∀b,F b->w'.heap[b]?=w.heap[b]?):
  ∀(xs:List AV) (b o:Nat),F b->FB F w xs b o->FB F' w' xs b o
 | [],_,_,_,_=>by simp[FB]
 | x::r,b,o,hb,h=>by
  simp only[FB]at h⊢;obtain⟨⟨u,hu,hl,h1⟩,h2⟩:=h;refine⟨⟨u,?_,hl,DV hF hw [] [] (by simp) x u h1⟩,MC hF hw r b (o+1) hb h2⟩;rw[<- hu];exact mF (hw b hb)
theorem Qi {F F':Nat->Prop}{w w':World}(hF :∀b,F b->F' b)(hw :∀b,F b->w'.heap[b]?=w.heap[b]?):
  ∀(xs:List (List AV)) (b o:Nat),F b->HK F w xs b o->HK F' w' xs b o
 | [],_,_,_,_=>by simp[HK]
 | x::r,b,o,hb,h=>by
  simp only[HK]at h⊢;exact⟨MC hF hw x b o hb h.1,Qi hF hw r b (o+x.length) hb h.2⟩
end
mutual
theorem MH {S S':Nat->Prop}{w w':World}(hS :∀b,S b->S' b)(hw :∀b,S b->w'.heap[b]?=w.heap[b]?):∀(x:AV) (v:Value),EU S w x v->EU S' w' x v
 | .dv el size xs,v,h=>by
  simp only[EU]at h⊢;obtain⟨hp,h⟩:=h;refine⟨hp,?_⟩;rcases h with h|⟨b,cap,cur,h1,h2,h3,h4,h5,h6,h7,h8⟩
  ·exact .inl h
  ·refine .inr ⟨b,cap,cur,h1,h2,h3,hS b h4,by rw[hw b h4];exact h5,h6,h7,PC (S:=λc=>S c/\c≠b) (λc hc=>⟨hS c hc.1,hc.2⟩) (λc hc=>hw c hc.1) xs cur 0 h8⟩
 | .int _ _,_,h=>by simpa [EU] using h
 | .bool _,_,h=>by simpa [EU] using h
 | .str _,_,h=>by simpa [EU] using h
 | .zc,_,h=>by simpa [EU] using h
 | .QX,_,h=>by simpa [EU] using h
 | .Qc,_,h=>by simpa [EU] using h
 | .E2,_,h=>by simp[EU]at h
 | .un,_,h=>by simp[EU]at h
 | .sl _,_,h=>by simp[EU]at h
 | .own ..,_,h=>by simp[EU]at h
 | .ptr ..,_,h=>by simp[EU]at h
 | .Bh ..,_,h=>by simp[EU]at h
 | .fn ..,_,h=>by simp[EU]at h
 | .agg _,_,h=>by simp[EU]at h
 | .Dw _,_,h=>by simp[EU]at h
theorem PC {S S':Nat->Prop}{w w':World}(hS :∀b,S b->S' b)(hw :∀b,S b->w'.heap[b]?=w.heap[b]?):∀(xs:List (List AV)) (cur:Array Value) (o:Nat),Kg S w xs cur o->Kg S' w' xs cur o
 | [],_,_,_=>by simp[Kg]
 | x::r,cur,o,h=>by
  simp only[Kg]at h⊢;obtain⟨S1,S2,h1,h2,h3,h4,h5⟩:=h;exact⟨S1,S2,λb hb=>hS b (h1 b hb),λb hb=>hS b (h2 b hb),h3,TW (λ_ h=>h) (λb hb=>hw b (h1 b hb)) x cur o h4,PC (λ_ h=>h) (λb hb=>hw b (h2 b hb)) r cur _ h5⟩
theorem TW {S S':Nat->Prop}{w w':World}(hS :∀b,S b->S' b)(hw :∀b,S b->w'.heap[b]?=w.heap[b]?):∀(xs:List AV) (cur:Array Value) (o:Nat),Kd S w xs cur o->Kd S' w' xs cur o
 | [],_,_,_=>by simp[Kd]
 | x::r,cur,o,h=>by
  simp only[Kd]at h⊢;obtain⟨S1,S2,h1,h2,h3,⟨u,h4,h5⟩,h6⟩:=h;exact⟨S1,S2,λb hb=>hS b (h1 b hb),λb hb=>hS b (h2 b hb),h3,⟨u,h4,MH (λ_ h=>h) (λb hb=>hw b (h1 b hb)) x u h5⟩,TW (λ_ h=>h) (λb hb=>hw b (h2 b hb)) r cur _ h6⟩
end
theorem Et {w:World}{o:Own}(h :∀x∈o.row.xs,∀c∈x,c.leaf=true):KO w o:=
 ⟨λ_ _ _=>False,λ_ _ _ h=>h.elim,λ_ _ _ _ _ h=>h.elim,λ_ _ _ _ _ _ i x j e s ys hx hc=>by
  have:=h x (je hx) _ (je hc);simp[AV.leaf]at this⟩
theorem KO.keep {w w':World}{o o':Own}(h:KO w o)(hb:o'.Fe=o.Fe)(hm :∀b,o.more b->o'.more b)(hs:o'.row.size=o.row.size)
  (hw :∀b,o.owns b->w'.heap[b]?=w.heap[b]?)
  (hr :∀(i:Nat) x (j:Nat) e s ys,o'.row.xs[i]?=some x->x[j]?=some (.dv e s ys)->∃x0,o.row.xs[i]?=some x0/\x0[j]?=some (.dv e s ys)):KO w' o':=by
 obtain⟨D,h1,h2,h3⟩:=h;refine⟨D,λi j b hb=>hm b (h1 i j b hb),h2,λb hob cur el l hcur i x j e s ys hx hc=>?_⟩;rw[hb]at hob;rw[hw b (.inl hob)]at hcur;obtain⟨x0,hx0,hc0⟩:=hr i x j e s ys hx hc;obtain⟨u,e1,e2⟩:=h3 b hob cur el l hcur i x0 j e s ys hx0 hc0;exact⟨u,by rw[hs];exact e1,MH (λ_ h=>h) (λc hc=>hw c (.inr (h1 i j c hc))) _ u e2⟩
theorem KO.mapped {w:World}{o o':Own}(f:AV->AV)(hf :∀c e s ys,f c=.dv e s ys->c=.dv e s ys)(h:KO w o)(hb:o'.Fe=o.Fe)(hm:o'.more=o.more)(hs:o'.row.size=o.row.size)
  (hx:o'.row.xs=o.row.xs.map (·.map f)):KO w o':=by
 refine h.keep hb (λb hb=>by rw[hm];exact hb) hs (λ_ _=>rfl) λi x j e s ys hx' hc=>?_;rw[hx,ji,jo]at hx';obtain⟨y,hy,rfl⟩:=hx';rw[ji,jo]at hc;obtain⟨d,hd,hc⟩:=hc;exact⟨y,hy,by rw[hd,hf _ _ _ _ hc]⟩
theorem MW.lt {F:Nat->Prop}{w:World}{os:List Own}{o:Own}(h:MW F w os o){b:Nat}(hb:o.owns b):b<w.heap.size:=by
 rcases hb with hb|hb
 ·obtain⟨_,cur,hcur,_⟩:=h.some b hb;exact (kR.1 hcur).1
 ·exact (h.mo b hb).2.1
theorem MW.nF {F:Nat->Prop}{w:World}{os:List Own}{o:Own}(h:MW F w os o){b:Nat}(hb:o.owns b):¬ F b:=by
 rcases hb with hb|hb
 ·exact (h.some b hb).1
 ·exact (h.mo b hb).1
end Go.Abs
