import Derived.WalkKit
import Derived.Below
import Derived.OwnWalk
import Derived.Orders
import Derived.StillTail
abbrev jd:=@Option.bind_some
abbrev je:=@List.mem_of_getElem?
abbrev jf:=@trivial
abbrev jg:=@List.getElem?_eq_some_iff
abbrev jh:=@Option.some.injEq
abbrev ji:=@List.getElem?_map
abbrev jk:=@Bool.false_eq_true
abbrev jl:=@List.getElem?_eq_getElem
abbrev jm:=@if_pos
abbrev jn:=@if_neg
abbrev jo:=@Option.map_eq_some_iff
abbrev jq:=@List.all_eq_true
abbrev jr:=@List.getElem?_append_left
abbrev js:=@List.mem_cons
abbrev jt:=@List.getElem?_append_right
abbrev ju:=@List.getElem?_set_self
abbrev jv:=@Nat.le_refl
abbrev jw:=@decide_eq_true_eq
abbrev jx:=@decide_true
abbrev jy:=@List.mem_singleton
abbrev jz:=@List.mem_iff_getElem?
abbrev kA:=@decide_false
abbrev kB:=@List.length_map
abbrev kC:=@List.mem_map
abbrev kD:=@List.length_append
abbrev kE:=@Nat.zero_le
abbrev kF:=@Bool.and_eq_true
abbrev kG:=@List.getElem?_set_ne
abbrev kH:=@if_false
abbrev kI:=@List.map_cons
abbrev kJ:=@List.mem_append
abbrev kK:=@List.getElem?_cons_zero
abbrev kL:=@List.getElem?_take
abbrev kM:=@List.map_congr_left
abbrev kN:=@List.not_mem_nil
abbrev kO:=@if_true
abbrev kP:=@Nat.add_mul
abbrev kQ:=@List.length_cons
abbrev kR:=@Array.getElem?_eq_some_iff
abbrev kS:=@Nat.mul_le_mul_right
abbrev kT:=@List.getElem?_cons_succ
abbrev kU:=@Option.bind_eq_some_iff
abbrev kV:=@Go.Result.andThen_ok
abbrev kW:=@List.getElem?_drop
abbrev kX:=@Go.Sem.run_bind
abbrev kY:=@List.take_of_length_le
abbrev kZ:=@Int.eq_ofNat_of_zero_le
abbrev ka:=@List.eq_nil_of_length_eq_zero
abbrev kb:=@Option.map_some
abbrev ke:=@Nat.lt_of_lt_of_le
abbrev kf:=@congrArg
abbrev kg:=@Go.run_underlying
abbrev ko:=@List.mem_append_left
abbrev kp:=@List.mem_or_eq_of_mem_set
abbrev kq:=@List.getElem?_eq_none
abbrev kr:=@List.mem_cons_of_mem
abbrev kt:=@Nat.zero_add
abbrev ku:=@Go.Sem.run_pure
abbrev kv:=@List.mem_of_mem_take
abbrev kx:=@or_false
abbrev ky:=@List.append_nil
abbrev kz:=@List.mem_filterMap
abbrev lA:=@Array.getElem?_eq_getElem
abbrev lB:=@of_decide_eq_true
abbrev lC:=@Array.getD_eq_getD_getElem?
abbrev lD:=@List.mem_map_of_mem
abbrev lE:=@List.length_nil
abbrev lF:=@List.take_zero
abbrev lG:=@List.append_assoc
abbrev lH:=@Nat.lt_trichotomy
abbrev lI:=@List.map_id
abbrev lJ:=@List.map_append
abbrev lK:=@Ne.symm
abbrev lL:=@Bool.not_true
abbrev lM:=@List.take_length
abbrev lN:=@List.getElem?_range
abbrev lO:=@List.getElem?_zipWith
abbrev lP:=@Array.getElem?_append_left
abbrev lQ:=@List.mem_of_mem_drop
abbrev lR:=@List.nil_append
abbrev lS:=@Nat.add_assoc
abbrev lT:=@Option.some.inj
abbrev lU:=@List.map_map
abbrev lV:=@List.map_nil
abbrev lW:=@Nat.sub_self
abbrev lX:=@List.filterMap_cons
abbrev lY:=@Int.toNat_natCast
abbrev lZ:=@Nat.eq_of_beq_eq_true
abbrev la:=@Nat.lt_or_ge
abbrev ld:=@List.mem_cons_self
abbrev lg:=@Option.getD_some
abbrev lh:=@List.findIdx?_eq_some_iff_getElem
abbrev lj:=@List.drop_zero
abbrev lk:=@List.ext_getElem?
abbrev ll:=@List.getD_eq_getElem?_getD
abbrev ln:=@List.map_set
abbrev lp:=@List.mem_range
abbrev lq:=@Array.getElem?_toList
abbrev lr:=@Nat.le_of_ble_eq_true
abbrev lu:=@List.length_take
abbrev lv:=@Nat.eq_zero_or_pos
abbrev lx:=@List.all_cons
abbrev ly:=@Array.length_toList
abbrev lz:=@List.drop_eq_nil_of_le
abbrev mA:=@Nat.add_zero
abbrev mB:=@Nat.le_trans
abbrev mC:=@Option.elim_some
abbrev mD:=@List.mem_append_right
abbrev mE:=@List.getElem?_eq_none_iff
abbrev mF:=@Go.World.cell?_of_block
abbrev mG:=@List.any_eq_true
abbrev mH:=@List.getElem_mem
abbrev mI:=@List.length_drop
abbrev mJ:=@decide_eq_false_iff_not
abbrev mK:=@Go.wp_mono
abbrev mL:=@List.cons.injEq
abbrev mM:=@List.sum_cons
abbrev mN:=@List.getElem?_toArray
abbrev mO:=@List.size_toArray
abbrev mP:=@Array.ext'
abbrev mQ:=@Array.toArray_toList
abbrev mR:=@Go.heap_alloc_old
abbrev mS:=@Go.ready_mono
abbrev mT:=@Nat.mod_eq_of_lt
abbrev mU:=@decide_eq_decide
abbrev mV:=@Go.mem_ready
abbrev mW:=@List.pairwise_iff_getElem
abbrev mX:=@List.map_eq_nil_iff
abbrev mY:=@Array.setIfInBounds_comm
abbrev mZ:=@Nat.div_le_self
abbrev ma:=@Nat.min_eq_left
abbrev mc:=@Go.run_append_grow
abbrev me:=@Int.natCast_nonneg
abbrev mf:=@List.set_cons_zero
abbrev mg:=@decide_eq_true_iff
abbrev mh:=@Go.grownCap_le_maxLen
abbrev ml:=@Go.cell_of_row
abbrev mm:=@Array.getElem?_eq_none
abbrev mn:=@List.drop_of_length_le
abbrev mq:=@List.mapM_cons
abbrev mr:=@Go.growslice_fits
abbrev mu:=@List.length_replicate
abbrev mw:=@List.set_append_right
abbrev my:=@List.set_getElem_self
abbrev mz:=@Bool.true_and
abbrev nA:=@Prod.mk.injEq
abbrev nB:=@Array.mem_toList_iff
abbrev nC:=@List.getElem?_mapIdx
abbrev nD:=@Go.getD_set_ne
abbrev nE:=@List.length_pos_iff
abbrev nG:=@List.take_set_of_le
abbrev nH:=@Nat.sub_zero
abbrev nI:=@Nat.zero_mul
abbrev nJ:=@Go.wpIn_mono
abbrev nK:=@List.map_filterMap
abbrev nL:=@List.map_replicate
abbrev nM:=@List.mem_replicate
abbrev nN:=@Nat.mul_le_mul
abbrev nO:=@of_decide_eq_false
abbrev nP:=@Function.comp_def
abbrev nQ:=@List.length_range
abbrev nR:=@Nat.le_zero
abbrev nS:=@Go.setRow_heap
abbrev nT:=@Bool.and_self
abbrev nU:=@Go.wp_region_any
abbrev nV:=@Array.toList_map
abbrev nW:=@Bool.not_eq_true
abbrev nX:=@List.cons_append
abbrev nY:=@List.drop_length
abbrev nZ:=@List.map_toArray
abbrev na:=@List.mem_toArray
abbrev nb:=@Go.Region.free_spec
abbrev nf:=@Nat.mul_comm
abbrev ng:=@Int.natCast_mul
abbrev nh:=@List.length_set
abbrev ni:=@Option.map_none
theorem nj:0+3<=3:=by decide
theorem nk:0+2<=2:=by decide
theorem nm:0+5<=5:=by decide
theorem np:0<=0:=by decide
theorem nq:0+1<=1:=by decide
theorem nr:1<=2:=by decide
theorem ns:0+1<=2:=by decide
theorem nt:1<=4:=by decide
theorem nv:2<=4:=by decide
theorem nw:2+3<=5:=by decide
theorem nx:0+2<=3:=by decide
theorem ny:2<=5:=by decide
theorem nz:0<=2:=by decide
theorem oB:1+1<=2:=by decide
theorem oC:1<=3:=by decide
theorem oD:1<=5:=by decide
theorem oE:0<=1:=by decide
theorem oF:2<=6:=by decide
theorem oG:0+0<=1:=by decide
theorem oH:1<=6:=by decide
theorem oI:1<=1:=by decide
theorem oJ:2<=3:=by decide
theorem oK:2+1<=3:=by decide
theorem oL:1<=7:=by decide
theorem oM:0+0<=2:=by decide
theorem oN:2<=2:=by decide
theorem oO:0+1<=5:=by decide
theorem oP (i:Nat):((i:Int)+1)=((i+1:Nat):Int):=by omega
theorem oQ:((0:Nat):Int)=0:=rfl
set_option linter.all false
namespace Go.Abs
open Go
theorem AA {α:Sort _}{a:α}:a=a:=rfl
inductive AV where
 | E2
 | un
 | int (k:IntKind) (n:Int)
 | bool (b:Bool)
 | str (s:ByteArray)
 | zc
 | Qm
 | Qb
 | sl (xs:List (List AV))
 | own (id gen len:Nat)
 | ptr (id gen i off:Nat)
 | Bh (x:List AV) (off:Nat)
 | fn (f:FuncId) (pc:List AV)
 | agg (cs:List AV)
 | Dp (vs:List AV)
 | dv (el size:Nat) (xs:List (List AV))
 deriving Inhabited
abbrev i64 (n:Int):AV:=.int .i64 n
def AV.leaf:AV->Bool
 | .E2|.un|.agg _|.Dp _|.dv ..=>false
 | _=>true
def AV.kept:AV->Bool
 | .dv ..=>true
 | c=>c.leaf
theorem Dz {c:AV}(h:c.leaf=true):c.kept=true:=by cases c<;>simp_all [AV.kept,AV.leaf]
structure Row where
 gen:Nat
 elem:TypeId
 size:Nat
 xs:List (List AV)
structure Own where
 row:Row
 Fe:Option Nat
 cap:Nat
 more:Nat->Prop
def Own.owns (o:Own)(b:Nat):Prop:=o.Fe=some b∨o.more b
def FX:Nat->Prop:=λ_=>False
mutual
def Ae (F:Nat->Prop)(w:World):List Own->AV->Value->Prop
 | _,.E2,_=>True
 | _,.un,v=>v=undef
 | _,.int k n,v=>v=.int k n
 | _,.bool b,v=>v=.bool b
 | _,.str s,v=>v=.string s
 | _,.zc,v=>∃a,v=.slice a 0 0
 | _,.Qm,v=>v=.pointer none
 | _,.Qb,v=>v=.nilFunc
 | _,.sl xs,v=>∃a cap,v=.slice a xs.length cap/\xs.length<=cap/\(xs≠[]->∃b o size,a=some ⟨b,o,none⟩/\F b/\(∀x∈xs,x.length=size)/\HK F w xs b o)
 | os,.own id g n,v=>∃o,os[id]?=some o/\g<=o.row.gen/\(∃a l c,v=.slice a l c)/\(o.row.gen=g->n<=o.row.xs.length/\((o.Fe=none/\∃a,v=.slice a n 0)∨∃b,o.Fe=some b/\v=.slice (some ⟨b,(o.row.xs.length-n)*o.row.size,none⟩) n (o.cap-(o.row.xs.length-n))))
 | os,.ptr id g i off,v=>∃o,os[id]?=some o/\g<=o.row.gen/\(∃a,v=.pointer a)/\(o.row.gen=g->i<o.row.xs.length/\off<=o.row.size/\∃b,o.Fe=some b/\v=.pointer (some ⟨b,i*o.row.size+off,none⟩))
 | _,.Bh x off,v=>∃b o,v=.pointer (some ⟨b,o+off,none⟩)/\F b/\FF F w x b o
 | os,.fn f pc,v=>∃us:List Value,v=.func (.func f) #[] us.toArray/\Br F w os pc us
 | os,.agg cs,v=>∃us:List Value,v=.agg us.toArray/\Br F w os cs us
 | os,.Dp vs,v=>∃us:List Value,v=.tuple us.toArray/\Br F w os vs us
 | _,.dv _ _ _,v=>∃a l c,v=.slice a l c
def Br (F:Nat->Prop)(w:World):List Own->List AV->List Value->Prop
 | _,[],us=>us=[]
 | os,x::r,us=>∃u rN,us=u::rN/\Ae F w os x u/\Br F w os r rN
def FF (F:Nat->Prop)(w:World):List AV->Nat->Nat->Prop
 | [],_,_=>True
 | x::r,b,o=>(∃u,w.cell? ⟨b,o,none⟩=some u/\x.leaf=true/\Ae F w [] x u)/\FF F w r b (o+1)
def HK (F:Nat->Prop)(w:World):List (List AV)->Nat->Nat->Prop
 | [],_,_=>True
 | x::r,b,o=>FF F w x b o/\HK F w r b (o+x.length)
end
mutual
def ES (S:Nat->Prop)(w:World):AV->Value->Prop
 | .dv el size xs,v=>0<size/\((xs=[]/\∃a,v=.slice a 0 0)∨∃b cap cur,v=.slice (some ⟨b,0,none⟩) xs.length cap/\xs.length<=cap/\cap<=maxLen/\S b/\
   w.heap[b]?=some (.cells cur el (0,0))/\cur.size=cap*size/\(∀x∈xs,x.length=size)/\Kh (λc=>S c/\c≠b) w xs cur 0)
 | .int k n,v=>v=.int k n
 | .bool b,v=>v=.bool b
 | .str s,v=>v=.string s
 | .zc,v=>∃a,v=.slice a 0 0
 | .Qm,v=>v=.pointer none
 | .Qb,v=>v=.nilFunc
 | _,_=>False
def Kh (S:Nat->Prop)(w:World):List (List AV)->Array Value->Nat->Prop
 | [],_,_=>True
 | x::r,cur,o=>∃S1 S2:Nat->Prop,(∀b,S1 b->S b)/\(∀b,S2 b->S b)/\(∀b,S1 b->¬ S2 b)/\Kj S1 w x cur o/\Kh S2 w r cur (o+x.length)
def Kj (S:Nat->Prop)(w:World):List AV->Array Value->Nat->Prop
 | [],_,_=>True
 | x::r,cur,o=>∃S1 S2:Nat->Prop,(∀b,S1 b->S b)/\(∀b,S2 b->S b)/\(∀b,S1 b->¬ S2 b)/\(∃u,cur[o]?=some u/\ES S1 w x u)/\Kj S2 w r cur (o+1)
end
def KH (w:World)(o:Own):Prop:=
 ∃D:Nat->Nat->Nat->Prop,(∀i j b,D i j b->o.more b)/\(∀i j i' j' b,D i j b->D i' j' b->i=i'/\j=j')/\
  ∀b,o.Fe=some b->∀cur el l,w.heap[b]?=some (.cells cur el l)->∀(i:Nat) x (j:Nat) e s ys,o.row.xs[i]?=some x->x[j]?=some (.dv e s ys)->
   ∃u,cur[i*o.row.size+j]?=some u/\ES (D i j) w (.dv e s ys) u
structure Mc (F:Nat->Prop) (w:World) (os:List Own) (o:Own):Prop where
 pos:0<o.row.size
 lens :∀x∈o.row.xs,x.length=o.row.size/\∀c∈x,c.kept=true
 none:o.Fe=none->o.row.xs=[]/\o.cap=0
 some :∀b,o.Fe=some b->¬ F b/\∃cur:Array Value,w.heap[b]?=some (.cells cur o.row.elem (0,0))/\cur.size=o.cap*o.row.size/\o.row.xs.length<=o.cap/\o.cap<=maxLen/\
  ∀i x,o.row.xs[i]?=some x->∀j c,x[j]?=some c->∃u,cur[i*o.row.size+j]?=some u/\Ae F w os c u
 mo :∀b,o.more b->¬ F b/\b<w.heap.size/\o.Fe≠Option.some b
 deep:KH w o
theorem L4 {o:Own}{n b:Nat}(h:n=o.row.xs.length):Value.slice (some ⟨b,(o.row.xs.length-n)*o.row.size,none⟩) n (o.cap-(o.row.xs.length-n))=.slice (some ⟨b,0,none⟩) n o.cap:=by
 subst h;simp
structure St where
 n:Nat
 env:Nat->AV
 st:List Row
def EC (e:Nat->AV)(d:Nat)(v:AV):Nat->AV:=λk=>if k=d then v else e k
structure Rel (F:Nat->Prop) (os:List Own) (s:St) (a:Act) (w:World):Prop where
 st:os.map Own.row=s.st
 env :∀k,Ae F w os (s.env k) (a.tmps.getD k undef)
 size:a.tmps.size=s.n
 rows :∀(i:Nat) (o:Own),os[i]?=some o->Mc F w os o
 inj :∀(i j:Nat) (oi oj:Own) (b:Nat),os[i]?=some oi->os[j]?=some oj->oi.owns b->oj.owns b->i=j
 FR :∀b,F b->b<w.heap.size
 defers:a.defers=[]
structure Ext (F:Nat->Prop) (os:List Own) (w:World) (F':Nat->Prop) (os':List Own) (w':World) (k:Nat):Prop where
 sys:w'.os=w.os
 tape:w'.tape=w.tape
 output:w'.output=w.output
 size:w.heap.size<=w'.heap.size
 NB :∀b,F b->F' b
 IJ :∀b,F b->w'.heap[b]?=w.heap[b]?
 other :∀b,b<w.heap.size->¬ F b->(∀o:Own,o∈os->¬ o.owns b)->w'.heap[b]?=w.heap[b]?/\¬ F' b/\∀o:Own,o∈os'->¬ o.owns b
 Tf :∀(i:Nat) (o:Own),i<k->os[i]?=some o->∃o':Own,os'[i]?=some o'/\o.row.gen<=o'.row.gen/\o'.row.size=o.row.size/\(o'.row.gen=o.row.gen->o'.Fe=o.Fe/\o'.cap=o.cap/\o'.row.xs.length=o.row.xs.length)
theorem Ext.refl (F:Nat->Prop)(os:List Own)(w:World)(k:Nat):Ext F os w F os w k:=
 ⟨rfl,rfl,rfl,jv _,λ_ h=>h,λ_ _=>rfl,λ_ _ h1 h2=>⟨rfl,h1,h2⟩,λ_ o _ h=>⟨o,h,jv _,rfl,λ_=>⟨rfl,rfl,rfl⟩⟩⟩
theorem Ext.trans {F F' F'':Nat->Prop}{os os' yW:List Own}{w w' vV:World}{k:Nat}(h:Ext F os w F' os' w' k)(g:Ext F' os' w' F'' yW vV k):Ext F os w F'' yW vV k:=by
 refine⟨g.sys.trans h.sys,g.tape.trans h.tape,g.output.trans h.output,mB h.size g.size,λb hb=>g.NB b (h.NB b hb),
  λb hb=>(g.IJ b (h.NB b hb)).trans (h.IJ b hb),λb hb h1 h2=>?_,λi o hi ho=>?_⟩
 ·obtain⟨e1,n1,m1⟩:=h.other b hb h1 h2;obtain⟨e2,n2,m2⟩:=g.other b (ke hb h.size) n1 m1;exact⟨e2.trans e1,n2,m2⟩
 ·obtain⟨o',pQ,l1,s1,p1⟩:=h.Tf i o hi ho;obtain⟨o'',ho'',l2,s2,p2⟩:=g.Tf i o' hi pQ;refine⟨o'',ho'',mB l1 l2,s2.trans s1,λe=>?_⟩;have e1:o'.row.gen=o.row.gen:=by omega
  have e2:o''.row.gen=o'.row.gen:=by omega
  obtain⟨a1,a2,a3⟩:=p1 e1;obtain⟨b1,b2,b3⟩:=p2 e2;exact⟨b1.trans a1,b2.trans a2,b3.trans a3⟩
mutual
theorem DU {F F':Nat->Prop}{w w':World}(hF :∀b,F b->F' b)(hw :∀b,F b->w'.heap[b]?=w.heap[b]?):
  ∀(os os':List Own) (_ :∀(i:Nat) (o:Own),os[i]?=some o->∃o':Own,os'[i]?=some o'/\o.row.gen<=o'.row.gen/\o'.row.size=o.row.size/\(o'.row.gen=o.row.gen->o'.Fe=o.Fe/\o'.cap=o.cap/\o'.row.xs.length=o.row.xs.length)) (x:AV) (v:Value),Ae F w os x v->Ae F' w' os' x v
 | _,_,_,.E2,_,_=>by simp[Ae]
 | _,_,_,.un,_,h=>by simpa [Ae] using h
 | _,_,_,.int _ _,_,h=>by simpa [Ae] using h
 | _,_,_,.bool _,_,h=>by simpa [Ae] using h
 | _,_,_,.str _,_,h=>by simpa [Ae] using h
 | _,_,_,.zc,_,h=>by simpa [Ae] using h
 | _,_,_,.Qm,_,h=>by simpa [Ae] using h
 | _,_,_,.Qb,_,h=>by simpa [Ae] using h
 | _,_,_,.dv ..,_,h=>by simpa [Ae] using h
 | _,_,_,.sl xs,v,h=>by
  simp only[Ae]at h⊢;obtain⟨a,cap,hv,rj,h2⟩:=h;refine⟨a,cap,hv,rj,λpN=>?_⟩;obtain⟨b,o,size,ha,hb,hs,hr⟩:=h2 pN;exact⟨b,o,size,ha,hF b hb,hs,Qe hF hw xs b o hb hr⟩
 | os,os',pd,.own id g n,v,h=>by
  simp only[Ae]at h⊢;obtain⟨o,ho,hle,rl,h1⟩:=h;obtain⟨o',pQ,sy,hs',uK⟩:=pd id o ho;refine⟨o',pQ,by omega,rl,λe=>?_⟩;obtain⟨e1,e2,e3⟩:=uK (by omega);obtain⟨h2,h3⟩:=h1 (by omega);refine⟨by omega,?_⟩;rw[e1,e2,e3,hs'];exact h3
 | os,os',pd,.ptr id g i off,v,h=>by
  simp only[Ae]at h⊢;obtain⟨o,ho,hle,rl,h1⟩:=h;obtain⟨o',pQ,sy,hs',uK⟩:=pd id o ho;refine⟨o',pQ,by omega,rl,λe=>?_⟩;obtain⟨e1,e2,e3⟩:=uK (by omega);obtain⟨h2,h3,h4⟩:=h1 (by omega);refine⟨by omega,by omega,?_⟩;rw[e1,hs'];exact h4
 | _,_,_,.Bh x off,v,h=>by
  simp only[Ae]at h⊢;obtain⟨b,o,hv,hb,hr⟩:=h;exact⟨b,o,hv,hF b hb,MI hF hw x b o hb hr⟩
 | os,os',pd,.fn f pc,v,h=>by
  simp only[Ae]at h⊢;obtain⟨us,hv,hr⟩:=h;exact⟨us,hv,OF hF hw os os' pd pc us hr⟩
 | os,os',pd,.agg cs,v,h=>by
  simp only[Ae]at h⊢;obtain⟨us,hv,hr⟩:=h;exact⟨us,hv,OF hF hw os os' pd cs us hr⟩
 | os,os',pd,.Dp cs,v,h=>by
  simp only[Ae]at h⊢;obtain⟨us,hv,hr⟩:=h;exact⟨us,hv,OF hF hw os os' pd cs us hr⟩
theorem OF {F F':Nat->Prop}{w w':World}(hF :∀b,F b->F' b)(hw :∀b,F b->w'.heap[b]?=w.heap[b]?):
  ∀(os os':List Own) (_ :∀(i:Nat) (o:Own),os[i]?=some o->∃o':Own,os'[i]?=some o'/\o.row.gen<=o'.row.gen/\o'.row.size=o.row.size/\(o'.row.gen=o.row.gen->o'.Fe=o.Fe/\o'.cap=o.cap/\o'.row.xs.length=o.row.xs.length)) (xs:List AV) (us:List Value),Br F w os xs us->Br F' w' os' xs us
 | _,_,_,[],_,h=>by simpa [Br] using h
 | os,os',pd,x::r,us,h=>by
  simp only[Br]at h⊢;obtain⟨u,rN,hu,h1,h2⟩:=h;exact⟨u,rN,hu,DU hF hw os os' pd x u h1,OF hF hw os os' pd r rN h2⟩
theorem MI {F F':Nat->Prop}{w w':World}(hF :∀b,F b->F' b)(hw :∀b,F b->w'.heap[b]?=w.heap[b]?):
  ∀(xs:List AV) (b o:Nat),F b->FF F w xs b o->FF F' w' xs b o
 | [],_,_,_,_=>by simp[FF]
 | x::r,b,o,hb,h=>by
  simp only[FF]at h⊢;obtain⟨⟨u,hu,hl,h1⟩,h2⟩:=h;refine⟨⟨u,?_,hl,DU hF hw [] [] (by simp) x u h1⟩,MI hF hw r b (o+1) hb h2⟩;rw[<- hu];exact mF (hw b hb)
theorem Qe {F F':Nat->Prop}{w w':World}(hF :∀b,F b->F' b)(hw :∀b,F b->w'.heap[b]?=w.heap[b]?):
  ∀(xs:List (List AV)) (b o:Nat),F b->HK F w xs b o->HK F' w' xs b o
 | [],_,_,_,_=>by simp[HK]
 | x::r,b,o,hb,h=>by
  simp only[HK]at h⊢;exact⟨MI hF hw x b o hb h.1,Qe hF hw r b (o+x.length) hb h.2⟩
end
mutual
theorem L5 {S S':Nat->Prop}{w w':World}(hS :∀b,S b->S' b)(hw :∀b,S b->w'.heap[b]?=w.heap[b]?):∀(x:AV) (v:Value),ES S w x v->ES S' w' x v
 | .dv el size xs,v,h=>by
  simp only[ES]at h⊢;obtain⟨hp,h⟩:=h;refine⟨hp,?_⟩;rcases h with h|⟨b,cap,cur,h1,h2,h3,h4,h5,h6,h7,h8⟩
  ·exact .inl h
  ·refine .inr ⟨b,cap,cur,h1,h2,h3,hS b h4,by rw[hw b h4];exact h5,h6,h7,O1 (S:=λc=>S c/\c≠b) (λc hc=>⟨hS c hc.1,hc.2⟩) (λc hc=>hw c hc.1) xs cur 0 h8⟩
 | .int _ _,_,h=>by simpa [ES] using h
 | .bool _,_,h=>by simpa [ES] using h
 | .str _,_,h=>by simpa [ES] using h
 | .zc,_,h=>by simpa [ES] using h
 | .Qm,_,h=>by simpa [ES] using h
 | .Qb,_,h=>by simpa [ES] using h
 | .E2,_,h=>by simp[ES]at h
 | .un,_,h=>by simp[ES]at h
 | .sl _,_,h=>by simp[ES]at h
 | .own ..,_,h=>by simp[ES]at h
 | .ptr ..,_,h=>by simp[ES]at h
 | .Bh ..,_,h=>by simp[ES]at h
 | .fn ..,_,h=>by simp[ES]at h
 | .agg _,_,h=>by simp[ES]at h
 | .Dp _,_,h=>by simp[ES]at h
theorem O1 {S S':Nat->Prop}{w w':World}(hS :∀b,S b->S' b)(hw :∀b,S b->w'.heap[b]?=w.heap[b]?):∀(xs:List (List AV)) (cur:Array Value) (o:Nat),Kh S w xs cur o->Kh S' w' xs cur o
 | [],_,_,_=>by simp[Kh]
 | x::r,cur,o,h=>by
  simp only[Kh]at h⊢;obtain⟨S1,S2,h1,h2,h3,h4,h5⟩:=h;exact⟨S1,S2,λb hb=>hS b (h1 b hb),λb hb=>hS b (h2 b hb),h3,Te (λ_ h=>h) (λb hb=>hw b (h1 b hb)) x cur o h4,O1 (λ_ h=>h) (λb hb=>hw b (h2 b hb)) r cur _ h5⟩
theorem Te {S S':Nat->Prop}{w w':World}(hS :∀b,S b->S' b)(hw :∀b,S b->w'.heap[b]?=w.heap[b]?):∀(xs:List AV) (cur:Array Value) (o:Nat),Kj S w xs cur o->Kj S' w' xs cur o
 | [],_,_,_=>by simp[Kj]
 | x::r,cur,o,h=>by
  simp only[Kj]at h⊢;obtain⟨S1,S2,h1,h2,h3,⟨u,h4,h5⟩,h6⟩:=h;exact⟨S1,S2,λb hb=>hS b (h1 b hb),λb hb=>hS b (h2 b hb),h3,⟨u,h4,L5 (λ_ h=>h) (λb hb=>hw b (h1 b hb)) x u h5⟩,Te (λ_ h=>h) (λb hb=>hw b (h2 b hb)) r cur _ h6⟩
end
theorem Er {w:World}{o:Own}(h :∀x∈o.row.xs,∀c∈x,c.leaf=true):KH w o:=
 ⟨λ_ _ _=>False,λ_ _ _ h=>h.elim,λ_ _ _ _ _ h=>h.elim,λ_ _ _ _ _ _ i x j e s ys hx hc=>by
  have:=h x (je hx) _ (je hc);simp[AV.leaf]at this⟩
theorem KH.keep {w w':World}{o o':Own}(h:KH w o)(hb:o'.Fe=o.Fe)(hm :∀b,o.more b->o'.more b)(hs:o'.row.size=o.row.size)
  (hw :∀b,o.owns b->w'.heap[b]?=w.heap[b]?)
  (hr :∀(i:Nat) x (j:Nat) e s ys,o'.row.xs[i]?=some x->x[j]?=some (.dv e s ys)->∃x0,o.row.xs[i]?=some x0/\x0[j]?=some (.dv e s ys)):KH w' o':=by
 obtain⟨D,h1,h2,h3⟩:=h;refine⟨D,λi j b hb=>hm b (h1 i j b hb),h2,λb rI cur el l pF i x j e s ys hx hc=>?_⟩;rw[hb]at rI;rw[hw b (.inl rI)]at pF;obtain⟨x0,hx0,qj⟩:=hr i x j e s ys hx hc;obtain⟨u,e1,e2⟩:=h3 b rI cur el l pF i x0 j e s ys hx0 qj;exact⟨u,by rw[hs];exact e1,L5 (λ_ h=>h) (λc hc=>hw c (.inr (h1 i j c hc))) _ u e2⟩
theorem KH.mapped {w:World}{o o':Own}(f:AV->AV)(hf :∀c e s ys,f c=.dv e s ys->c=.dv e s ys)(h:KH w o)(hb:o'.Fe=o.Fe)(hm:o'.more=o.more)(hs:o'.row.size=o.row.size)
  (hx:o'.row.xs=o.row.xs.map (·.map f)):KH w o':=by
 refine h.keep hb (λb hb=>by rw[hm];exact hb) hs (λ_ _=>rfl) λi x j e s ys rO hc=>?_;rw[hx,ji,jo]at rO;obtain⟨y,hy,rfl⟩:=rO;rw[ji,jo]at hc;obtain⟨d,hd,hc⟩:=hc;exact⟨y,hy,by rw[hd,hf _ _ _ _ hc]⟩
theorem Mc.lt {F:Nat->Prop}{w:World}{os:List Own}{o:Own}(h:Mc F w os o){b:Nat}(hb:o.owns b):b<w.heap.size:=by
 rcases hb with hb|hb
 ·obtain⟨_,cur,pF,_⟩:=h.some b hb;exact (kR.1 pF).1
 ·exact (h.mo b hb).2.1
theorem Mc.nF {F:Nat->Prop}{w:World}{os:List Own}{o:Own}(h:Mc F w os o){b:Nat}(hb:o.owns b):¬ F b:=by
 rcases hb with hb|hb
 ·exact (h.some b hb).1
 ·exact (h.mo b hb).1
end Go.Abs
