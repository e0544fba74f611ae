import Derived.WalkKit
import Derived.Below
import Derived.OwnWalk
import Derived.Orders
import Derived.StillTail
abbrev ov:=@Option.bind_some
abbrev oz:=@List.mem_of_getElem?
abbrev pA:=@trivial
abbrev pB:=@List.getElem?_eq_some_iff
abbrev pC:=@List.getElem?_map
abbrev pD:=@Option.some.injEq
abbrev pF:=@Bool.false_eq_true
abbrev pG:=@List.getElem?_eq_getElem
abbrev pH:=@List.all_eq_true
abbrev pI:=@Option.map_eq_some_iff
abbrev pJ:=@if_pos
abbrev pK:=@if_neg
abbrev pL:=@List.mem_cons
abbrev pM:=@Nat.le_refl
abbrev pN:=@List.getElem?_append_left
abbrev pO:=@List.getElem?_append_right
abbrev pP:=@List.getElem?_set_self
abbrev pQ:=@decide_eq_true_eq
abbrev pR:=@List.length_map
abbrev pS:=@List.mem_map
abbrev pT:=@Nat.zero_le
abbrev pU:=@List.mem_singleton
abbrev pV:=@if_false
abbrev pW:=@List.length_append
abbrev pX:=@decide_true
abbrev pY:=@List.mem_append
abbrev pZ:=@List.mem_iff_getElem?
abbrev pa:=@decide_false
abbrev pb:=@Bool.and_eq_true
abbrev pc:=@Int.eq_ofNat_of_zero_le
abbrev pd:=@List.map_cons
abbrev pf:=@List.getElem?_set_ne
abbrev ph:=@List.map_congr_left
abbrev pj:=@List.getElem?_cons_zero
abbrev pn:=@List.not_mem_nil
abbrev po:=@List.getElem?_take
abbrev pq:=@List.length_cons
abbrev pt:=@if_true
abbrev px:=@Nat.add_mul
abbrev py:=@Array.getElem?_eq_some_iff
abbrev pz:=@List.getElem?_cons_succ
abbrev qA:=@Option.bind_eq_some_iff
abbrev qB:=@List.getElem?_eq_none
abbrev qC:=@Nat.mul_le_mul_right
abbrev qD:=@Bool.not_true
abbrev qF:=@Go.Result.andThen_ok
abbrev qG:=@Option.map_some
abbrev qH:=@Go.Sem.run_bind
abbrev qI:=@List.getElem?_drop
abbrev qJ:=@List.take_of_length_le
abbrev qK:=@List.drop_zero
abbrev qM:=@Nat.lt_of_lt_of_le
abbrev qN:=@List.eq_nil_of_length_eq_zero
abbrev qO:=@List.mem_append_left
abbrev qP:=@Nat.zero_add
abbrev qQ:=@Int.toNat_natCast
abbrev qR:=@Go.run_underlying
abbrev qS:=@List.append_nil
abbrev qT:=@List.nil_append
abbrev qU:=@List.mem_cons_of_mem
abbrev qV:=@List.mem_or_eq_of_mem_set
abbrev qW:=@Go.Sem.run_pure
abbrev qX:=@Nat.le_of_ble_eq_true
abbrev qY:=@congrArg
abbrev qZ:=@decide_eq_false_iff_not
abbrev qa:=@List.mem_append_right
abbrev qb:=@Nat.eq_of_beq_eq_true
abbrev qc:=@or_false
abbrev qd:=@List.mem_of_mem_take
abbrev qe:=@Nat.add_assoc
abbrev qf:=@List.append_assoc
abbrev qg:=@Option.some.inj
abbrev qh:=@List.mem_filterMap
abbrev qi:=@Array.getElem?_eq_getElem
abbrev qj:=@List.length_nil
abbrev qk:=@List.ext_getElem?
abbrev ql:=@Nat.lt_trichotomy
abbrev qm:=@of_decide_eq_true
abbrev qn:=@Array.getD_eq_getD_getElem?
abbrev qo:=@List.map_id
abbrev qp:=@Nat.add_zero
abbrev qq:=@List.drop_length
abbrev qs:=@List.take_length
abbrev qt:=@List.take_zero
abbrev qu:=@List.map_nil
abbrev qv:=@List.map_append
abbrev qw:=@Ne.symm
abbrev qx:=@Array.getElem?_toList
abbrev qy:=@Nat.sub_self
abbrev qz:=@Array.getElem?_append_left
abbrev rA:=@List.mem_of_mem_drop
abbrev rB:=@Prod.mk.injEq
abbrev rC:=@List.filterMap_cons
abbrev rD:=@List.mem_map_of_mem
abbrev rE:=@List.getElem?_zipWith
abbrev rF:=@List.mem_range
abbrev rG:=@List.map_map
abbrev rH:=@Nat.lt_or_ge
abbrev rI:=@decide_eq_false
abbrev rJ:=@List.mem_cons_self
abbrev rK:=@Nat.eq_zero_or_pos
abbrev rL:=@Option.getD_some
abbrev rM:=@List.findIdx?_eq_some_iff_getElem
abbrev rN:=@List.getD_eq_getElem?_getD
abbrev rO:=@List.map_set
abbrev rP:=@Array.length_toList
abbrev rQ:=@List.length_take
abbrev rR:=@List.all_cons
abbrev rS:=@List.getElem?_range
abbrev rT:=@List.drop_eq_nil_of_le
abbrev rU:=@List.sum_cons
abbrev rV:=@Bool.and_eq_false_iff
abbrev rW:=@List.getElem?_eq_none_iff
abbrev rX:=@Go.run_append_grow
abbrev rY:=@List.size_toArray
abbrev rZ:=@Go.World.cell?_of_block
abbrev ra:=@List.any_eq_true
abbrev rb:=@List.getElem_mem
abbrev re:=@List.length_drop
abbrev rf:=@Option.elim_some
abbrev rh:=@decide_eq_decide
abbrev ri:=@Go.growslice_fits
abbrev rj:=@Nat.mul_one
abbrev rl:=@Go.cell_of_row
abbrev rm:=@Nat.le_trans
abbrev rn:=@Go.grownCap_le_maxLen
abbrev rp:=@Go.wp_mono
abbrev rq:=@List.cons.injEq
abbrev rr:=@List.getElem?_toArray
abbrev ru:=@List.length_singleton
abbrev rv:=@List.singleton_append
abbrev ry:=@Array.ext'
abbrev rz:=@Array.toArray_toList
abbrev sA:=@Go.heap_alloc_old
abbrev sB:=@Go.ready_mono
abbrev sC:=@Nat.mod_eq_of_lt
abbrev sD:=@Nat.zero_mul
abbrev sE:=@Go.mem_ready
abbrev sF:=@List.pairwise_iff_getElem
abbrev sG:=@List.map_eq_nil_iff
abbrev sH:=@Array.setIfInBounds_comm
abbrev sI:=@Bool.and_self
abbrev sJ:=@Bool.true_and
abbrev sK:=@Bool.or_eq_true
abbrev sL:=@Nat.div_le_self
abbrev sM:=@Nat.min_eq_left
abbrev sN:=@Int.natCast_nonneg
abbrev sO:=@List.set_cons_zero
abbrev sP:=@decide_eq_true_iff
abbrev sQ:=@Array.getElem?_eq_none
abbrev sR:=@Bool.not_eq_true'
abbrev sS:=@List.drop_of_length_le
abbrev sT:=@List.mapM_cons
abbrev sU:=@decide_eq_true
abbrev sV:=@List.set_append_right
abbrev sW:=@List.set_getElem_self
abbrev sX:=@List.map_toArray
abbrev sY:=@Array.mem_toList_iff
abbrev sZ:=@List.getElem?_mapIdx
abbrev sa:=@Go.getD_set_ne
abbrev sb:=@Go.setRow_heap
abbrev sc:=@Option.map_none
abbrev sd:=@List.length_pos_iff
abbrev se:=@List.take_set_of_le
abbrev sf:=@Nat.sub_zero
abbrev si:=@Go.wpIn_mono
abbrev sj:=@List.map_filterMap
abbrev sk:=@List.map_replicate
abbrev sm:=@Go.heap_alloc_new
abbrev sn:=@of_decide_eq_false
abbrev sq:=@Go.run_append_nil
abbrev su:=@Go.size_zeroCells
abbrev sv:=@Array.size_append
abbrev sw:=@Function.comp_def
abbrev sx:=@Nat.le_zero
abbrev sy:=@Go.grownCap_ge
abbrev tA:=@Bool.and_true
abbrev tB:=@Go.wp_region_any
abbrev tC:=@Array.toList_map
abbrev tD:=@Bool.not_eq_true
abbrev tE:=@List.cons_append
abbrev tF:=@List.mem_toArray
abbrev tG:=@Go.Region.free_spec
abbrev tH:=@Nat.mul_comm
abbrev tI:=@Int.natCast_mul
abbrev tJ:=@List.length_set
abbrev tK:=@Int.le_refl
theorem tL:0+3<=3:=by decide
theorem tM:0+2<=2:=by decide
theorem tN:0<=0:=by decide
theorem tO:0+1<=2:=by decide
theorem tP:2<=6:=by decide
theorem tQ:0+2<=3:=by decide
theorem tR:0+1<=1:=by decide
theorem tS:0+5<=5:=by decide
theorem tT:2+3<=5:=by decide
theorem tU:0+0<=1:=by decide
theorem tV:2<=4:=by decide
theorem tW:0<=1:=by decide
theorem tX:2<=2:=by decide
theorem tY:2<=5:=by decide
theorem tZ:1<=4:=by decide
theorem ta:2<=3:=by decide
theorem tc:0+0<=2:=by decide
theorem td:1<=2:=by decide
theorem te:0+1<=5:=by decide
theorem th:0<=4:=by decide
theorem tj:0<=3:=by decide
theorem tk (i:Nat):((i:Int)+1)=((i+1:Nat):Int):=by omega
theorem tl:((0:Nat):Int)=0:=rfl
set_option linter.all false
namespace Go.Abs
open Go
theorem AA {α:Sort _}{a:α}:a=a:=rfl
inductive AV where
 |FY
 |un
 |int (k:IntKind) (n:Int)
 |bool (b:Bool)
 |str (s:ByteArray)
 |zc
 |SK
 |R9
 |sl (xs:List (List AV))
 |own (id gen len:Nat)
 |ptr (id gen i off:Nat)
 |C8 (x:List AV) (off:Nat)
 |fn (f:FuncId) (vP:List AV)
 |agg (cs:List AV)
 |DF (vs:List AV)
 |dv (el size:Nat) (xs:List (List AV))
 deriving Inhabited
abbrev i64 (n:Int):AV:=.int .i64 n
def AV.leaf:AV->Bool
 |.FY|.un|.agg _|.DF _|.dv ..=>false
 |_=>true
def AV.kept:AV->Bool
 |.dv ..=>true
 |c=>c.leaf
theorem Di {c:AV}(h:c.leaf=true):c.kept=true:=by cases c<;>simp_all [AV.kept,AV.leaf]
structure Row where
 gen:Nat
 elem:TypeId
 size:Nat
 xs:List (List AV)
structure Own where
 row:Row
 GC:Option Nat
 cap:Nat
 more:Nat->Prop
def Own.owns (o:Own)(b:Nat):Prop:=o.GC=some b∨o.more b
def GG:Nat->Prop:=λ_=>False
mutual
def Ab (F:Nat->Prop)(w:World):List Own->AV->Value->Prop
 |_,.FY,_=>True
 |_,.un,v=>v=undef
 |_,.int k n,v=>v=.int k n
 |_,.bool b,v=>v=.bool b
 |_,.str s,v=>v=.string s
 |_,.zc,v=>∃a,v=.slice a 0 0
 |_,.SK,v=>v=.pointer none
 |_,.R9,v=>v=.nilFunc
 |_,.sl xs,v=>∃a cap,v=.slice a xs.length cap/\xs.length<=cap/\(xs≠[]->∃b o size,a=some ⟨b,o,none⟩/\F b/\(∀x∈xs,x.length=size)/\H4 F w xs b o)
 |os,.own id g n,v=>∃o,os[id]?=some o/\g<=o.row.gen/\(∃a l c,v=.slice a l c)/\(o.row.gen=g->n<=o.row.xs.length/\((o.GC=none/\∃a,v=.slice a n 0)∨∃b,o.GC=some b/\v=.slice (some ⟨b,(o.row.xs.length-n)*o.row.size,none⟩) n (o.cap-(o.row.xs.length-n))))
 |os,.ptr id g i off,v=>∃o,os[id]?=some o/\g<=o.row.gen/\(∃a,v=.pointer a)/\(o.row.gen=g->i<o.row.xs.length/\off<=o.row.size/\∃b,o.GC=some b/\v=.pointer (some ⟨b,i*o.row.size+off,none⟩))
 |_,.C8 x off,v=>∃b o,v=.pointer (some ⟨b,o+off,none⟩)/\F b/\Fi F w x b o
 |os,.fn f vP,v=>∃us:List Value,v=.func (.func f) #[] us.toArray/\Br F w os vP us
 |os,.agg cs,v=>∃us:List Value,v=.agg us.toArray/\Br F w os cs us
 |os,.DF vs,v=>∃us:List Value,v=.tuple us.toArray/\Br F w os vs us
 |_,.dv _ _ _,v=>∃a l c,v=.slice a l c
def Br (F:Nat->Prop)(w:World):List Own->List AV->List Value->Prop
 |_,[],us=>us=[]
 |os,x::r,us=>∃u xS,us=u::xS/\Ab F w os x u/\Br F w os r xS
def Fi (F:Nat->Prop)(w:World):List AV->Nat->Nat->Prop
 | [],_,_=>True
 |x::r,b,o=>(∃u,w.cell? ⟨b,o,none⟩=some u/\x.leaf=true/\Ab F w [] x u)/\Fi F w r b (o+1)
def H4 (F:Nat->Prop)(w:World):List (List AV)->Nat->Nat->Prop
 | [],_,_=>True
 |x::r,b,o=>Fi F w x b o/\H4 F w r b (o+x.length)
end
mutual
def En (S:Nat->Prop)(w:World):AV->Value->Prop
 | .dv el size xs,v=>0<size/\((xs=[]/\∃a,v=.slice a 0 0)∨∃b cap cur,v=.slice (some ⟨b,0,none⟩) xs.length cap/\xs.length<=cap/\cap<=maxLen/\S b/\
   w.heap[b]?=some (.cells cur el (0,0))/\cur.size=cap*size/\(∀x∈xs,x.length=size)/\L4 (λc=>S c/\c≠b) w xs cur 0)
 |.int k n,v=>v=.int k n
 |.bool b,v=>v=.bool b
 |.str s,v=>v=.string s
 |.zc,v=>∃a,v=.slice a 0 0
 |.SK,v=>v=.pointer none
 |.R9,v=>v=.nilFunc
 |_,_=>False
def L4 (S:Nat->Prop)(w:World):List (List AV)->Array Value->Nat->Prop
 | [],_,_=>True
 |x::r,cur,o=>∃S1 S2:Nat->Prop,(∀b,S1 b->S b)/\(∀b,S2 b->S b)/\(∀b,S1 b->¬ S2 b)/\Lx S1 w x cur o/\L4 S2 w r cur (o+x.length)
def Lx (S:Nat->Prop)(w:World):List AV->Array Value->Nat->Prop
 | [],_,_=>True
 |x::r,cur,o=>∃S1 S2:Nat->Prop,(∀b,S1 b->S b)/\(∀b,S2 b->S b)/\(∀b,S1 b->¬ S2 b)/\(∃u,cur[o]?=some u/\En S1 w x u)/\Lx S2 w r cur (o+1)
end
def LQ (w:World)(o:Own):Prop:=
 ∃D:Nat->Nat->Nat->Prop,(∀i j b,D i j b->o.more b)/\(∀i j i' j' b,D i j b->D i' j' b->i=i'/\j=j')/\
  ∀b,o.GC=some b->∀cur el l,w.heap[b]?=some (.cells cur el l)->∀(i:Nat) x (j:Nat) e s ys,o.row.xs[i]?=some x->x[j]?=some (.dv e s ys)->
   ∃u,cur[i*o.row.size+j]?=some u/\En (D i j) w (.dv e s ys) u
structure Md (F:Nat->Prop) (w:World) (os:List Own) (o:Own):Prop where
 pos:0<o.row.size
 lens :∀x∈o.row.xs,x.length=o.row.size/\∀c∈x,c.kept=true
 none:o.GC=none->o.row.xs=[]/\o.cap=0
 some :∀b,o.GC=some b->¬ F b/\∃cur:Array Value,w.heap[b]?=some (.cells cur o.row.elem (0,0))/\cur.size=o.cap*o.row.size/\o.row.xs.length<=o.cap/\o.cap<=maxLen/\
  ∀i x,o.row.xs[i]?=some x->∀j c,x[j]?=some c->∃u,cur[i*o.row.size+j]?=some u/\Ab F w os c u
 mo :∀b,o.more b->¬ F b/\b<w.heap.size/\o.GC≠Option.some b
 deep:LQ w o
theorem NG {o:Own}{n b:Nat}(h:n=o.row.xs.length):Value.slice (some ⟨b,(o.row.xs.length-n)*o.row.size,none⟩) n (o.cap-(o.row.xs.length-n))=.slice (some ⟨b,0,none⟩) n o.cap:=by
 subst h;simp
structure St where
 n:Nat
 env:Nat->AV
 st:List Row
def DQ (e:Nat->AV)(d:Nat)(v:AV):Nat->AV:=λk=>if k=d then v else e k
structure Rel (F:Nat->Prop) (os:List Own) (s:St) (a:Act) (w:World):Prop where
 st:os.map Own.row=s.st
 env :∀k,Ab F w os (s.env k) (a.tmps.getD k undef)
 size:a.tmps.size=s.n
 rows :∀(i:Nat) (o:Own),os[i]?=some o->Md F w os o
 inj :∀(i j:Nat) (oi oj:Own) (b:Nat),os[i]?=some oi->os[j]?=some oj->oi.owns b->oj.owns b->i=j
 Fp :∀b,F b->b<w.heap.size
 defers:a.defers=[]
structure Ext (F:Nat->Prop) (os:List Own) (w:World) (F':Nat->Prop) (os':List Own) (w':World) (k:Nat):Prop where
 sys:w'.os=w.os
 tape:w'.tape=w.tape
 output:w'.output=w.output
 size:w.heap.size<=w'.heap.size
 N7 :∀b,F b->F' b
 Iy :∀b,F b->w'.heap[b]?=w.heap[b]?
 other :∀b,b<w.heap.size->¬ F b->(∀o:Own,o∈os->¬ o.owns b)->w'.heap[b]?=w.heap[b]?/\¬ F' b/\∀o:Own,o∈os'->¬ o.owns b
 Vo :∀(i:Nat) (o:Own),i<k->os[i]?=some o->∃o':Own,os'[i]?=some o'/\o.row.gen<=o'.row.gen/\o'.row.size=o.row.size/\(o'.row.gen=o.row.gen->o'.GC=o.GC/\o'.cap=o.cap/\o'.row.xs.length=o.row.xs.length)
theorem Ext.refl (F:Nat->Prop)(os:List Own)(w:World)(k:Nat):Ext F os w F os w k:=
 ⟨rfl,rfl,rfl,pM _,λ_ h=>h,λ_ _=>rfl,λ_ _ h1 h2=>⟨rfl,h1,h2⟩,λ_ o _ h=>⟨o,h,pM _,rfl,λ_=>⟨rfl,rfl,rfl⟩⟩⟩
theorem Ext.trans {F F' F'':Nat->Prop}{os os' os'':List Own}{w w' w'':World}{k:Nat}(h:Ext F os w F' os' w' k)(g:Ext F' os' w' F'' os'' w'' k):Ext F os w F'' os'' w'' k:=by
 refine⟨g.sys.trans h.sys,g.tape.trans h.tape,g.output.trans h.output,rm h.size g.size,λb hb=>g.N7 b (h.N7 b hb),
  λb hb=>(g.Iy b (h.N7 b hb)).trans (h.Iy b hb),λb hb h1 h2=>?_,λi o hi ho=>?_⟩
 .obtain⟨e1,n1,m1⟩:=h.other b hb h1 h2;obtain⟨e2,n2,m2⟩:=g.other b (qM hb h.size) n1 m1;exact⟨e2.trans e1,n2,m2⟩
 .obtain⟨o',uz,l1,s1,p1⟩:=h.Vo i o hi ho;obtain⟨o'',ho'',l2,s2,p2⟩:=g.Vo i o' hi uz;refine⟨o'',ho'',rm l1 l2,s2.trans s1,λe=>?_⟩;have e1:o'.row.gen=o.row.gen:=by omega
  have e2:o''.row.gen=o'.row.gen:=by omega
  obtain⟨a1,a2,a3⟩:=p1 e1;obtain⟨b1,b2,b3⟩:=p2 e2;exact⟨b1.trans a1,b2.trans a2,b3.trans a3⟩
mutual
theorem DW {F F':Nat->Prop}{w w':World}(hF :∀b,F b->F' b)(hw :∀b,F b->w'.heap[b]?=w.heap[b]?):
  ∀(os os':List Own) (_ :∀(i:Nat) (o:Own),os[i]?=some o->∃o':Own,os'[i]?=some o'/\o.row.gen<=o'.row.gen/\o'.row.size=o.row.size/\(o'.row.gen=o.row.gen->o'.GC=o.GC/\o'.cap=o.cap/\o'.row.xs.length=o.row.xs.length)) (x:AV) (v:Value),Ab F w os x v->Ab F' w' os' x v
 |_,_,_,.FY,_,_=>by simp[Ab]
 |_,_,_,.un,_,h=>by simpa [Ab] using h
 |_,_,_,.int _ _,_,h=>by simpa [Ab] using h
 |_,_,_,.bool _,_,h=>by simpa [Ab] using h
 |_,_,_,.str _,_,h=>by simpa [Ab] using h
 |_,_,_,.zc,_,h=>by simpa [Ab] using h
 |_,_,_,.SK,_,h=>by simpa [Ab] using h
 |_,_,_,.R9,_,h=>by simpa [Ab] using h
 |_,_,_,.dv ..,_,h=>by simpa [Ab] using h
 |_,_,_,.sl xs,v,h=>by
  simp only[Ab]at h⊢;obtain⟨a,cap,hv,xN,h2⟩:=h;refine⟨a,cap,hv,xN,λuu=>?_⟩;obtain⟨b,o,size,ha,hb,hs,hr⟩:=h2 uu;exact⟨b,o,size,ha,hF b hb,hs,SB hF hw xs b o hb hr⟩
 |os,os',vQ,.own id g n,v,h=>by
  simp only[Ab]at h⊢;obtain⟨o,ho,hle,yZ,h1⟩:=h;obtain⟨o',uz,yb,hs',hp'⟩:=vQ id o ho;refine⟨o',uz,by omega,yZ,λe=>?_⟩;obtain⟨e1,e2,e3⟩:=hp' (by omega);obtain⟨h2,h3⟩:=h1 (by omega);refine⟨by omega,?_⟩;rw[e1,e2,e3,hs'];exact h3
 |os,os',vQ,.ptr id g i off,v,h=>by
  simp only[Ab]at h⊢;obtain⟨o,ho,hle,yZ,h1⟩:=h;obtain⟨o',uz,yb,hs',hp'⟩:=vQ id o ho;refine⟨o',uz,by omega,yZ,λe=>?_⟩;obtain⟨e1,e2,e3⟩:=hp' (by omega);obtain⟨h2,h3,h4⟩:=h1 (by omega);refine⟨by omega,by omega,?_⟩;rw[e1,hs'];exact h4
 |_,_,_,.C8 x off,v,h=>by
  simp only[Ab]at h⊢;obtain⟨b,o,hv,hb,hr⟩:=h;exact⟨b,o,hv,hF b hb,NY hF hw x b o hb hr⟩
 |os,os',vQ,.fn f vP,v,h=>by
  simp only[Ab]at h⊢;obtain⟨us,hv,hr⟩:=h;exact⟨us,hv,O9 hF hw os os' vQ vP us hr⟩
 |os,os',vQ,.agg cs,v,h=>by
  simp only[Ab]at h⊢;obtain⟨us,hv,hr⟩:=h;exact⟨us,hv,O9 hF hw os os' vQ cs us hr⟩
 |os,os',vQ,.DF cs,v,h=>by
  simp only[Ab]at h⊢;obtain⟨us,hv,hr⟩:=h;exact⟨us,hv,O9 hF hw os os' vQ cs us hr⟩
theorem O9 {F F':Nat->Prop}{w w':World}(hF :∀b,F b->F' b)(hw :∀b,F b->w'.heap[b]?=w.heap[b]?):
  ∀(os os':List Own) (_ :∀(i:Nat) (o:Own),os[i]?=some o->∃o':Own,os'[i]?=some o'/\o.row.gen<=o'.row.gen/\o'.row.size=o.row.size/\(o'.row.gen=o.row.gen->o'.GC=o.GC/\o'.cap=o.cap/\o'.row.xs.length=o.row.xs.length)) (xs:List AV) (us:List Value),Br F w os xs us->Br F' w' os' xs us
 |_,_,_,[],_,h=>by simpa [Br] using h
 |os,os',vQ,x::r,us,h=>by
  simp only[Br]at h⊢;obtain⟨u,xS,hu,h1,h2⟩:=h;exact⟨u,xS,hu,DW hF hw os os' vQ x u h1,O9 hF hw os os' vQ r xS h2⟩
theorem NY {F F':Nat->Prop}{w w':World}(hF :∀b,F b->F' b)(hw :∀b,F b->w'.heap[b]?=w.heap[b]?):
  ∀(xs:List AV) (b o:Nat),F b->Fi F w xs b o->Fi F' w' xs b o
 | [],_,_,_,_=>by simp[Fi]
 |x::r,b,o,hb,h=>by
  simp only[Fi]at h⊢;obtain⟨⟨u,hu,hl,h1⟩,h2⟩:=h;refine⟨⟨u,?_,hl,DW hF hw [] [] (by simp) x u h1⟩,NY hF hw r b (o+1) hb h2⟩;rw[<- hu];exact rZ (hw b hb)
theorem SB {F F':Nat->Prop}{w w':World}(hF :∀b,F b->F' b)(hw :∀b,F b->w'.heap[b]?=w.heap[b]?):
  ∀(xs:List (List AV)) (b o:Nat),F b->H4 F w xs b o->H4 F' w' xs b o
 | [],_,_,_,_=>by simp[H4]
 |x::r,b,o,hb,h=>by
  simp only[H4]at h⊢;exact⟨NY hF hw x b o hb h.1,SB hF hw r b (o+x.length) hb h.2⟩
end
mutual
theorem Nl {S S':Nat->Prop}{w w':World}(hS :∀b,S b->S' b)(hw :∀b,S b->w'.heap[b]?=w.heap[b]?):∀(x:AV) (v:Value),En S w x v->En S' w' x v
 |.dv el size xs,v,h=>by
  simp only[En]at h⊢;obtain⟨hp,h⟩:=h;refine⟨hp,?_⟩;rcases h with h|⟨b,cap,cur,h1,h2,h3,h4,h5,h6,h7,h8⟩
  .exact .inl h
  .refine .inr ⟨b,cap,cur,h1,h2,h3,hS b h4,by rw[hw b h4];exact h5,h6,h7,Qd (S:=λc=>S c/\c≠b) (λc hc=>⟨hS c hc.1,hc.2⟩) (λc hc=>hw c hc.1) xs cur 0 h8⟩
 |.int _ _,_,h=>by simpa [En] using h
 |.bool _,_,h=>by simpa [En] using h
 |.str _,_,h=>by simpa [En] using h
 |.zc,_,h=>by simpa [En] using h
 |.SK,_,h=>by simpa [En] using h
 |.R9,_,h=>by simpa [En] using h
 |.FY,_,h=>by simp[En]at h
 |.un,_,h=>by simp[En]at h
 |.sl _,_,h=>by simp[En]at h
 |.own ..,_,h=>by simp[En]at h
 |.ptr ..,_,h=>by simp[En]at h
 |.C8 ..,_,h=>by simp[En]at h
 |.fn ..,_,h=>by simp[En]at h
 |.agg _,_,h=>by simp[En]at h
 |.DF _,_,h=>by simp[En]at h
theorem Qd {S S':Nat->Prop}{w w':World}(hS :∀b,S b->S' b)(hw :∀b,S b->w'.heap[b]?=w.heap[b]?):∀(xs:List (List AV)) (cur:Array Value) (o:Nat),L4 S w xs cur o->L4 S' w' xs cur o
 | [],_,_,_=>by simp[L4]
 |x::r,cur,o,h=>by
  simp only[L4]at h⊢;obtain⟨S1,S2,h1,h2,h3,h4,h5⟩:=h;exact⟨S1,S2,λb hb=>hS b (h1 b hb),λb hb=>hS b (h2 b hb),h3,Vv (λ_ h=>h) (λb hb=>hw b (h1 b hb)) x cur o h4,Qd (λ_ h=>h) (λb hb=>hw b (h2 b hb)) r cur _ h5⟩
theorem Vv {S S':Nat->Prop}{w w':World}(hS :∀b,S b->S' b)(hw :∀b,S b->w'.heap[b]?=w.heap[b]?):∀(xs:List AV) (cur:Array Value) (o:Nat),Lx S w xs cur o->Lx S' w' xs cur o
 | [],_,_,_=>by simp[Lx]
 |x::r,cur,o,h=>by
  simp only[Lx]at h⊢;obtain⟨S1,S2,h1,h2,h3,⟨u,h4,h5⟩,h6⟩:=h;exact⟨S1,S2,λb hb=>hS b (h1 b hb),λb hb=>hS b (h2 b hb),h3,⟨u,h4,Nl (λ_ h=>h) (λb hb=>hw b (h1 b hb)) x u h5⟩,Vv (λ_ h=>h) (λb hb=>hw b (h2 b hb)) r cur _ h6⟩
end
theorem EK {w:World}{o:Own}(h :∀x∈o.row.xs,∀c∈x,c.leaf=true):LQ w o:=
 ⟨λ_ _ _=>False,λ_ _ _ h=>h.elim,λ_ _ _ _ _ h=>h.elim,λ_ _ _ _ _ _ i x j e s ys hx hc=>by
  have:=h x (oz hx) _ (oz hc);simp[AV.leaf]at this⟩
theorem LQ.keep {w w':World}{o o':Own}(h:LQ w o)(hb:o'.GC=o.GC)(hm :∀b,o.more b->o'.more b)(hs:o'.row.size=o.row.size)
  (hw :∀b,o.owns b->w'.heap[b]?=w.heap[b]?)
  (hr :∀(i:Nat) x (j:Nat) e s ys,o'.row.xs[i]?=some x->x[j]?=some (.dv e s ys)->∃x0,o.row.xs[i]?=some x0/\x0[j]?=some (.dv e s ys)):LQ w' o':=by
 obtain⟨D,h1,h2,h3⟩:=h;refine⟨D,λi j b hb=>hm b (h1 i j b hb),h2,λb xO cur el l uP i x j e s ys hx hc=>?_⟩;rw[hb]at xO;rw[hw b (.inl xO)]at uP;obtain⟨x0,hx0,wT⟩:=hr i x j e s ys hx hc;obtain⟨u,e1,e2⟩:=h3 b xO cur el l uP i x0 j e s ys hx0 wT;exact⟨u,by rw[hs];exact e1,Nl (λ_ h=>h) (λc hc=>hw c (.inr (h1 i j c hc))) _ u e2⟩
theorem LQ.mapped {w:World}{o o':Own}(f:AV->AV)(hf :∀c e s ys,f c=.dv e s ys->c=.dv e s ys)(h:LQ w o)(hb:o'.GC=o.GC)(hm:o'.more=o.more)(hs:o'.row.size=o.row.size)
  (hx:o'.row.xs=o.row.xs.map (·.map f)):LQ w o':=by
 refine h.keep hb (λb hb=>by rw[hm];exact hb) hs (λ_ _=>rfl) λi x j e s ys xT hc=>?_;rw[hx,pC,pI]at xT;obtain⟨y,hy,rfl⟩:=xT;rw[pC,pI]at hc;obtain⟨d,hd,hc⟩:=hc;exact⟨y,hy,by rw[hd,hf _ _ _ _ hc]⟩
theorem Md.lt {F:Nat->Prop}{w:World}{os:List Own}{o:Own}(h:Md F w os o){b:Nat}(hb:o.owns b):b<w.heap.size:=by
 rcases hb with hb|hb
 .obtain⟨_,cur,uP,_⟩:=h.some b hb;exact (py.1 uP).1
 .exact (h.mo b hb).2.1
theorem Md.nF {F:Nat->Prop}{w:World}{os:List Own}{o:Own}(h:Md F w os o){b:Nat}(hb:o.owns b):¬ F b:=by
 rcases hb with hb|hb
 .exact (h.some b hb).1
 .exact (h.mo b hb).1
end Go.Abs
