import Derived.WalkKit
import Derived.Below
import Derived.OwnWalk
import Derived.Orders
import Derived.StillTail
abbrev ou:=@Option.bind_some
abbrev ov:=@List.mem_of_getElem?
abbrev oz:=@trivial
abbrev pA:=@List.getElem?_eq_some_iff
abbrev pB:=@List.getElem?_map
abbrev pC:=@Option.some.injEq
abbrev pD:=@Bool.false_eq_true
abbrev pF:=@List.getElem?_eq_getElem
abbrev pG:=@List.all_eq_true
abbrev pH:=@Option.map_eq_some_iff
abbrev pI:=@if_pos
abbrev pJ:=@if_neg
abbrev pK:=@List.mem_cons
abbrev pL:=@Nat.le_refl
abbrev pM:=@List.getElem?_append_left
abbrev pN:=@List.getElem?_append_right
abbrev pO:=@List.getElem?_set_self
abbrev pP:=@decide_eq_true_eq
abbrev pQ:=@List.mem_map
abbrev pR:=@List.length_map
abbrev pS:=@List.mem_singleton
abbrev pT:=@Nat.zero_le
abbrev pU:=@List.length_append
abbrev pV:=@if_false
abbrev pW:=@decide_true
abbrev pX:=@List.mem_append
abbrev pY:=@List.mem_iff_getElem?
abbrev pZ:=@Bool.and_eq_true
abbrev pa:=@decide_false
abbrev pb:=@Int.eq_ofNat_of_zero_le
abbrev pc:=@List.map_cons
abbrev pd:=@List.getElem?_set_ne
abbrev pf:=@List.map_congr_left
abbrev ph:=@List.getElem?_cons_zero
abbrev pj:=@List.not_mem_nil
abbrev pn:=@List.getElem?_take
abbrev po:=@List.length_cons
abbrev pq:=@if_true
abbrev pt:=@Nat.add_mul
abbrev px:=@Array.getElem?_eq_some_iff
abbrev py:=@List.getElem?_cons_succ
abbrev pz:=@Option.bind_eq_some_iff
abbrev qA:=@List.getElem?_eq_none
abbrev qB:=@Nat.mul_le_mul_right
abbrev qC:=@Bool.not_true
abbrev qD:=@Go.Result.andThen_ok
abbrev qF:=@Option.map_some
abbrev qG:=@Go.Sem.run_bind
abbrev qH:=@List.getElem?_drop
abbrev qI:=@List.take_of_length_le
abbrev qJ:=@List.drop_zero
abbrev qK:=@Nat.lt_of_lt_of_le
abbrev qM:=@List.eq_nil_of_length_eq_zero
abbrev qN:=@List.mem_append_left
abbrev qO:=@Nat.zero_add
abbrev qP:=@Int.toNat_natCast
abbrev qQ:=@Go.run_underlying
abbrev qR:=@List.append_nil
abbrev qS:=@List.nil_append
abbrev qT:=@List.mem_cons_of_mem
abbrev qU:=@List.mem_or_eq_of_mem_set
abbrev qV:=@Go.Sem.run_pure
abbrev qW:=@Nat.le_of_ble_eq_true
abbrev qX:=@congrArg
abbrev qY:=@decide_eq_false_iff_not
abbrev qZ:=@List.mem_append_right
abbrev qa:=@Nat.eq_of_beq_eq_true
abbrev qb:=@or_false
abbrev qc:=@List.mem_of_mem_take
abbrev qd:=@Nat.add_assoc
abbrev qe:=@List.append_assoc
abbrev qf:=@Option.some.inj
abbrev qg:=@List.mem_filterMap
abbrev qh:=@Array.getElem?_eq_getElem
abbrev qi:=@List.length_nil
abbrev qj:=@List.ext_getElem?
abbrev qk:=@Nat.lt_trichotomy
abbrev ql:=@of_decide_eq_true
abbrev qm:=@Array.getD_eq_getD_getElem?
abbrev qn:=@List.map_id
abbrev qo:=@Nat.add_zero
abbrev qp:=@List.drop_length
abbrev qq:=@List.take_length
abbrev qs:=@List.take_zero
abbrev qt:=@List.map_nil
abbrev qu:=@List.map_append
abbrev qv:=@Ne.symm
abbrev qw:=@Array.getElem?_toList
abbrev qx:=@Nat.sub_self
abbrev qy:=@Array.getElem?_append_left
abbrev qz:=@List.mem_of_mem_drop
abbrev rA:=@Prod.mk.injEq
abbrev rB:=@List.filterMap_cons
abbrev rC:=@List.mem_map_of_mem
abbrev rD:=@List.getElem?_zipWith
abbrev rE:=@List.mem_range
abbrev rF:=@List.map_map
abbrev rG:=@Nat.lt_or_ge
abbrev rH:=@decide_eq_false
abbrev rI:=@List.mem_cons_self
abbrev rJ:=@Nat.eq_zero_or_pos
abbrev rK:=@Option.getD_some
abbrev rL:=@List.findIdx?_eq_some_iff_getElem
abbrev rM:=@List.getD_eq_getElem?_getD
abbrev rN:=@List.map_set
abbrev rO:=@Array.length_toList
abbrev rP:=@List.length_take
abbrev rQ:=@List.all_cons
abbrev rR:=@List.getElem?_range
abbrev rS:=@List.drop_eq_nil_of_le
abbrev rT:=@List.sum_cons
abbrev rU:=@Bool.and_eq_false_iff
abbrev rV:=@List.getElem?_eq_none_iff
abbrev rW:=@Go.run_append_grow
abbrev rX:=@List.size_toArray
abbrev rY:=@Go.World.cell?_of_block
abbrev rZ:=@List.any_eq_true
abbrev ra:=@List.getElem_mem
abbrev rb:=@List.length_drop
abbrev re:=@Option.elim_some
abbrev rf:=@decide_eq_decide
abbrev rh:=@Go.growslice_fits
abbrev ri:=@Nat.mul_one
abbrev rj:=@Go.cell_of_row
abbrev rl:=@Nat.le_trans
abbrev rm:=@Go.grownCap_le_maxLen
abbrev rn:=@Go.wp_mono
abbrev rp:=@List.cons.injEq
abbrev rq:=@List.getElem?_toArray
abbrev rr:=@List.length_singleton
abbrev ru:=@List.singleton_append
abbrev rv:=@Array.ext'
abbrev ry:=@Array.toArray_toList
abbrev rz:=@Go.heap_alloc_old
abbrev sA:=@Go.ready_mono
abbrev sB:=@Nat.mod_eq_of_lt
abbrev sC:=@Nat.zero_mul
abbrev sD:=@Go.mem_ready
abbrev sE:=@List.pairwise_iff_getElem
abbrev sF:=@List.map_eq_nil_iff
abbrev sG:=@Array.setIfInBounds_comm
abbrev sH:=@Bool.and_self
abbrev sI:=@Bool.true_and
abbrev sJ:=@Bool.or_eq_true
abbrev sK:=@Nat.div_le_self
abbrev sL:=@Nat.min_eq_left
abbrev sM:=@Int.natCast_nonneg
abbrev sN:=@List.set_cons_zero
abbrev sO:=@decide_eq_true_iff
abbrev sP:=@Array.getElem?_eq_none
abbrev sQ:=@Bool.not_eq_true'
abbrev sR:=@List.drop_of_length_le
abbrev sS:=@List.mapM_cons
abbrev sT:=@decide_eq_true
abbrev sU:=@List.set_append_right
abbrev sV:=@List.set_getElem_self
abbrev sW:=@List.map_toArray
abbrev sX:=@Array.mem_toList_iff
abbrev sY:=@List.getElem?_mapIdx
abbrev sZ:=@Go.getD_set_ne
abbrev sa:=@Go.setRow_heap
abbrev sb:=@Option.map_none
abbrev sc:=@List.length_pos_iff
abbrev sd:=@List.take_set_of_le
abbrev se:=@Nat.sub_zero
abbrev sf:=@Go.wpIn_mono
abbrev si:=@List.map_filterMap
abbrev sj:=@List.map_replicate
abbrev sk:=@Go.heap_alloc_new
abbrev sm:=@of_decide_eq_false
abbrev sn:=@Go.run_append_nil
abbrev sq:=@Go.size_zeroCells
abbrev su:=@Array.size_append
abbrev sv:=@Function.comp_def
abbrev sw:=@Nat.le_zero
abbrev sx:=@Go.grownCap_ge
abbrev sy:=@Bool.and_true
abbrev tA:=@Go.wp_region_any
abbrev tB:=@Array.toList_map
abbrev tC:=@Bool.not_eq_true
abbrev tD:=@List.cons_append
abbrev tE:=@List.mem_toArray
abbrev tF:=@Go.Region.free_spec
abbrev tG:=@Nat.mul_comm
abbrev tH:=@Int.natCast_mul
abbrev tI:=@List.length_set
abbrev tJ:=@Int.le_refl
theorem tK:0+3<=3:=by decide
theorem tL:0+2<=2:=by decide
theorem tM:0<=0:=by decide
theorem tN:0+1<=2:=by decide
theorem tO:2<=6:=by decide
theorem tP:0+2<=3:=by decide
theorem tQ:0+1<=1:=by decide
theorem tR:0+5<=5:=by decide
theorem tS:2+3<=5:=by decide
theorem tT:0+0<=1:=by decide
theorem tU:2<=4:=by decide
theorem tV:0<=1:=by decide
theorem tW:2<=2:=by decide
theorem tX:2<=5:=by decide
theorem tY:1<=4:=by decide
theorem tZ:2<=3:=by decide
theorem ta:0+0<=2:=by decide
theorem tc:1<=2:=by decide
theorem td:0+1<=5:=by decide
theorem te:0<=4:=by decide
theorem th:0<=3:=by decide
theorem tj (i:Nat):((i:Int)+1)=((i+1:Nat):Int):=by omega
theorem tk:((0:Nat):Int)=0:=rfl
set_option linter.all false
namespace Go.Abs
open Go
theorem AA {α:Sort _}{a:α}:a=a:=rfl
inductive AV where
 |FZ
 |un
 |int (k:IntKind) (n:Int)
 |bool (b:Bool)
 |str (s:ByteArray)
 |zc
 |SL
 |SE
 |sl (xs:List (List AV))
 |own (id gen len:Nat)
 |ptr (id gen i off:Nat)
 |C9 (x:List AV) (off:Nat)
 |fn (f:FuncId) (vO:List AV)
 |agg (cs:List AV)
 |C8 (vs:List AV)
 |dv (el size:Nat) (xs:List (List AV))
 deriving Inhabited
abbrev i64 (n:Int):AV:=.int .i64 n
def AV.leaf:AV->Bool
 |.FZ|.un|.agg _|.C8 _|.dv ..=>false
 |_=>true
def AV.kept:AV->Bool
 |.dv ..=>true
 |c=>c.leaf
theorem Dg {c:AV}(h:c.leaf=true):c.kept=true:=by cases c<;>simp_all [AV.kept,AV.leaf]
structure Row where
 gen:Nat
 elem:TypeId
 size:Nat
 xs:List (List AV)
structure Own where
 row:Row
 GA:Option Nat
 cap:Nat
 more:Nat->Prop
def Own.owns (o:Own)(b:Nat):Prop:=o.GA=some b∨o.more b
def GF:Nat->Prop:=λ_=>False
mutual
def Ab (F:Nat->Prop)(w:World):List Own->AV->Value->Prop
 |_,.FZ,_=>True
 |_,.un,v=>v=undef
 |_,.int k n,v=>v=.int k n
 |_,.bool b,v=>v=.bool b
 |_,.str s,v=>v=.string s
 |_,.zc,v=>∃a,v=.slice a 0 0
 |_,.SL,v=>v=.pointer none
 |_,.SE,v=>v=.nilFunc
 |_,.sl xs,v=>∃a cap,v=.slice a xs.length cap/\xs.length<=cap/\(xs≠[]->∃b o size,a=some ⟨b,o,none⟩/\F b/\(∀x∈xs,x.length=size)/\H9 F w xs b o)
 |os,.own id g n,v=>∃o,os[id]?=some o/\g<=o.row.gen/\(∃a l c,v=.slice a l c)/\(o.row.gen=g->n<=o.row.xs.length/\((o.GA=none/\∃a,v=.slice a n 0)∨∃b,o.GA=some b/\v=.slice (some ⟨b,(o.row.xs.length-n)*o.row.size,none⟩) n (o.cap-(o.row.xs.length-n))))
 |os,.ptr id g i off,v=>∃o,os[id]?=some o/\g<=o.row.gen/\(∃a,v=.pointer a)/\(o.row.gen=g->i<o.row.xs.length/\off<=o.row.size/\∃b,o.GA=some b/\v=.pointer (some ⟨b,i*o.row.size+off,none⟩))
 |_,.C9 x off,v=>∃b o,v=.pointer (some ⟨b,o+off,none⟩)/\F b/\Fj F w x b o
 |os,.fn f vO,v=>∃us:List Value,v=.func (.func f) #[] us.toArray/\Br F w os vO us
 |os,.agg cs,v=>∃us:List Value,v=.agg us.toArray/\Br F w os cs us
 |os,.C8 vs,v=>∃us:List Value,v=.tuple us.toArray/\Br F w os vs us
 |_,.dv _ _ _,v=>∃a l c,v=.slice a l c
def Br (F:Nat->Prop)(w:World):List Own->List AV->List Value->Prop
 |_,[],us=>us=[]
 |os,x::r,us=>∃u xR,us=u::xR/\Ab F w os x u/\Br F w os r xR
def Fj (F:Nat->Prop)(w:World):List AV->Nat->Nat->Prop
 | [],_,_=>True
 |x::r,b,o=>(∃u,w.cell? ⟨b,o,none⟩=some u/\x.leaf=true/\Ab F w [] x u)/\Fj F w r b (o+1)
def H9 (F:Nat->Prop)(w:World):List (List AV)->Nat->Nat->Prop
 | [],_,_=>True
 |x::r,b,o=>Fj F w x b o/\H9 F w r b (o+x.length)
end
mutual
def Em (S:Nat->Prop)(w:World):AV->Value->Prop
 | .dv el size xs,v=>0<size/\((xs=[]/\∃a,v=.slice a 0 0)∨∃b cap cur,v=.slice (some ⟨b,0,none⟩) xs.length cap/\xs.length<=cap/\cap<=maxLen/\S b/\
   w.heap[b]?=some (.cells cur el (0,0))/\cur.size=cap*size/\(∀x∈xs,x.length=size)/\Lu (λc=>S c/\c≠b) w xs cur 0)
 |.int k n,v=>v=.int k n
 |.bool b,v=>v=.bool b
 |.str s,v=>v=.string s
 |.zc,v=>∃a,v=.slice a 0 0
 |.SL,v=>v=.pointer none
 |.SE,v=>v=.nilFunc
 |_,_=>False
def Lu (S:Nat->Prop)(w:World):List (List AV)->Array Value->Nat->Prop
 | [],_,_=>True
 |x::r,cur,o=>∃S1 S2:Nat->Prop,(∀b,S1 b->S b)/\(∀b,S2 b->S b)/\(∀b,S1 b->¬ S2 b)/\Ls S1 w x cur o/\Lu S2 w r cur (o+x.length)
def Ls (S:Nat->Prop)(w:World):List AV->Array Value->Nat->Prop
 | [],_,_=>True
 |x::r,cur,o=>∃S1 S2:Nat->Prop,(∀b,S1 b->S b)/\(∀b,S2 b->S b)/\(∀b,S1 b->¬ S2 b)/\(∃u,cur[o]?=some u/\Em S1 w x u)/\Ls S2 w r cur (o+1)
end
def LX (w:World)(o:Own):Prop:=
 ∃D:Nat->Nat->Nat->Prop,(∀i j b,D i j b->o.more b)/\(∀i j i' j' b,D i j b->D i' j' b->i=i'/\j=j')/\
  ∀b,o.GA=some b->∀cur el l,w.heap[b]?=some (.cells cur el l)->∀(i:Nat) x (j:Nat) e s ys,o.row.xs[i]?=some x->x[j]?=some (.dv e s ys)->
   ∃u,cur[i*o.row.size+j]?=some u/\Em (D i j) w (.dv e s ys) u
structure Ma (F:Nat->Prop) (w:World) (os:List Own) (o:Own):Prop where
 pos:0<o.row.size
 lens :∀x∈o.row.xs,x.length=o.row.size/\∀c∈x,c.kept=true
 none:o.GA=none->o.row.xs=[]/\o.cap=0
 some :∀b,o.GA=some b->¬ F b/\∃cur:Array Value,w.heap[b]?=some (.cells cur o.row.elem (0,0))/\cur.size=o.cap*o.row.size/\o.row.xs.length<=o.cap/\o.cap<=maxLen/\
  ∀i x,o.row.xs[i]?=some x->∀j c,x[j]?=some c->∃u,cur[i*o.row.size+j]?=some u/\Ab F w os c u
 mo :∀b,o.more b->¬ F b/\b<w.heap.size/\o.GA≠Option.some b
 deep:LX w o
theorem NF {o:Own}{n b:Nat}(h:n=o.row.xs.length):Value.slice (some ⟨b,(o.row.xs.length-n)*o.row.size,none⟩) n (o.cap-(o.row.xs.length-n))=.slice (some ⟨b,0,none⟩) n o.cap:=by
 subst h;simp
structure St where
 n:Nat
 env:Nat->AV
 st:List Row
def DQ (e:Nat->AV)(d:Nat)(v:AV):Nat->AV:=λk=>if k=d then v else e k
structure Rel (F:Nat->Prop) (os:List Own) (s:St) (a:Act) (w:World):Prop where
 st:os.map Own.row=s.st
 env :∀k,Ab F w os (s.env k) (a.tmps.getD k undef)
 size:a.tmps.size=s.n
 rows :∀(i:Nat) (o:Own),os[i]?=some o->Ma F w os o
 inj :∀(i j:Nat) (oi oj:Own) (b:Nat),os[i]?=some oi->os[j]?=some oj->oi.owns b->oj.owns b->i=j
 Fu :∀b,F b->b<w.heap.size
 defers:a.defers=[]
structure Ext (F:Nat->Prop) (os:List Own) (w:World) (F':Nat->Prop) (os':List Own) (w':World) (k:Nat):Prop where
 sys:w'.os=w.os
 tape:w'.tape=w.tape
 output:w'.output=w.output
 size:w.heap.size<=w'.heap.size
 Ny :∀b,F b->F' b
 Ix :∀b,F b->w'.heap[b]?=w.heap[b]?
 other :∀b,b<w.heap.size->¬ F b->(∀o:Own,o∈os->¬ o.owns b)->w'.heap[b]?=w.heap[b]?/\¬ F' b/\∀o:Own,o∈os'->¬ o.owns b
 Vn :∀(i:Nat) (o:Own),i<k->os[i]?=some o->∃o':Own,os'[i]?=some o'/\o.row.gen<=o'.row.gen/\o'.row.size=o.row.size/\(o'.row.gen=o.row.gen->o'.GA=o.GA/\o'.cap=o.cap/\o'.row.xs.length=o.row.xs.length)
theorem Ext.refl (F:Nat->Prop)(os:List Own)(w:World)(k:Nat):Ext F os w F os w k:=
 ⟨rfl,rfl,rfl,pL _,λ_ h=>h,λ_ _=>rfl,λ_ _ h1 h2=>⟨rfl,h1,h2⟩,λ_ o _ h=>⟨o,h,pL _,rfl,λ_=>⟨rfl,rfl,rfl⟩⟩⟩
theorem Ext.trans {F F' F'':Nat->Prop}{os os' os'':List Own}{w w' w'':World}{k:Nat}(h:Ext F os w F' os' w' k)(g:Ext F' os' w' F'' os'' w'' k):Ext F os w F'' os'' w'' k:=by
 refine⟨g.sys.trans h.sys,g.tape.trans h.tape,g.output.trans h.output,rl h.size g.size,λb hb=>g.Ny b (h.Ny b hb),
  λb hb=>(g.Ix b (h.Ny b hb)).trans (h.Ix b hb),λb hb h1 h2=>?_,λi o hi ho=>?_⟩
 .obtain⟨e1,n1,m1⟩:=h.other b hb h1 h2;obtain⟨e2,n2,m2⟩:=g.other b (qK hb h.size) n1 m1;exact⟨e2.trans e1,n2,m2⟩
 .obtain⟨o',uw,l1,s1,p1⟩:=h.Vn i o hi ho;obtain⟨o'',ho'',l2,s2,p2⟩:=g.Vn i o' hi uw;refine⟨o'',ho'',rl l1 l2,s2.trans s1,λe=>?_⟩;have e1:o'.row.gen=o.row.gen:=by omega
  have e2:o''.row.gen=o'.row.gen:=by omega
  obtain⟨a1,a2,a3⟩:=p1 e1;obtain⟨b1,b2,b3⟩:=p2 e2;exact⟨b1.trans a1,b2.trans a2,b3.trans a3⟩
mutual
theorem DW {F F':Nat->Prop}{w w':World}(hF :∀b,F b->F' b)(hw :∀b,F b->w'.heap[b]?=w.heap[b]?):
  ∀(os os':List Own) (_ :∀(i:Nat) (o:Own),os[i]?=some o->∃o':Own,os'[i]?=some o'/\o.row.gen<=o'.row.gen/\o'.row.size=o.row.size/\(o'.row.gen=o.row.gen->o'.GA=o.GA/\o'.cap=o.cap/\o'.row.xs.length=o.row.xs.length)) (x:AV) (v:Value),Ab F w os x v->Ab F' w' os' x v
 |_,_,_,.FZ,_,_=>by simp[Ab]
 |_,_,_,.un,_,h=>by simpa [Ab] using h
 |_,_,_,.int _ _,_,h=>by simpa [Ab] using h
 |_,_,_,.bool _,_,h=>by simpa [Ab] using h
 |_,_,_,.str _,_,h=>by simpa [Ab] using h
 |_,_,_,.zc,_,h=>by simpa [Ab] using h
 |_,_,_,.SL,_,h=>by simpa [Ab] using h
 |_,_,_,.SE,_,h=>by simpa [Ab] using h
 |_,_,_,.dv ..,_,h=>by simpa [Ab] using h
 |_,_,_,.sl xs,v,h=>by
  simp only[Ab]at h⊢;obtain⟨a,cap,hv,xM,h2⟩:=h;refine⟨a,cap,hv,xM,λuq=>?_⟩;obtain⟨b,o,size,ha,hb,hs,hr⟩:=h2 uq;exact⟨b,o,size,ha,hF b hb,hs,SC hF hw xs b o hb hr⟩
 |os,os',vP,.own id g n,v,h=>by
  simp only[Ab]at h⊢;obtain⟨o,ho,hle,yZ,h1⟩:=h;obtain⟨o',uw,yb,hs',hp'⟩:=vP id o ho;refine⟨o',uw,by omega,yZ,λe=>?_⟩;obtain⟨e1,e2,e3⟩:=hp' (by omega);obtain⟨h2,h3⟩:=h1 (by omega);refine⟨by omega,?_⟩;rw[e1,e2,e3,hs'];exact h3
 |os,os',vP,.ptr id g i off,v,h=>by
  simp only[Ab]at h⊢;obtain⟨o,ho,hle,yZ,h1⟩:=h;obtain⟨o',uw,yb,hs',hp'⟩:=vP id o ho;refine⟨o',uw,by omega,yZ,λe=>?_⟩;obtain⟨e1,e2,e3⟩:=hp' (by omega);obtain⟨h2,h3,h4⟩:=h1 (by omega);refine⟨by omega,by omega,?_⟩;rw[e1,hs'];exact h4
 |_,_,_,.C9 x off,v,h=>by
  simp only[Ab]at h⊢;obtain⟨b,o,hv,hb,hr⟩:=h;exact⟨b,o,hv,hF b hb,NV hF hw x b o hb hr⟩
 |os,os',vP,.fn f vO,v,h=>by
  simp only[Ab]at h⊢;obtain⟨us,hv,hr⟩:=h;exact⟨us,hv,PV hF hw os os' vP vO us hr⟩
 |os,os',vP,.agg cs,v,h=>by
  simp only[Ab]at h⊢;obtain⟨us,hv,hr⟩:=h;exact⟨us,hv,PV hF hw os os' vP cs us hr⟩
 |os,os',vP,.C8 cs,v,h=>by
  simp only[Ab]at h⊢;obtain⟨us,hv,hr⟩:=h;exact⟨us,hv,PV hF hw os os' vP cs us hr⟩
theorem PV {F F':Nat->Prop}{w w':World}(hF :∀b,F b->F' b)(hw :∀b,F b->w'.heap[b]?=w.heap[b]?):
  ∀(os os':List Own) (_ :∀(i:Nat) (o:Own),os[i]?=some o->∃o':Own,os'[i]?=some o'/\o.row.gen<=o'.row.gen/\o'.row.size=o.row.size/\(o'.row.gen=o.row.gen->o'.GA=o.GA/\o'.cap=o.cap/\o'.row.xs.length=o.row.xs.length)) (xs:List AV) (us:List Value),Br F w os xs us->Br F' w' os' xs us
 |_,_,_,[],_,h=>by simpa [Br] using h
 |os,os',vP,x::r,us,h=>by
  simp only[Br]at h⊢;obtain⟨u,xR,hu,h1,h2⟩:=h;exact⟨u,xR,hu,DW hF hw os os' vP x u h1,PV hF hw os os' vP r xR h2⟩
theorem NV {F F':Nat->Prop}{w w':World}(hF :∀b,F b->F' b)(hw :∀b,F b->w'.heap[b]?=w.heap[b]?):
  ∀(xs:List AV) (b o:Nat),F b->Fj F w xs b o->Fj F' w' xs b o
 | [],_,_,_,_=>by simp[Fj]
 |x::r,b,o,hb,h=>by
  simp only[Fj]at h⊢;obtain⟨⟨u,hu,hl,h1⟩,h2⟩:=h;refine⟨⟨u,?_,hl,DW hF hw [] [] (by simp) x u h1⟩,NV hF hw r b (o+1) hb h2⟩;rw[<- hu];exact rY (hw b hb)
theorem SC {F F':Nat->Prop}{w w':World}(hF :∀b,F b->F' b)(hw :∀b,F b->w'.heap[b]?=w.heap[b]?):
  ∀(xs:List (List AV)) (b o:Nat),F b->H9 F w xs b o->H9 F' w' xs b o
 | [],_,_,_,_=>by simp[H9]
 |x::r,b,o,hb,h=>by
  simp only[H9]at h⊢;exact⟨NV hF hw x b o hb h.1,SC hF hw r b (o+x.length) hb h.2⟩
end
mutual
theorem NR {S S':Nat->Prop}{w w':World}(hS :∀b,S b->S' b)(hw :∀b,S b->w'.heap[b]?=w.heap[b]?):∀(x:AV) (v:Value),Em S w x v->Em S' w' x v
 |.dv el size xs,v,h=>by
  simp only[Em]at h⊢;obtain⟨hp,h⟩:=h;refine⟨hp,?_⟩;rcases h with h|⟨b,cap,cur,h1,h2,h3,h4,h5,h6,h7,h8⟩
  .exact .inl h
  .refine .inr ⟨b,cap,cur,h1,h2,h3,hS b h4,by rw[hw b h4];exact h5,h6,h7,QP (S:=λc=>S c/\c≠b) (λc hc=>⟨hS c hc.1,hc.2⟩) (λc hc=>hw c hc.1) xs cur 0 h8⟩
 |.int _ _,_,h=>by simpa [Em] using h
 |.bool _,_,h=>by simpa [Em] using h
 |.str _,_,h=>by simpa [Em] using h
 |.zc,_,h=>by simpa [Em] using h
 |.SL,_,h=>by simpa [Em] using h
 |.SE,_,h=>by simpa [Em] using h
 |.FZ,_,h=>by simp[Em]at h
 |.un,_,h=>by simp[Em]at h
 |.sl _,_,h=>by simp[Em]at h
 |.own ..,_,h=>by simp[Em]at h
 |.ptr ..,_,h=>by simp[Em]at h
 |.C9 ..,_,h=>by simp[Em]at h
 |.fn ..,_,h=>by simp[Em]at h
 |.agg _,_,h=>by simp[Em]at h
 |.C8 _,_,h=>by simp[Em]at h
theorem QP {S S':Nat->Prop}{w w':World}(hS :∀b,S b->S' b)(hw :∀b,S b->w'.heap[b]?=w.heap[b]?):∀(xs:List (List AV)) (cur:Array Value) (o:Nat),Lu S w xs cur o->Lu S' w' xs cur o
 | [],_,_,_=>by simp[Lu]
 |x::r,cur,o,h=>by
  simp only[Lu]at h⊢;obtain⟨S1,S2,h1,h2,h3,h4,h5⟩:=h;exact⟨S1,S2,λb hb=>hS b (h1 b hb),λb hb=>hS b (h2 b hb),h3,V6 (λ_ h=>h) (λb hb=>hw b (h1 b hb)) x cur o h4,QP (λ_ h=>h) (λb hb=>hw b (h2 b hb)) r cur _ h5⟩
theorem V6 {S S':Nat->Prop}{w w':World}(hS :∀b,S b->S' b)(hw :∀b,S b->w'.heap[b]?=w.heap[b]?):∀(xs:List AV) (cur:Array Value) (o:Nat),Ls S w xs cur o->Ls S' w' xs cur o
 | [],_,_,_=>by simp[Ls]
 |x::r,cur,o,h=>by
  simp only[Ls]at h⊢;obtain⟨S1,S2,h1,h2,h3,⟨u,h4,h5⟩,h6⟩:=h;exact⟨S1,S2,λb hb=>hS b (h1 b hb),λb hb=>hS b (h2 b hb),h3,⟨u,h4,NR (λ_ h=>h) (λb hb=>hw b (h1 b hb)) x u h5⟩,V6 (λ_ h=>h) (λb hb=>hw b (h2 b hb)) r cur _ h6⟩
end
theorem EJ {w:World}{o:Own}(h :∀x∈o.row.xs,∀c∈x,c.leaf=true):LX w o:=
 ⟨λ_ _ _=>False,λ_ _ _ h=>h.elim,λ_ _ _ _ _ h=>h.elim,λ_ _ _ _ _ _ i x j e s ys hx hc=>by
  have:=h x (ov hx) _ (ov hc);simp[AV.leaf]at this⟩
theorem LX.keep {w w':World}{o o':Own}(h:LX w o)(hb:o'.GA=o.GA)(hm :∀b,o.more b->o'.more b)(hs:o'.row.size=o.row.size)
  (hw :∀b,o.owns b->w'.heap[b]?=w.heap[b]?)
  (hr :∀(i:Nat) x (j:Nat) e s ys,o'.row.xs[i]?=some x->x[j]?=some (.dv e s ys)->∃x0,o.row.xs[i]?=some x0/\x0[j]?=some (.dv e s ys)):LX w' o':=by
 obtain⟨D,h1,h2,h3⟩:=h;refine⟨D,λi j b hb=>hm b (h1 i j b hb),h2,λb xN cur el l uO i x j e s ys hx hc=>?_⟩;rw[hb]at xN;rw[hw b (.inl xN)]at uO;obtain⟨x0,hx0,wS⟩:=hr i x j e s ys hx hc;obtain⟨u,e1,e2⟩:=h3 b xN cur el l uO i x0 j e s ys hx0 wS;exact⟨u,by rw[hs];exact e1,NR (λ_ h=>h) (λc hc=>hw c (.inr (h1 i j c hc))) _ u e2⟩
theorem LX.mapped {w:World}{o o':Own}(f:AV->AV)(hf :∀c e s ys,f c=.dv e s ys->c=.dv e s ys)(h:LX w o)(hb:o'.GA=o.GA)(hm:o'.more=o.more)(hs:o'.row.size=o.row.size)
  (hx:o'.row.xs=o.row.xs.map (·.map f)):LX w o':=by
 refine h.keep hb (λb hb=>by rw[hm];exact hb) hs (λ_ _=>rfl) λi x j e s ys xS hc=>?_;rw[hx,pB,pH]at xS;obtain⟨y,hy,rfl⟩:=xS;rw[pB,pH]at hc;obtain⟨d,hd,hc⟩:=hc;exact⟨y,hy,by rw[hd,hf _ _ _ _ hc]⟩
theorem Ma.lt {F:Nat->Prop}{w:World}{os:List Own}{o:Own}(h:Ma F w os o){b:Nat}(hb:o.owns b):b<w.heap.size:=by
 rcases hb with hb|hb
 .obtain⟨_,cur,uO,_⟩:=h.some b hb;exact (px.1 uO).1
 .exact (h.mo b hb).2.1
theorem Ma.nF {F:Nat->Prop}{w:World}{os:List Own}{o:Own}(h:Ma F w os o){b:Nat}(hb:o.owns b):¬ F b:=by
 rcases hb with hb|hb
 .exact (h.some b hb).1
 .exact (h.mo b hb).1
end Go.Abs
