import Derived.WalkKit
import Derived.Below
import Derived.OwnWalk
import Derived.Orders
import Derived.StillTail
abbrev lS:=@Option.bind_some
abbrev lT:=@List.mem_of_getElem?
abbrev lU:=@trivial
abbrev lV:=@List.getElem?_eq_some_iff
abbrev lW:=@List.getElem?_map
abbrev lX:=@Option.some.injEq
abbrev lY:=@Bool.false_eq_true
abbrev lZ:=@List.getElem?_eq_getElem
abbrev la:=@if_neg
abbrev ld:=@if_pos
abbrev lg:=@Option.map_eq_some_iff
abbrev lh:=@List.all_eq_true
abbrev lj:=@List.getElem?_append_left
abbrev lk:=@List.mem_cons
abbrev ll:=@Nat.le_refl
abbrev ln:=@List.getElem?_append_right
abbrev lp:=@List.getElem?_set_self
abbrev lq:=@decide_eq_true_eq
abbrev lr:=@decide_true
abbrev lu:=@List.mem_singleton
abbrev lv:=@List.mem_iff_getElem?
abbrev lx:=@decide_false
abbrev ly:=@List.length_map
abbrev lz:=@List.mem_append
abbrev mA:=@List.mem_map
abbrev mB:=@Nat.zero_le
abbrev mC:=@if_false
abbrev mD:=@List.length_append
abbrev mE:=@Bool.and_eq_true
abbrev mF:=@List.map_cons
abbrev mG:=@List.getElem?_set_ne
abbrev mH:=@List.map_congr_left
abbrev mI:=@List.getElem?_cons_zero
abbrev mJ:=@List.getElem?_take
abbrev mK:=@List.not_mem_nil
abbrev mL:=@if_true
abbrev mM:=@Nat.add_mul
abbrev mN:=@List.length_cons
abbrev mO:=@Array.getElem?_eq_some_iff
abbrev mP:=@Nat.mul_le_mul_right
abbrev mQ:=@List.getElem?_cons_succ
abbrev mR:=@Option.bind_eq_some_iff
abbrev mS:=@Int.eq_ofNat_of_zero_le
abbrev mT:=@Go.Result.andThen_ok
abbrev mU:=@List.getElem?_drop
abbrev mV:=@List.getElem?_eq_none
abbrev mW:=@Go.Sem.run_bind
abbrev mX:=@List.take_of_length_le
abbrev mY:=@List.eq_nil_of_length_eq_zero
abbrev mZ:=@Option.map_some
abbrev ma:=@Nat.lt_of_lt_of_le
abbrev mc:=@congrArg
abbrev me:=@Go.run_underlying
abbrev mf:=@List.mem_append_left
abbrev mg:=@List.mem_or_eq_of_mem_set
abbrev mh:=@List.mem_cons_of_mem
abbrev ml:=@Nat.zero_add
abbrev mm:=@Go.Sem.run_pure
abbrev mn:=@List.append_nil
abbrev mq:=@List.mem_of_mem_take
abbrev mr:=@or_false
abbrev mu:=@List.mem_filterMap
abbrev mw:=@Array.getElem?_eq_getElem
abbrev my:=@List.append_assoc
abbrev mz:=@of_decide_eq_true
abbrev nA:=@Bool.not_true
abbrev nB:=@Array.getD_eq_getD_getElem?
abbrev nC:=@List.mem_map_of_mem
abbrev nD:=@List.length_nil
abbrev nE:=@List.take_zero
abbrev nG:=@Nat.lt_trichotomy
abbrev nH:=@List.map_id
abbrev nI:=@List.map_append
abbrev nJ:=@List.nil_append
abbrev nK:=@Ne.symm
abbrev nL:=@List.take_length
abbrev nM:=@List.getElem?_range
abbrev nN:=@List.getElem?_zipWith
abbrev nO:=@List.ext_getElem?
abbrev nP:=@Array.getElem?_append_left
abbrev nQ:=@List.drop_zero
abbrev nR:=@List.mem_of_mem_drop
abbrev nS:=@Nat.add_assoc
abbrev nT:=@Option.some.inj
abbrev nU:=@List.map_map
abbrev nV:=@List.map_nil
abbrev nW:=@Nat.sub_self
abbrev nX:=@List.filterMap_cons
abbrev nY:=@Int.toNat_natCast
abbrev nZ:=@Nat.eq_of_beq_eq_true
abbrev na:=@List.mem_range
abbrev nb:=@Nat.lt_or_ge
abbrev nf:=@List.mem_cons_self
abbrev ng:=@Option.getD_some
abbrev nh:=@List.findIdx?_eq_some_iff_getElem
abbrev ni:=@List.getD_eq_getElem?_getD
abbrev nj:=@List.map_set
abbrev nk:=@Array.getElem?_toList
abbrev nm:=@List.mem_append_right
abbrev np:=@Nat.le_of_ble_eq_true
abbrev nq:=@List.length_take
abbrev nr:=@Nat.eq_zero_or_pos
abbrev ns:=@List.all_cons
abbrev nt:=@Array.length_toList
abbrev nv:=@List.drop_eq_nil_of_le
abbrev nw:=@Nat.add_zero
abbrev nx:=@Nat.le_trans
abbrev ny:=@Option.elim_some
abbrev nz:=@List.getElem?_eq_none_iff
abbrev oB:=@Go.World.cell?_of_block
abbrev oC:=@List.any_eq_true
abbrev oD:=@List.getElem_mem
abbrev oE:=@List.length_drop
abbrev oF:=@decide_eq_decide
abbrev oG:=@decide_eq_false_iff_not
abbrev oH:=@Go.wp_mono
abbrev oI:=@List.cons.injEq
abbrev oJ:=@List.sum_cons
abbrev oK:=@List.getElem?_toArray
abbrev oL:=@List.size_toArray
abbrev oM:=@Array.ext'
abbrev oN:=@Array.toArray_toList
abbrev oO:=@Go.heap_alloc_old
abbrev oP:=@Go.ready_mono
abbrev oQ:=@Nat.mod_eq_of_lt
abbrev oR:=@Go.mem_ready
abbrev oS:=@List.pairwise_iff_getElem
abbrev oT:=@List.map_eq_nil_iff
abbrev oU:=@Array.setIfInBounds_comm
abbrev oV:=@Nat.div_le_self
abbrev oW:=@Nat.min_eq_left
abbrev oX:=@Go.run_append_grow
abbrev oY:=@Int.natCast_nonneg
abbrev oZ:=@List.set_cons_zero
abbrev oa:=@decide_eq_true_iff
abbrev ob:=@Go.grownCap_le_maxLen
abbrev oc:=@Go.cell_of_row
abbrev od:=@Array.getElem?_eq_none
abbrev oe:=@List.drop_of_length_le
abbrev og:=@List.mapM_cons
abbrev oh:=@Go.growslice_fits
abbrev om:=@List.length_replicate
abbrev ot:=@List.set_append_right
abbrev ou:=@List.set_getElem_self
abbrev ov:=@List.drop_length
abbrev oz:=@Bool.true_and
abbrev pA:=@Prod.mk.injEq
abbrev pB:=@Array.mem_toList_iff
abbrev pC:=@List.getElem?_mapIdx
abbrev pD:=@Go.getD_set_ne
abbrev pF:=@decide_eq_false
abbrev pG:=@List.length_pos_iff
abbrev pH:=@List.take_set_of_le
abbrev pI:=@Nat.sub_zero
abbrev pJ:=@Nat.zero_mul
abbrev pK:=@Go.wpIn_mono
abbrev pL:=@List.map_filterMap
abbrev pM:=@List.map_replicate
abbrev pN:=@List.mem_replicate
abbrev pO:=@Nat.mul_le_mul
abbrev pP:=@of_decide_eq_false
abbrev pQ:=@Function.comp_def
abbrev pR:=@List.length_range
abbrev pS:=@Nat.le_zero
abbrev pT:=@Go.setRow_heap
abbrev pU:=@Bool.and_self
abbrev pV:=@Go.wp_region_any
abbrev pW:=@Array.toList_map
abbrev pX:=@Bool.not_eq_true
abbrev pY:=@List.cons_append
abbrev pZ:=@List.map_toArray
abbrev pa:=@List.mem_toArray
abbrev pb:=@Go.Region.free_spec
abbrev pc:=@Nat.mul_comm
abbrev pd:=@Int.natCast_mul
abbrev pf:=@List.length_set
abbrev ph:=@Option.map_none
theorem pj:0+3<=3:=by decide
theorem pk:0+2<=2:=by decide
theorem pn:0<=0:=by decide
theorem po:0+1<=1:=by decide
theorem pq:0+5<=5:=by decide
theorem pt:1<=2:=by decide
theorem pw:0+1<=2:=by decide
theorem px:1<=4:=by decide
theorem py:2<=4:=by decide
theorem pz:2+3<=5:=by decide
theorem qA:0+2<=3:=by decide
theorem qB:2<=5:=by decide
theorem qC:0<=2:=by decide
theorem qD:0<=1:=by decide
theorem qF:1+1<=2:=by decide
theorem qG:1<=3:=by decide
theorem qH:1<=5:=by decide
theorem qI:2<=6:=by decide
theorem qJ:0+0<=1:=by decide
theorem qK:1<=6:=by decide
theorem qM:1<=1:=by decide
theorem qN:2<=3:=by decide
theorem qO:2+1<=3:=by decide
theorem qP:1<=7:=by decide
theorem qQ:0+0<=2:=by decide
theorem qR:2<=2:=by decide
theorem qS:0+1<=5:=by decide
theorem qT (i:Nat):((i:Int)+1)=((i+1:Nat):Int):=by omega
theorem qU:((0:Nat):Int)=0:=rfl
set_option linter.all false
namespace Go.Abs
open Go
theorem AA {α:Sort _}{a:α}:a=a:=rfl
inductive AV where
 | E7
 | un
 | int (k:IntKind) (n:Int)
 | bool (b:Bool)
 | str (s:ByteArray)
 | zc
 | RI
 | Q7
 | sl (xs:List (List AV))
 | own (id gen len:Nat)
 | ptr (id gen i off:Nat)
 | Bn (x:List AV) (off:Nat)
 | fn (f:FuncId) (rT:List AV)
 | agg (cs:List AV)
 | Dd (vs:List AV)
 | dv (el size:Nat) (xs:List (List AV))
 deriving Inhabited
abbrev i64 (n:Int):AV:=.int .i64 n
def AV.leaf:AV->Bool
 | .E7|.un|.agg _|.Dd _|.dv ..=>false
 | _=>true
def AV.kept:AV->Bool
 | .dv ..=>true
 | c=>c.leaf
theorem D3 {c:AV}(h:c.leaf=true):c.kept=true:=by cases c<;>simp_all [AV.kept,AV.leaf]
structure Row where
 gen:Nat
 elem:TypeId
 size:Nat
 xs:List (List AV)
structure Own where
 row:Row
 Fk:Option Nat
 cap:Nat
 more:Nat->Prop
def Own.owns (o:Own)(b:Nat):Prop:=o.Fk=some b∨o.more b
def Fe:Nat->Prop:=λ_=>False
mutual
def Ae (F:Nat->Prop)(w:World):List Own->AV->Value->Prop
 | _,.E7,_=>True
 | _,.un,v=>v=undef
 | _,.int k n,v=>v=.int k n
 | _,.bool b,v=>v=.bool b
 | _,.str s,v=>v=.string s
 | _,.zc,v=>∃a,v=.slice a 0 0
 | _,.RI,v=>v=.pointer none
 | _,.Q7,v=>v=.nilFunc
 | _,.sl xs,v=>∃a cap,v=.slice a xs.length cap/\xs.length<=cap/\(xs≠[]->∃b o size,a=some ⟨b,o,none⟩/\F b/\(∀x∈xs,x.length=size)/\HX F w xs b o)
 | os,.own id g n,v=>∃o,os[id]?=some o/\g<=o.row.gen/\(∃a l c,v=.slice a l c)/\(o.row.gen=g->n<=o.row.xs.length/\((o.Fk=none/\∃a,v=.slice a n 0)∨∃b,o.Fk=some b/\v=.slice (some ⟨b,(o.row.xs.length-n)*o.row.size,none⟩) n (o.cap-(o.row.xs.length-n))))
 | os,.ptr id g i off,v=>∃o,os[id]?=some o/\g<=o.row.gen/\(∃a,v=.pointer a)/\(o.row.gen=g->i<o.row.xs.length/\off<=o.row.size/\∃b,o.Fk=some b/\v=.pointer (some ⟨b,i*o.row.size+off,none⟩))
 | _,.Bn x off,v=>∃b o,v=.pointer (some ⟨b,o+off,none⟩)/\F b/\FI F w x b o
 | os,.fn f rT,v=>∃us:List Value,v=.func (.func f) #[] us.toArray/\Bs F w os rT us
 | os,.agg cs,v=>∃us:List Value,v=.agg us.toArray/\Bs F w os cs us
 | os,.Dd vs,v=>∃us:List Value,v=.tuple us.toArray/\Bs F w os vs us
 | _,.dv _ _ _,v=>∃a l c,v=.slice a l c
def Bs (F:Nat->Prop)(w:World):List Own->List AV->List Value->Prop
 | _,[],us=>us=[]
 | os,x::r,us=>∃u tM,us=u::tM/\Ae F w os x u/\Bs F w os r tM
def FI (F:Nat->Prop)(w:World):List AV->Nat->Nat->Prop
 | [],_,_=>True
 | x::r,b,o=>(∃u,w.cell? ⟨b,o,none⟩=some u/\x.leaf=true/\Ae F w [] x u)/\FI F w r b (o+1)
def HX (F:Nat->Prop)(w:World):List (List AV)->Nat->Nat->Prop
 | [],_,_=>True
 | x::r,b,o=>FI F w x b o/\HX F w r b (o+x.length)
end
mutual
def EV (S:Nat->Prop)(w:World):AV->Value->Prop
 | .dv el size xs,v=>0<size/\((xs=[]/\∃a,v=.slice a 0 0)∨∃b cap cur,v=.slice (some ⟨b,0,none⟩) xs.length cap/\xs.length<=cap/\cap<=maxLen/\S b/\
   w.heap[b]?=some (.cells cur el (0,0))/\cur.size=cap*size/\(∀x∈xs,x.length=size)/\LG (λc=>S c/\c≠b) w xs cur 0)
 | .int k n,v=>v=.int k n
 | .bool b,v=>v=.bool b
 | .str s,v=>v=.string s
 | .zc,v=>∃a,v=.slice a 0 0
 | .RI,v=>v=.pointer none
 | .Q7,v=>v=.nilFunc
 | _,_=>False
def LG (S:Nat->Prop)(w:World):List (List AV)->Array Value->Nat->Prop
 | [],_,_=>True
 | x::r,cur,o=>∃S1 S2:Nat->Prop,(∀b,S1 b->S b)/\(∀b,S2 b->S b)/\(∀b,S1 b->¬ S2 b)/\LB S1 w x cur o/\LG S2 w r cur (o+x.length)
def LB (S:Nat->Prop)(w:World):List AV->Array Value->Nat->Prop
 | [],_,_=>True
 | x::r,cur,o=>∃S1 S2:Nat->Prop,(∀b,S1 b->S b)/\(∀b,S2 b->S b)/\(∀b,S1 b->¬ S2 b)/\(∃u,cur[o]?=some u/\EV S1 w x u)/\LB S2 w r cur (o+1)
end
def Kq (w:World)(o:Own):Prop:=
 ∃D:Nat->Nat->Nat->Prop,(∀i j b,D i j b->o.more b)/\(∀i j i' j' b,D i j b->D i' j' b->i=i'/\j=j')/\
  ∀b,o.Fk=some b->∀cur el l,w.heap[b]?=some (.cells cur el l)->∀(i:Nat) x (j:Nat) e s ys,o.row.xs[i]?=some x->x[j]?=some (.dv e s ys)->
   ∃u,cur[i*o.row.size+j]?=some u/\EV (D i j) w (.dv e s ys) u
structure Me (F:Nat->Prop) (w:World) (os:List Own) (o:Own):Prop where
 pos:0<o.row.size
 lens :∀x∈o.row.xs,x.length=o.row.size/\∀c∈x,c.kept=true
 none:o.Fk=none->o.row.xs=[]/\o.cap=0
 some :∀b,o.Fk=some b->¬ F b/\∃cur:Array Value,w.heap[b]?=some (.cells cur o.row.elem (0,0))/\cur.size=o.cap*o.row.size/\o.row.xs.length<=o.cap/\o.cap<=maxLen/\
  ∀i x,o.row.xs[i]?=some x->∀j c,x[j]?=some c->∃u,cur[i*o.row.size+j]?=some u/\Ae F w os c u
 mo :∀b,o.more b->¬ F b/\b<w.heap.size/\o.Fk≠Option.some b
 deep:Kq w o
theorem MM {o:Own}{n b:Nat}(h:n=o.row.xs.length):Value.slice (some ⟨b,(o.row.xs.length-n)*o.row.size,none⟩) n (o.cap-(o.row.xs.length-n))=.slice (some ⟨b,0,none⟩) n o.cap:=by
 subst h;simp
structure St where
 n:Nat
 env:Nat->AV
 st:List Row
def EI (e:Nat->AV)(d:Nat)(v:AV):Nat->AV:=λk=>if k=d then v else e k
structure Rel (F:Nat->Prop) (os:List Own) (s:St) (a:Act) (w:World):Prop where
 st:os.map Own.row=s.st
 env :∀k,Ae F w os (s.env k) (a.tmps.getD k undef)
 size:a.tmps.size=s.n
 rows :∀(i:Nat) (o:Own),os[i]?=some o->Me F w os o
 inj :∀(i j:Nat) (oi oj:Own) (b:Nat),os[i]?=some oi->os[j]?=some oj->oi.owns b->oj.owns b->i=j
 FR :∀b,F b->b<w.heap.size
 defers:a.defers=[]
structure Ext (F:Nat->Prop) (os:List Own) (w:World) (F':Nat->Prop) (os':List Own) (w':World) (k:Nat):Prop where
 sys:w'.os=w.os
 tape:w'.tape=w.tape
 output:w'.output=w.output
 size:w.heap.size<=w'.heap.size
 NQ :∀b,F b->F' b
 IX :∀b,F b->w'.heap[b]?=w.heap[b]?
 other :∀b,b<w.heap.size->¬ F b->(∀o:Own,o∈os->¬ o.owns b)->w'.heap[b]?=w.heap[b]?/\¬ F' b/\∀o:Own,o∈os'->¬ o.owns b
 UL :∀(i:Nat) (o:Own),i<k->os[i]?=some o->∃o':Own,os'[i]?=some o'/\o.row.gen<=o'.row.gen/\o'.row.size=o.row.size/\(o'.row.gen=o.row.gen->o'.Fk=o.Fk/\o'.cap=o.cap/\o'.row.xs.length=o.row.xs.length)
theorem Ext.refl (F:Nat->Prop)(os:List Own)(w:World)(k:Nat):Ext F os w F os w k:=
 ⟨rfl,rfl,rfl,ll _,λ_ h=>h,λ_ _=>rfl,λ_ _ h1 h2=>⟨rfl,h1,h2⟩,λ_ o _ h=>⟨o,h,ll _,rfl,λ_=>⟨rfl,rfl,rfl⟩⟩⟩
theorem Ext.trans {F F' F'':Nat->Prop}{os os' os'':List Own}{w w' xS:World}{k:Nat}(h:Ext F os w F' os' w' k)(g:Ext F' os' w' F'' os'' xS k):Ext F os w F'' os'' xS k:=by
 refine⟨g.sys.trans h.sys,g.tape.trans h.tape,g.output.trans h.output,nx h.size g.size,λb hb=>g.NQ b (h.NQ b hb),
  λb hb=>(g.IX b (h.NQ b hb)).trans (h.IX b hb),λb hb h1 h2=>?_,λi o hi ho=>?_⟩
 ·obtain⟨e1,n1,m1⟩:=h.other b hb h1 h2;obtain⟨e2,n2,m2⟩:=g.other b (ma hb h.size) n1 m1;exact⟨e2.trans e1,n2,m2⟩
 ·obtain⟨o',rH,l1,s1,p1⟩:=h.UL i o hi ho;obtain⟨o'',ho'',l2,s2,p2⟩:=g.UL i o' hi rH;refine⟨o'',ho'',nx l1 l2,s2.trans s1,λe=>?_⟩;have e1:o'.row.gen=o.row.gen:=by omega
  have e2:o''.row.gen=o'.row.gen:=by omega
  obtain⟨a1,a2,a3⟩:=p1 e1;obtain⟨b1,b2,b3⟩:=p2 e2;exact⟨b1.trans a1,b2.trans a2,b3.trans a3⟩
mutual
theorem DV {F F':Nat->Prop}{w w':World}(hF :∀b,F b->F' b)(hw :∀b,F b->w'.heap[b]?=w.heap[b]?):
  ∀(os os':List Own) (_ :∀(i:Nat) (o:Own),os[i]?=some o->∃o':Own,os'[i]?=some o'/\o.row.gen<=o'.row.gen/\o'.row.size=o.row.size/\(o'.row.gen=o.row.gen->o'.Fk=o.Fk/\o'.cap=o.cap/\o'.row.xs.length=o.row.xs.length)) (x:AV) (v:Value),Ae F w os x v->Ae F' w' os' x v
 | _,_,_,.E7,_,_=>by simp[Ae]
 | _,_,_,.un,_,h=>by simpa [Ae] using h
 | _,_,_,.int _ _,_,h=>by simpa [Ae] using h
 | _,_,_,.bool _,_,h=>by simpa [Ae] using h
 | _,_,_,.str _,_,h=>by simpa [Ae] using h
 | _,_,_,.zc,_,h=>by simpa [Ae] using h
 | _,_,_,.RI,_,h=>by simpa [Ae] using h
 | _,_,_,.Q7,_,h=>by simpa [Ae] using h
 | _,_,_,.dv ..,_,h=>by simpa [Ae] using h
 | _,_,_,.sl xs,v,h=>by
  simp only[Ae]at h⊢;obtain⟨a,cap,hv,tj,h2⟩:=h;refine⟨a,cap,hv,tj,λrE=>?_⟩;obtain⟨b,o,size,ha,hb,hs,hr⟩:=h2 rE;exact⟨b,o,size,ha,hF b hb,hs,Q0 hF hw xs b o hb hr⟩
 | os,os',rU,.own id g n,v,h=>by
  simp only[Ae]at h⊢;obtain⟨o,ho,hle,tk,h1⟩:=h;obtain⟨o',rH,vI,hs',wM⟩:=rU id o ho;refine⟨o',rH,by omega,tk,λe=>?_⟩;obtain⟨e1,e2,e3⟩:=wM (by omega);obtain⟨h2,h3⟩:=h1 (by omega);refine⟨by omega,?_⟩;rw[e1,e2,e3,hs'];exact h3
 | os,os',rU,.ptr id g i off,v,h=>by
  simp only[Ae]at h⊢;obtain⟨o,ho,hle,tk,h1⟩:=h;obtain⟨o',rH,vI,hs',wM⟩:=rU id o ho;refine⟨o',rH,by omega,tk,λe=>?_⟩;obtain⟨e1,e2,e3⟩:=wM (by omega);obtain⟨h2,h3,h4⟩:=h1 (by omega);refine⟨by omega,by omega,?_⟩;rw[e1,hs'];exact h4
 | _,_,_,.Bn x off,v,h=>by
  simp only[Ae]at h⊢;obtain⟨b,o,hv,hb,hr⟩:=h;exact⟨b,o,hv,hF b hb,Mn hF hw x b o hb hr⟩
 | os,os',rU,.fn f rT,v,h=>by
  simp only[Ae]at h⊢;obtain⟨us,hv,hr⟩:=h;exact⟨us,hv,Ox hF hw os os' rU rT us hr⟩
 | os,os',rU,.agg cs,v,h=>by
  simp only[Ae]at h⊢;obtain⟨us,hv,hr⟩:=h;exact⟨us,hv,Ox hF hw os os' rU cs us hr⟩
 | os,os',rU,.Dd cs,v,h=>by
  simp only[Ae]at h⊢;obtain⟨us,hv,hr⟩:=h;exact⟨us,hv,Ox hF hw os os' rU cs us hr⟩
theorem Ox {F F':Nat->Prop}{w w':World}(hF :∀b,F b->F' b)(hw :∀b,F b->w'.heap[b]?=w.heap[b]?):
  ∀(os os':List Own) (_ :∀(i:Nat) (o:Own),os[i]?=some o->∃o':Own,os'[i]?=some o'/\o.row.gen<=o'.row.gen/\o'.row.size=o.row.size/\(o'.row.gen=o.row.gen->o'.Fk=o.Fk/\o'.cap=o.cap/\o'.row.xs.length=o.row.xs.length)) (xs:List AV) (us:List Value),Bs F w os xs us->Bs F' w' os' xs us
 | _,_,_,[],_,h=>by simpa [Bs] using h
 | os,os',rU,x::r,us,h=>by
  simp only[Bs]at h⊢;obtain⟨u,tM,hu,h1,h2⟩:=h;exact⟨u,tM,hu,DV hF hw os os' rU x u h1,Ox hF hw os os' rU r tM h2⟩
theorem Mn {F F':Nat->Prop}{w w':World}(hF :∀b,F b->F' b)(hw :∀b,F b->w'.heap[b]?=w.heap[b]?):
  ∀(xs:List AV) (b o:Nat),F b->FI F w xs b o->FI F' w' xs b o
 | [],_,_,_,_=>by simp[FI]
 | x::r,b,o,hb,h=>by
  simp only[FI]at h⊢;obtain⟨⟨u,hu,hl,h1⟩,h2⟩:=h;refine⟨⟨u,?_,hl,DV hF hw [] [] (by simp) x u h1⟩,Mn hF hw r b (o+1) hb h2⟩;rw[<- hu];exact oB (hw b hb)
theorem Q0 {F F':Nat->Prop}{w w':World}(hF :∀b,F b->F' b)(hw :∀b,F b->w'.heap[b]?=w.heap[b]?):
  ∀(xs:List (List AV)) (b o:Nat),F b->HX F w xs b o->HX F' w' xs b o
 | [],_,_,_,_=>by simp[HX]
 | x::r,b,o,hb,h=>by
  simp only[HX]at h⊢;exact⟨Mn hF hw x b o hb h.1,Q0 hF hw r b (o+x.length) hb h.2⟩
end
mutual
theorem Mr {S S':Nat->Prop}{w w':World}(hS :∀b,S b->S' b)(hw :∀b,S b->w'.heap[b]?=w.heap[b]?):∀(x:AV) (v:Value),EV S w x v->EV S' w' x v
 | .dv el size xs,v,h=>by
  simp only[EV]at h⊢;obtain⟨hp,h⟩:=h;refine⟨hp,?_⟩;rcases h with h|⟨b,cap,cur,h1,h2,h3,h4,h5,h6,h7,h8⟩
  ·exact .inl h
  ·refine .inr ⟨b,cap,cur,h1,h2,h3,hS b h4,by rw[hw b h4];exact h5,h6,h7,Pr (S:=λc=>S c/\c≠b) (λc hc=>⟨hS c hc.1,hc.2⟩) (λc hc=>hw c hc.1) xs cur 0 h8⟩
 | .int _ _,_,h=>by simpa [EV] using h
 | .bool _,_,h=>by simpa [EV] using h
 | .str _,_,h=>by simpa [EV] using h
 | .zc,_,h=>by simpa [EV] using h
 | .RI,_,h=>by simpa [EV] using h
 | .Q7,_,h=>by simpa [EV] using h
 | .E7,_,h=>by simp[EV]at h
 | .un,_,h=>by simp[EV]at h
 | .sl _,_,h=>by simp[EV]at h
 | .own ..,_,h=>by simp[EV]at h
 | .ptr ..,_,h=>by simp[EV]at h
 | .Bn ..,_,h=>by simp[EV]at h
 | .fn ..,_,h=>by simp[EV]at h
 | .agg _,_,h=>by simp[EV]at h
 | .Dd _,_,h=>by simp[EV]at h
theorem Pr {S S':Nat->Prop}{w w':World}(hS :∀b,S b->S' b)(hw :∀b,S b->w'.heap[b]?=w.heap[b]?):∀(xs:List (List AV)) (cur:Array Value) (o:Nat),LG S w xs cur o->LG S' w' xs cur o
 | [],_,_,_=>by simp[LG]
 | x::r,cur,o,h=>by
  simp only[LG]at h⊢;obtain⟨S1,S2,h1,h2,h3,h4,h5⟩:=h;exact⟨S1,S2,λb hb=>hS b (h1 b hb),λb hb=>hS b (h2 b hb),h3,UJ (λ_ h=>h) (λb hb=>hw b (h1 b hb)) x cur o h4,Pr (λ_ h=>h) (λb hb=>hw b (h2 b hb)) r cur _ h5⟩
theorem UJ {S S':Nat->Prop}{w w':World}(hS :∀b,S b->S' b)(hw :∀b,S b->w'.heap[b]?=w.heap[b]?):∀(xs:List AV) (cur:Array Value) (o:Nat),LB S w xs cur o->LB S' w' xs cur o
 | [],_,_,_=>by simp[LB]
 | x::r,cur,o,h=>by
  simp only[LB]at h⊢;obtain⟨S1,S2,h1,h2,h3,⟨u,h4,h5⟩,h6⟩:=h;exact⟨S1,S2,λb hb=>hS b (h1 b hb),λb hb=>hS b (h2 b hb),h3,⟨u,h4,Mr (λ_ h=>h) (λb hb=>hw b (h1 b hb)) x u h5⟩,UJ (λ_ h=>h) (λb hb=>hw b (h2 b hb)) r cur _ h6⟩
end
theorem Et {w:World}{o:Own}(h :∀x∈o.row.xs,∀c∈x,c.leaf=true):Kq w o:=
 ⟨λ_ _ _=>False,λ_ _ _ h=>h.elim,λ_ _ _ _ _ h=>h.elim,λ_ _ _ _ _ _ i x j e s ys hx hc=>by
  have:=h x (lT hx) _ (lT hc);simp[AV.leaf]at this⟩
theorem Kq.keep {w w':World}{o o':Own}(h:Kq w o)(hb:o'.Fk=o.Fk)(hm :∀b,o.more b->o'.more b)(hs:o'.row.size=o.row.size)
  (hw :∀b,o.owns b->w'.heap[b]?=w.heap[b]?)
  (hr :∀(i:Nat) x (j:Nat) e s ys,o'.row.xs[i]?=some x->x[j]?=some (.dv e s ys)->∃x0,o.row.xs[i]?=some x0/\x0[j]?=some (.dv e s ys)):Kq w' o':=by
 obtain⟨D,h1,h2,h3⟩:=h;refine⟨D,λi j b hb=>hm b (h1 i j b hb),h2,λb tI cur el l qv i x j e s ys hx hc=>?_⟩;rw[hb]at tI;rw[hw b (.inl tI)]at qv;obtain⟨x0,hx0,sZ⟩:=hr i x j e s ys hx hc;obtain⟨u,e1,e2⟩:=h3 b tI cur el l qv i x0 j e s ys hx0 sZ;exact⟨u,by rw[hs];exact e1,Mr (λ_ h=>h) (λc hc=>hw c (.inr (h1 i j c hc))) _ u e2⟩
theorem Kq.mapped {w:World}{o o':Own}(f:AV->AV)(hf :∀c e s ys,f c=.dv e s ys->c=.dv e s ys)(h:Kq w o)(hb:o'.Fk=o.Fk)(hm:o'.more=o.more)(hs:o'.row.size=o.row.size)
  (hx:o'.row.xs=o.row.xs.map (·.map f)):Kq w o':=by
 refine h.keep hb (λb hb=>by rw[hm];exact hb) hs (λ_ _=>rfl) λi x j e s ys tN hc=>?_;rw[hx,lW,lg]at tN;obtain⟨y,hy,rfl⟩:=tN;rw[lW,lg]at hc;obtain⟨d,hd,hc⟩:=hc;exact⟨y,hy,by rw[hd,hf _ _ _ _ hc]⟩
theorem Me.lt {F:Nat->Prop}{w:World}{os:List Own}{o:Own}(h:Me F w os o){b:Nat}(hb:o.owns b):b<w.heap.size:=by
 rcases hb with hb|hb
 ·obtain⟨_,cur,qv,_⟩:=h.some b hb;exact (mO.1 qv).1
 ·exact (h.mo b hb).2.1
theorem Me.nF {F:Nat->Prop}{w:World}{os:List Own}{o:Own}(h:Me F w os o){b:Nat}(hb:o.owns b):¬ F b:=by
 rcases hb with hb|hb
 ·exact (h.some b hb).1
 ·exact (h.mo b hb).1
end Go.Abs
