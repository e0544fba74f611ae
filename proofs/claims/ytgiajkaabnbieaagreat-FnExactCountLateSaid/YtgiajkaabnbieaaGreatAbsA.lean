import Derived.WalkKit
import Derived.Below
import Derived.OwnWalk
import Derived.Orders
import Derived.StillTail
abbrev mA:=@Option.bind_some
abbrev mB:=@List.mem_of_getElem?
abbrev mC:=@List.getElem?_eq_some_iff
abbrev mD:=@trivial
abbrev mE:=@Option.some.injEq
abbrev mF:=@Bool.false_eq_true
abbrev mG:=@List.getElem?_map
abbrev mH:=@List.getElem?_eq_getElem
abbrev mI:=@if_pos
abbrev mJ:=@if_neg
abbrev mK:=@Option.map_eq_some_iff
abbrev mL:=@List.all_eq_true
abbrev mM:=@List.getElem?_append_left
abbrev mN:=@List.getElem?_set_self
abbrev mO:=@List.length_map
abbrev mP:=@List.getElem?_append_right
abbrev mQ:=@Bool.and_eq_true
abbrev mR:=@decide_eq_false_iff_not
abbrev mS:=@Nat.le_refl
abbrev mT:=@List.getElem?_set_ne
abbrev mU:=@List.mem_map
abbrev mV:=@Nat.zero_le
abbrev mW:=@if_false
abbrev mX:=@decide_eq_true_eq
abbrev mY:=@decide_false
abbrev mZ:=@decide_true
abbrev ma:=@List.mem_iff_getElem?
abbrev mc:=@List.mem_cons
abbrev me:=@List.getElem?_cons_zero
abbrev mf:=@List.length_cons
abbrev mg:=@List.map_cons
abbrev mh:=@List.eq_nil_of_length_eq_zero
abbrev mi:=@List.getElem?_take
abbrev mj:=@List.map_congr_left
abbrev ml:=@List.length_append
abbrev mm:=@if_true
abbrev mn:=@Option.bind_eq_some_iff
abbrev mq:=@Array.getElem?_eq_some_iff
abbrev mr:=@congrArg
abbrev mu:=@List.map_append
abbrev mv:=@List.mem_singleton
abbrev mw:=@Go.Result.andThen_ok
abbrev my:=@List.mem_append
abbrev mz:=@List.getElem?_cons_succ
abbrev nA:=@Go.Sem.run_bind
abbrev nB:=@Bool.not_true
abbrev nC:=@Option.map_some
abbrev nD:=@List.append_assoc
abbrev nE:=@Nat.mul_le_mul_right
abbrev nG:=@Bool.and_eq_false_iff
abbrev nH:=@List.getElem?_eq_none
abbrev nI:=@List.take_length
abbrev nJ:=@Nat.add_mul
abbrev nK:=@List.append_nil
abbrev nL:=@Nat.lt_of_lt_of_le
abbrev nM:=@Array.getElem?_eq_getElem
abbrev nN:=@List.length_nil
abbrev nO:=@List.drop_zero
abbrev nP:=@List.getElem?_drop
abbrev nQ:=@of_decide_eq_true
abbrev nR:=@Go.run_underlying
abbrev nS:=@Nat.zero_add
abbrev nT:=@List.length_take
abbrev nU:=@Int.eq_ofNat_of_zero_le
abbrev nV:=@List.nil_append
abbrev nW:=@List.mem_or_eq_of_mem_set
abbrev nX:=@Array.length_toList
abbrev nY:=@Go.Sem.run_pure
abbrev nZ:=@decide_eq_decide
abbrev na:=@Array.getElem?_toList
abbrev nb:=@List.getElem?_range
abbrev nd:=@Decidable.byContradiction
abbrev nf:=@List.mem_cons_of_mem
abbrev ng:=@Nat.lt_trichotomy
abbrev nh:=@Array.getD_eq_getD_getElem?
abbrev ni:=@Option.elim_some
abbrev nj:=@Int.toNat_natCast
abbrev nk:=@Bool.not_false
abbrev nm:=@Ne.symm
abbrev np:=@Nat.eq_of_beq_eq_true
abbrev nq:=@List.map_id
abbrev nr:=@List.mem_filterMap
abbrev ns:=@List.mem_of_mem_take
abbrev nt:=@List.map_set
abbrev nv:=@List.take_of_length_le
abbrev nw:=@List.length_singleton
abbrev nx:=@Nat.add_assoc
abbrev ny:=@List.map_map
abbrev nz:=@Nat.min_eq_left
abbrev oD:=@List.mem_of_mem_drop
abbrev oE:=@Go.cell_of_row
abbrev oF:=@List.findIdx?_eq_some_iff_getElem
abbrev oG:=@Array.getElem?_append_left
abbrev oH:=@List.length_pos_of_mem
abbrev oI:=@List.map_nil
abbrev oJ:=@List.mem_cons_self
abbrev oK:=@Option.getD_some
abbrev oL:=@List.mem_range
abbrev oM:=@List.filterMap_cons
abbrev oN:=@List.drop_eq_nil_of_le
abbrev oO:=@Nat.lt_or_ge
abbrev oP:=@Nat.sub_self
abbrev oR:=@List.sum_cons
abbrev oT:=@List.mem_replicate
abbrev oU:=@List.take_zero
abbrev oV:=@decide_eq_true_iff
abbrev oW:=@Go.heap_alloc_new
abbrev oX:=@Go.World.cell?_of_block
abbrev oY:=@List.take_set_of_le
abbrev oZ:=@List.cons_append
abbrev oa:=@List.drop_length
abbrev ob:=@List.getElem_mem
abbrev oc:=@Nat.add_zero
abbrev od:=@Nat.le_trans
abbrev oe:=@Go.grownCap_le_maxLen
abbrev og:=@List.take_left'
abbrev oh:=@List.all_cons
abbrev om:=@Nat.le_of_ble_eq_true
abbrev oo:=@Bool.not_eq_true'
abbrev ot:=@Array.ext'
abbrev ou:=@Array.toArray_toList
abbrev oz:=@List.getD_eq_getElem?_getD
abbrev pA:=@Go.size_zeroCells
abbrev pB:=@Nat.zero_mul
abbrev pC:=@List.drop_eq_getElem_cons
abbrev pD:=@List.pairwise_iff_getElem
abbrev pF:=@List.mem_map_of_mem
abbrev pG:=@Int.natCast_nonneg
abbrev pH:=@List.map_replicate
abbrev pI:=@List.drop_of_length_le
abbrev pJ:=@List.ext_getElem?
abbrev pK:=@List.mapM_cons
abbrev pL:=@List.size_toArray
abbrev pM:=@Nat.sub_zero
abbrev pN:=@List.getElem?_toArray
abbrev pO:=@List.set_getElem_self
abbrev pP:=@Array.toList_map
abbrev pQ:=@List.length_drop
abbrev pR:=@List.mem_toArray
abbrev pS:=@Nat.mod_eq_of_lt
abbrev pT:=@Array.mem_toList_iff
abbrev pU:=@Int.le_refl
abbrev pV:=@List.getElem?_mapIdx
abbrev pW:=@Int.natCast_mul
abbrev pX:=@List.length_pos_iff
abbrev pY:=@Nat.mul_comm
abbrev pZ:=@Bool.and_assoc
abbrev pa:=@List.map_filterMap
abbrev pb:=@decide_eq_true
abbrev pc:=@of_decide_eq_false
abbrev pd:=@Go.ready_mono
abbrev pe:=@Function.comp_def
abbrev pf:=@List.getElem?_set
abbrev pg:=@Nat.le_zero
abbrev ph:=@Go.grownCap_ge
abbrev pj:=@Nat.lt_irrefl
abbrev pn:=@Prod.mk.injEq
abbrev po:=@Bool.not_eq_true
abbrev pq:=@Go.mem_ready
abbrev pt:=@or_false
abbrev pw:=@List.all_map
abbrev px:=@Bool.or_eq_true
abbrev py:=@List.cons.injEq
abbrev pz:=@Nat.mul_add_mod
abbrev qA:=@Nat.not_lt_zero
abbrev qB:=@Option.map_none
abbrev qC:=@Option.some.inj
abbrev qF:=@Nat.mul_one
abbrev qH:=@Go.wp_mono
theorem qD:0+2<=2:=by decide
theorem qG:0+5<=5:=by decide
theorem qI:0<=2:=by decide
theorem qJ:0+3<=3:=by decide
theorem qK:0+1<=1:=by decide
theorem qM:0<=0:=by decide
theorem qN:0<=1:=by decide
theorem qO:1<=1:=by decide
theorem qP:0+1<=2:=by decide
theorem qQ:0<=3:=by decide
theorem qR:0+2<=3:=by decide
theorem qS:1+1<=2:=by decide
theorem qT:0+0<=1:=by decide
theorem qU:1<=4:=by decide
theorem qV:2+1<=5:=by decide
theorem qW:1<=2:=by decide
theorem qX:0<=7:=by decide
theorem qY:0+0<=2:=by decide
theorem qZ:0+1<=5:=by decide
theorem qa:1+1<=5:=by decide
theorem qb:4+1<=5:=by decide
theorem qc:0<=4:=by decide
theorem qd:0<=5:=by decide
theorem qe:0<=6:=by decide
theorem qf (i:Nat):((i:Int)+1)=((i+1:Nat):Int):=by omega
theorem qg:((0:Nat):Int)=0:=rfl
set_option linter.all false
namespace Go.Abs
open Go
theorem AA {α:Sort _}{a:α}:a=a:=rfl
inductive AV where
 | FN
 | un
 | int (k:IntKind) (n:Int)
 | bool (b:Bool)
 | str (s:ByteArray)
 | zc
 | RW
 | RZ
 | sl (xs:List (List AV))
 | own (id gen len:Nat)
 | ptr (id gen i off:Nat)
 | Bt (x:List AV) (off:Nat)
 | fn (f:FuncId) (rp:List AV)
 | agg (cs:List AV)
 | DX (vs:List AV)
 | dv (el size:Nat) (xs:List (List AV))
 | ex (v:Value)
 deriving Inhabited
abbrev i64 (n:Int):AV:=.int .i64 n
def AV.leaf:AV->Bool
 | .FN|.un|.agg _|.DX _|.dv ..=>false
 | _=>true
def AV.kept:AV->Bool
 | .dv ..=>true
 | c=>c.leaf
theorem Dr {c:AV}(h:c.leaf=true):c.kept=true:=by cases c<;>simp_all [AV.kept,AV.leaf]
structure Row where
 gen:Nat
 elem:TypeId
 size:Nat
 xs:List (List AV)
structure Own where
 row:Row
 DM:Option Nat
 cap:Nat
 more:Nat->Prop
def Own.owns (o:Own)(b:Nat):Prop:=o.DM=some b∨o.more b
def Fj:Nat->Prop:=λ_=>False
mutual
def Ae (F:Nat->Prop)(w:World):List Own->AV->Value->Prop
 | _,.FN,_=>True
 | _,.un,v=>v=undef
 | _,.int k n,v=>v=.int k n
 | _,.bool b,v=>v=.bool b
 | _,.str s,v=>v=.string s
 | _,.zc,v=>∃a,v=.slice a 0 0
 | _,.RW,v=>v=.pointer none
 | _,.RZ,v=>v=.nilFunc
 | _,.sl xs,v=>∃a cap,v=.slice a xs.length cap/\xs.length<=cap/\(xs≠[]->∃b o size,a=some ⟨b,o,none⟩/\F b/\(∀x∈xs,x.length=size)/\Gj F w xs b o)
 | os,.own id g n,v=>∃o,os[id]?=some o/\g<=o.row.gen/\(∃a l c,v=.slice a l c)/\(o.row.gen=g->n<=o.row.xs.length/\((o.DM=none/\∃a,v=.slice a n 0)∨∃b,o.DM=some b/\v=.slice (some ⟨b,(o.row.xs.length-n)*o.row.size,none⟩) n (o.cap-(o.row.xs.length-n))))
 | os,.ptr id g i off,v=>∃o,os[id]?=some o/\g<=o.row.gen/\(∃a,v=.pointer a)/\(o.row.gen=g->i<o.row.xs.length/\off<=o.row.size/\∃b,o.DM=some b/\v=.pointer (some ⟨b,i*o.row.size+off,none⟩))
 | _,.Bt x off,v=>∃b o,v=.pointer (some ⟨b,o+off,none⟩)/\F b/\Ew F w x b o
 | os,.fn f rp,v=>∃us:List Value,v=.func (.func f) #[] us.toArray/\Ba F w os rp us
 | os,.agg cs,v=>∃us:List Value,v=.agg us.toArray/\Ba F w os cs us
 | os,.DX vs,v=>∃us:List Value,v=.tuple us.toArray/\Ba F w os vs us
 | _,.dv _ _ _,v=>∃a l c,v=.slice a l c
 | _,.ex u,v=>v=u/\u.oneCell'=true
def Ba (F:Nat->Prop)(w:World):List Own->List AV->List Value->Prop
 | _,[],us=>us=[]
 | os,x::r,us=>∃u tq,us=u::tq/\Ae F w os x u/\Ba F w os r tq
def Ew (F:Nat->Prop)(w:World):List AV->Nat->Nat->Prop
 | [],_,_=>True
 | x::r,b,o=>(∃u,w.cell? ⟨b,o,none⟩=some u/\x.leaf=true/\Ae F w [] x u)/\Ew F w r b (o+1)
def Gj (F:Nat->Prop)(w:World):List (List AV)->Nat->Nat->Prop
 | [],_,_=>True
 | x::r,b,o=>Ew F w x b o/\Gj F w r b (o+x.length)
end
mutual
def ED (S:Nat->Prop)(w:World):AV->Value->Prop
 | .dv el size xs,v=>0<size/\((xs=[]/\∃a,v=.slice a 0 0)∨∃b cap cur,v=.slice (some ⟨b,0,none⟩) xs.length cap/\xs.length<=cap/\cap<=maxLen/\S b/\
   w.heap[b]?=some (.cells cur el (0,0))/\cur.size=cap*size/\(∀x∈xs,x.length=size)/\Lp (λc=>S c/\c≠b) w xs cur 0)
 | .int k n,v=>v=.int k n
 | .bool b,v=>v=.bool b
 | .str s,v=>v=.string s
 | .zc,v=>∃a,v=.slice a 0 0
 | .RW,v=>v=.pointer none
 | .RZ,v=>v=.nilFunc
 | _,_=>False
def Lp (S:Nat->Prop)(w:World):List (List AV)->Array Value->Nat->Prop
 | [],_,_=>True
 | x::r,cur,o=>∃S1 S2:Nat->Prop,(∀b,S1 b->S b)/\(∀b,S2 b->S b)/\(∀b,S1 b->¬ S2 b)/\Lq S1 w x cur o/\Lp S2 w r cur (o+x.length)
def Lq (S:Nat->Prop)(w:World):List AV->Array Value->Nat->Prop
 | [],_,_=>True
 | x::r,cur,o=>∃S1 S2:Nat->Prop,(∀b,S1 b->S b)/\(∀b,S2 b->S b)/\(∀b,S1 b->¬ S2 b)/\(∃u,cur[o]?=some u/\ED S1 w x u)/\Lq S2 w r cur (o+1)
end
def Ko (w:World)(o:Own):Prop:=
 ∃D:Nat->Nat->Nat->Prop,(∀i j b,D i j b->o.more b)/\(∀i j i' j' b,D i j b->D i' j' b->i=i'/\j=j')/\
  ∀b,o.DM=some b->∀cur el l,w.heap[b]?=some (.cells cur el l)->∀(i:Nat) x (j:Nat) e s ys,o.row.xs[i]?=some x->x[j]?=some (.dv e s ys)->
   ∃u,cur[i*o.row.size+j]?=some u/\ED (D i j) w (.dv e s ys) u
structure Kf (F:Nat->Prop) (w:World) (os:List Own) (o:Own):Prop where
 pos:0<o.row.size
 lens :∀x∈o.row.xs,x.length=o.row.size/\∀c∈x,c.kept=true
 none:o.DM=none->o.row.xs=[]/\o.cap=0
 some :∀b,o.DM=some b->¬ F b/\∃cur:Array Value,w.heap[b]?=some (.cells cur o.row.elem (0,0))/\cur.size=o.cap*o.row.size/\o.row.xs.length<=o.cap/\o.cap<=maxLen/\
  ∀i x,o.row.xs[i]?=some x->∀j c,x[j]?=some c->∃u,cur[i*o.row.size+j]?=some u/\Ae F w os c u
 mo :∀b,o.more b->¬ F b/\b<w.heap.size/\o.DM≠Option.some b
 deep:Ko w o
theorem Lb {o:Own}{n b:Nat}(h:n=o.row.xs.length):Value.slice (some ⟨b,(o.row.xs.length-n)*o.row.size,none⟩) n (o.cap-(o.row.xs.length-n))=.slice (some ⟨b,0,none⟩) n o.cap:=by
 subst h;simp
structure St where
 n:Nat
 env:Nat->AV
 st:List Row
def FY (e:Nat->AV)(d:Nat)(v:AV):Nat->AV:=λk=>if k=d then v else e k
structure Rel (F:Nat->Prop) (os:List Own) (s:St) (a:Act) (w:World):Prop where
 st:os.map Own.row=s.st
 env :∀k,Ae F w os (s.env k) (a.tmps.getD k undef)
 size:a.tmps.size=s.n
 rows :∀(i:Nat) (o:Own),os[i]?=some o->Kf F w os o
 inj :∀(i j:Nat) (oi oj:Own) (b:Nat),os[i]?=some oi->os[j]?=some oj->oi.owns b->oj.owns b->i=j
 F6 :∀b,F b->b<w.heap.size
 defers:a.defers=[]
structure Ext (F:Nat->Prop) (os:List Own) (w:World) (F':Nat->Prop) (os':List Own) (w':World) (k:Nat):Prop where
 sys:w'.os=w.os
 tape:w'.tape=w.tape
 output:w'.output=w.output
 size:w.heap.size<=w'.heap.size
 OO :∀b,F b->F' b
 H8 :∀b,F b->w'.heap[b]?=w.heap[b]?
 other :∀b,b<w.heap.size->¬ F b->(∀o:Own,o∈os->¬ o.owns b)->w'.heap[b]?=w.heap[b]?/\¬ F' b/\∀o:Own,o∈os'->¬ o.owns b
 cZ :∀(i:Nat) (o:Own),i<k->os[i]?=some o->∃o':Own,os'[i]?=some o'/\o.row.gen<=o'.row.gen/\o'.row.size=o.row.size/\(o'.row.gen=o.row.gen->o'.DM=o.DM/\o'.cap=o.cap/\o'.row.xs.length=o.row.xs.length)
theorem Ext.refl (F:Nat->Prop)(os:List Own)(w:World)(k:Nat):Ext F os w F os w k:=
 ⟨rfl,rfl,rfl,mS _,λ_ h=>h,λ_ _=>rfl,λ_ _ h1 h2=>⟨rfl,h1,h2⟩,λ_ o _ h=>⟨o,h,mS _,rfl,λ_=>⟨rfl,rfl,rfl⟩⟩⟩
theorem Ext.trans {F F' F'':Nat->Prop}{os os' os'':List Own}{w w' w'':World}{k:Nat}(h:Ext F os w F' os' w' k)(g:Ext F' os' w' F'' os'' w'' k):Ext F os w F'' os'' w'' k:=by
 refine⟨g.sys.trans h.sys,g.tape.trans h.tape,g.output.trans h.output,od h.size g.size,λb hb=>g.OO b (h.OO b hb),
  λb hb=>(g.H8 b (h.OO b hb)).trans (h.H8 b hb),λb hb h1 h2=>?_,λi o hi ho=>?_⟩
 ·obtain⟨e1,n1,m1⟩:=h.other b hb h1 h2;obtain⟨e2,n2,m2⟩:=g.other b (nL hb h.size) n1 m1;exact⟨e2.trans e1,n2,m2⟩
 ·obtain⟨o',rW,l1,s1,p1⟩:=h.cZ i o hi ho;obtain⟨o'',ho'',l2,s2,p2⟩:=g.cZ i o' hi rW;refine⟨o'',ho'',od l1 l2,s2.trans s1,λe=>?_⟩;have e1:o'.row.gen=o.row.gen:=by omega
  have e2:o''.row.gen=o'.row.gen:=by omega
  obtain⟨a1,a2,a3⟩:=p1 e1;obtain⟨b1,b2,b3⟩:=p2 e2;exact⟨b1.trans a1,b2.trans a2,b3.trans a3⟩
mutual
theorem EJ {F F':Nat->Prop}{w w':World}(hF :∀b,F b->F' b)(hw :∀b,F b->w'.heap[b]?=w.heap[b]?):
  ∀(os os':List Own) (_ :∀(i:Nat) (o:Own),os[i]?=some o->∃o':Own,os'[i]?=some o'/\o.row.gen<=o'.row.gen/\o'.row.size=o.row.size/\(o'.row.gen=o.row.gen->o'.DM=o.DM/\o'.cap=o.cap/\o'.row.xs.length=o.row.xs.length)) (x:AV) (v:Value),Ae F w os x v->Ae F' w' os' x v
 | _,_,_,.FN,_,_=>by simp[Ae]
 | _,_,_,.un,_,h=>by simpa [Ae] using h
 | _,_,_,.int _ _,_,h=>by simpa [Ae] using h
 | _,_,_,.bool _,_,h=>by simpa [Ae] using h
 | _,_,_,.str _,_,h=>by simpa [Ae] using h
 | _,_,_,.zc,_,h=>by simpa [Ae] using h
 | _,_,_,.RW,_,h=>by simpa [Ae] using h
 | _,_,_,.RZ,_,h=>by simpa [Ae] using h
 | _,_,_,.dv ..,_,h=>by simpa [Ae] using h
 | _,_,_,.ex _,_,h=>by simpa [Ae] using h
 | _,_,_,.sl xs,v,h=>by
  simp only[Ae]at h⊢;obtain⟨a,cap,hv,vQ,h2⟩:=h;refine⟨a,cap,hv,vQ,λrV=>?_⟩;obtain⟨b,o,size,ha,hb,hs,hr⟩:=h2 rV;exact⟨b,o,size,ha,hF b hb,hs,RS hF hw xs b o hb hr⟩
 | os,os',rq,.own id g n,v,h=>by
  simp only[Ae]at h⊢;obtain⟨o,ho,hle,hsh,h1⟩:=h;obtain⟨o',rW,vR,uj,wH⟩:=rq id o ho;refine⟨o',rW,by omega,hsh,λe=>?_⟩;obtain⟨e1,e2,e3⟩:=wH (by omega);obtain⟨h2,h3⟩:=h1 (by omega);refine⟨by omega,?_⟩;rw[e1,e2,e3,uj];exact h3
 | os,os',rq,.ptr id g i off,v,h=>by
  simp only[Ae]at h⊢;obtain⟨o,ho,hle,hsh,h1⟩:=h;obtain⟨o',rW,vR,uj,wH⟩:=rq id o ho;refine⟨o',rW,by omega,hsh,λe=>?_⟩;obtain⟨e1,e2,e3⟩:=wH (by omega);obtain⟨h2,h3,h4⟩:=h1 (by omega);refine⟨by omega,by omega,?_⟩;rw[e1,uj];exact h4
 | _,_,_,.Bt x off,v,h=>by
  simp only[Ae]at h⊢;obtain⟨b,o,hv,hb,hr⟩:=h;exact⟨b,o,hv,hF b hb,NC hF hw x b o hb hr⟩
 | os,os',rq,.fn f rp,v,h=>by
  simp only[Ae]at h⊢;obtain⟨us,hv,hr⟩:=h;exact⟨us,hv,PD hF hw os os' rq rp us hr⟩
 | os,os',rq,.agg cs,v,h=>by
  simp only[Ae]at h⊢;obtain⟨us,hv,hr⟩:=h;exact⟨us,hv,PD hF hw os os' rq cs us hr⟩
 | os,os',rq,.DX cs,v,h=>by
  simp only[Ae]at h⊢;obtain⟨us,hv,hr⟩:=h;exact⟨us,hv,PD hF hw os os' rq cs us hr⟩
theorem PD {F F':Nat->Prop}{w w':World}(hF :∀b,F b->F' b)(hw :∀b,F b->w'.heap[b]?=w.heap[b]?):
  ∀(os os':List Own) (_ :∀(i:Nat) (o:Own),os[i]?=some o->∃o':Own,os'[i]?=some o'/\o.row.gen<=o'.row.gen/\o'.row.size=o.row.size/\(o'.row.gen=o.row.gen->o'.DM=o.DM/\o'.cap=o.cap/\o'.row.xs.length=o.row.xs.length)) (xs:List AV) (us:List Value),Ba F w os xs us->Ba F' w' os' xs us
 | _,_,_,[],_,h=>by simpa [Ba] using h
 | os,os',rq,x::r,us,h=>by
  simp only[Ba]at h⊢;obtain⟨u,tq,hu,h1,h2⟩:=h;exact⟨u,tq,hu,EJ hF hw os os' rq x u h1,PD hF hw os os' rq r tq h2⟩
theorem NC {F F':Nat->Prop}{w w':World}(hF :∀b,F b->F' b)(hw :∀b,F b->w'.heap[b]?=w.heap[b]?):
  ∀(xs:List AV) (b o:Nat),F b->Ew F w xs b o->Ew F' w' xs b o
 | [],_,_,_,_=>by simp[Ew]
 | x::r,b,o,hb,h=>by
  simp only[Ew]at h⊢;obtain⟨⟨u,hu,hl,h1⟩,h2⟩:=h;refine⟨⟨u,?_,hl,EJ hF hw [] [] (by simp) x u h1⟩,NC hF hw r b (o+1) hb h2⟩;rw[<- hu];exact oX (hw b hb)
theorem RS {F F':Nat->Prop}{w w':World}(hF :∀b,F b->F' b)(hw :∀b,F b->w'.heap[b]?=w.heap[b]?):
  ∀(xs:List (List AV)) (b o:Nat),F b->Gj F w xs b o->Gj F' w' xs b o
 | [],_,_,_,_=>by simp[Gj]
 | x::r,b,o,hb,h=>by
  simp only[Gj]at h⊢;exact⟨NC hF hw x b o hb h.1,RS hF hw r b (o+x.length) hb h.2⟩
end
mutual
theorem JX {S S':Nat->Prop}{w w':World}(hS :∀b,S b->S' b)(hw :∀b,S b->w'.heap[b]?=w.heap[b]?):∀(x:AV) (v:Value),ED S w x v->ED S' w' x v
 | .dv el size xs,v,h=>by
  simp only[ED]at h⊢;obtain⟨hp,h⟩:=h;refine⟨hp,?_⟩;rcases h with h|⟨b,cap,cur,h1,h2,h3,h4,h5,h6,h7,h8⟩
  ·exact .inl h
  ·refine .inr ⟨b,cap,cur,h1,h2,h3,hS b h4,by rw[hw b h4];exact h5,h6,h7,QL (S:=λc=>S c/\c≠b) (λc hc=>⟨hS c hc.1,hc.2⟩) (λc hc=>hw c hc.1) xs cur 0 h8⟩
 | .int _ _,_,h=>by simpa [ED] using h
 | .bool _,_,h=>by simpa [ED] using h
 | .str _,_,h=>by simpa [ED] using h
 | .zc,_,h=>by simpa [ED] using h
 | .RW,_,h=>by simpa [ED] using h
 | .RZ,_,h=>by simpa [ED] using h
 | .FN,_,h=>by simp[ED]at h
 | .un,_,h=>by simp[ED]at h
 | .sl _,_,h=>by simp[ED]at h
 | .own ..,_,h=>by simp[ED]at h
 | .ptr ..,_,h=>by simp[ED]at h
 | .Bt ..,_,h=>by simp[ED]at h
 | .fn ..,_,h=>by simp[ED]at h
 | .agg _,_,h=>by simp[ED]at h
 | .DX _,_,h=>by simp[ED]at h
theorem QL {S S':Nat->Prop}{w w':World}(hS :∀b,S b->S' b)(hw :∀b,S b->w'.heap[b]?=w.heap[b]?):∀(xs:List (List AV)) (cur:Array Value) (o:Nat),Lp S w xs cur o->Lp S' w' xs cur o
 | [],_,_,_=>by simp[Lp]
 | x::r,cur,o,h=>by
  simp only[Lp]at h⊢;obtain⟨S1,S2,h1,h2,h3,h4,h5⟩:=h;exact⟨S1,S2,λb hb=>hS b (h1 b hb),λb hb=>hS b (h2 b hb),h3,UJ (λ_ h=>h) (λb hb=>hw b (h1 b hb)) x cur o h4,QL (λ_ h=>h) (λb hb=>hw b (h2 b hb)) r cur _ h5⟩
theorem UJ {S S':Nat->Prop}{w w':World}(hS :∀b,S b->S' b)(hw :∀b,S b->w'.heap[b]?=w.heap[b]?):∀(xs:List AV) (cur:Array Value) (o:Nat),Lq S w xs cur o->Lq S' w' xs cur o
 | [],_,_,_=>by simp[Lq]
 | x::r,cur,o,h=>by
  simp only[Lq]at h⊢;obtain⟨S1,S2,h1,h2,h3,⟨u,h4,h5⟩,h6⟩:=h;exact⟨S1,S2,λb hb=>hS b (h1 b hb),λb hb=>hS b (h2 b hb),h3,⟨u,h4,JX (λ_ h=>h) (λb hb=>hw b (h1 b hb)) x u h5⟩,UJ (λ_ h=>h) (λb hb=>hw b (h2 b hb)) r cur _ h6⟩
end
theorem Fv {w:World}{o:Own}(h :∀x∈o.row.xs,∀c∈x,c.leaf=true):Ko w o:=
 ⟨λ_ _ _=>False,λ_ _ _ h=>h.elim,λ_ _ _ _ _ h=>h.elim,λ_ _ _ _ _ _ i x j e s ys hx hc=>by
  have:=h x (mB hx) _ (mB hc);simp[AV.leaf]at this⟩
theorem Ko.keep {w w':World}{o o':Own}(h:Ko w o)(hb:o'.DM=o.DM)(hm :∀b,o.more b->o'.more b)(hs:o'.row.size=o.row.size)
  (hw :∀b,o.owns b->w'.heap[b]?=w.heap[b]?)
  (hr :∀(i:Nat) x (j:Nat) e s ys,o'.row.xs[i]?=some x->x[j]?=some (.dv e s ys)->∃x0,o.row.xs[i]?=some x0/\x0[j]?=some (.dv e s ys)):Ko w' o':=by
 obtain⟨D,h1,h2,h3⟩:=h;refine⟨D,λi j b hb=>hm b (h1 i j b hb),h2,λb uO cur el l rE i x j e s ys hx hc=>?_⟩;rw[hb]at uO;rw[hw b (.inl uO)]at rE;obtain⟨x0,hx0,tK⟩:=hr i x j e s ys hx hc;obtain⟨u,e1,e2⟩:=h3 b uO cur el l rE i x0 j e s ys hx0 tK;exact⟨u,by rw[hs];exact e1,JX (λ_ h=>h) (λc hc=>hw c (.inr (h1 i j c hc))) _ u e2⟩
theorem Ko.mapped {w:World}{o o':Own}(f:AV->AV)(hf :∀c e s ys,f c=.dv e s ys->c=.dv e s ys)(h:Ko w o)(hb:o'.DM=o.DM)(hm:o'.more=o.more)(hs:o'.row.size=o.row.size)
  (hx:o'.row.xs=o.row.xs.map (·.map f)):Ko w o':=by
 refine h.keep hb (λb hb=>by rw[hm];exact hb) hs (λ_ _=>rfl) λi x j e s ys tR hc=>?_;rw[hx,mG,mK]at tR;obtain⟨y,hy,rfl⟩:=tR;rw[mG,mK]at hc;obtain⟨d,hd,hc⟩:=hc;exact⟨y,hy,by rw[hd,hf _ _ _ _ hc]⟩
theorem Kf.lt {F:Nat->Prop}{w:World}{os:List Own}{o:Own}(h:Kf F w os o){b:Nat}(hb:o.owns b):b<w.heap.size:=by
 rcases hb with hb|hb
 ·obtain⟨_,cur,rE,_⟩:=h.some b hb;exact (mq.1 rE).1
 ·exact (h.mo b hb).2.1
theorem Kf.nF {F:Nat->Prop}{w:World}{os:List Own}{o:Own}(h:Kf F w os o){b:Nat}(hb:o.owns b):¬ F b:=by
 rcases hb with hb|hb
 ·exact (h.some b hb).1
 ·exact (h.mo b hb).1
end Go.Abs
