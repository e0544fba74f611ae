import Derived.WalkKit
import Derived.Below
import Derived.OwnWalk
import Derived.Orders
import Derived.StillTail
abbrev mR:=@Option.bind_some
abbrev mS:=@List.mem_of_getElem?
abbrev mT:=@List.getElem?_eq_some_iff
abbrev mU:=@Option.some.injEq
abbrev mV:=@trivial
abbrev mW:=@Bool.false_eq_true
abbrev mX:=@List.getElem?_map
abbrev mY:=@List.getElem?_eq_getElem
abbrev mZ:=@Option.map_eq_some_iff
abbrev ma:=@List.all_eq_true
abbrev mc:=@List.getElem?_set_self
abbrev me:=@if_pos
abbrev mf:=@List.length_map
abbrev mg:=@List.getElem?_append_left
abbrev mh:=@Bool.and_eq_true
abbrev mi:=@Nat.zero_le
abbrev mj:=@if_neg
abbrev ml:=@Nat.le_refl
abbrev mm:=@decide_eq_false_iff_not
abbrev mn:=@List.getElem?_append_right
abbrev mq:=@List.getElem?_set_ne
abbrev mr:=@List.mem_cons
abbrev mu:=@List.mem_map
abbrev mv:=@decide_eq_true_eq
abbrev mw:=@List.getElem?_cons_zero
abbrev my:=@if_false
abbrev mz:=@List.map_cons
abbrev nB:=@decide_true
abbrev nC:=@List.mem_iff_getElem?
abbrev nD:=@List.map_congr_left
abbrev nE:=@List.length_cons
abbrev nG:=@List.getElem?_eq_none
abbrev nH:=@decide_false
abbrev nI:=@List.eq_nil_of_length_eq_zero
abbrev nJ:=@List.getElem?_take
abbrev nK:=@Option.bind_eq_some_iff
abbrev nL:=@if_true
abbrev nM:=@List.mem_append
abbrev nN:=@Array.getElem?_eq_some_iff
abbrev nO:=@congrArg
abbrev nP:=@List.drop_zero
abbrev nQ:=@List.mem_singleton
abbrev nR:=@Go.Result.andThen_ok
abbrev nS:=@Option.map_some
abbrev nT:=@List.take_length
abbrev nU:=@Go.Sem.run_bind
abbrev nV:=@List.getElem?_cons_succ
abbrev nW:=@List.length_append
abbrev nX:=@Nat.mul_le_mul_right
abbrev nY:=@Bool.and_eq_false_iff
abbrev nZ:=@Nat.add_mul
abbrev na:=@Array.getElem?_eq_getElem
abbrev nb:=@Bool.not_true
abbrev nd:=@List.mem_or_eq_of_mem_set
abbrev nf:=@List.drop_length
abbrev ng:=@List.getElem?_drop
abbrev nh:=@of_decide_eq_true
abbrev ni:=@Go.run_underlying
abbrev nj:=@List.length_nil
abbrev nk:=@Nat.lt_of_lt_of_le
abbrev nm:=@Int.eq_ofNat_of_zero_le
abbrev np:=@List.append_assoc
abbrev nq:=@Go.Sem.run_pure
abbrev nr:=@Array.length_toList
abbrev ns:=@Nat.zero_add
abbrev nt:=@List.map_id
abbrev nv:=@List.mem_cons_of_mem
abbrev nw:=@List.length_take
abbrev nx:=@decide_eq_decide
abbrev ny:=@List.nil_append
abbrev nz:=@Array.getElem?_toList
abbrev oC:=@List.map_map
abbrev oD:=@Decidable.byContradiction
abbrev oE:=@List.append_nil
abbrev oF:=@List.map_append
abbrev oG:=@Option.elim_some
abbrev oH:=@List.getElem?_of_mem
abbrev oI:=@Nat.lt_trichotomy
abbrev oJ:=@Int.toNat_natCast
abbrev oK:=@List.mem_of_mem_drop
abbrev oL:=@List.mem_of_mem_take
abbrev oM:=@List.mem_filterMap
abbrev oN:=@List.take_of_length_le
abbrev oO:=@List.take_zero
abbrev oP:=@Nat.eq_of_beq_eq_true
abbrev oQ:=@List.mem_cons_self
abbrev oR:=@List.map_set
abbrev oT:=@Ne.symm
abbrev oU:=@List.ext_getElem?
abbrev oV:=@List.sum_cons
abbrev oW:=@Nat.add_assoc
abbrev oX:=@List.pairwise_cons
abbrev oY:=@Array.getD_eq_getD_getElem?
abbrev oZ:=@List.findIdx?_eq_some_iff_getElem
abbrev oa:=@Array.getElem?_append_left
abbrev ob:=@Bool.not_eq_true'
abbrev oc:=@List.length_pos_of_mem
abbrev od:=@List.map_nil
abbrev oe:=@List.getElem?_range
abbrev og:=@Go.cell_of_row
abbrev oh:=@Option.getD_some
abbrev om:=@Nat.le_trans
abbrev oo:=@Nat.sub_self
abbrev ot:=@List.mem_range
abbrev ou:=@Nat.min_eq_left
abbrev pA:=@List.filterMap_cons
abbrev pB:=@List.drop_eq_nil_of_le
abbrev pC:=@Nat.lt_or_ge
abbrev pD:=@List.mem_replicate
abbrev pF:=@decide_eq_true_iff
abbrev pG:=@Go.heap_alloc_new
abbrev pH:=@List.set_getElem_self
abbrev pI:=@List.take_append_drop
abbrev pJ:=@Bool.or_eq_true
abbrev pK:=@Go.World.cell?_of_block
abbrev pL:=@Array.ext'
abbrev pM:=@List.all_cons
abbrev pN:=@List.take_set_of_le
abbrev pO:=@List.getElem_mem
abbrev pP:=@Go.grownCap_le_maxLen
abbrev pQ:=@List.take_left'
abbrev pR:=@Bool.true_and
abbrev pS:=@List.getElem?_zipWith
abbrev pT:=@Nat.le_of_ble_eq_true
abbrev pU:=@Array.toArray_toList
abbrev pV:=@Bool.not_false
abbrev pW:=@List.getD_eq_getElem?_getD
abbrev pX:=@Go.size_zeroCells
abbrev pY:=@Nat.zero_mul
abbrev pZ:=@List.drop_eq_getElem_cons
abbrev pa:=@List.pairwise_iff_getElem
abbrev pb:=@List.length_pos_iff
abbrev pc:=@List.mem_map_of_mem
abbrev pd:=@List.length_set
abbrev pe:=@Int.natCast_nonneg
abbrev pf:=@List.map_replicate
abbrev pg:=@of_decide_eq_false
abbrev ph:=@List.drop_of_length_le
abbrev pj:=@List.mapM_cons
abbrev pn:=@List.size_toArray
abbrev po:=@Nat.add_zero
abbrev pq:=@Nat.sub_zero
abbrev pt:=@List.getElem?_toArray
abbrev pw:=@List.length_singleton
abbrev px:=@Array.toList_map
abbrev py:=@List.cons_append
abbrev pz:=@List.length_drop
abbrev qA:=@List.mem_toArray
abbrev qB:=@Nat.mod_eq_of_lt
abbrev qC:=@Bool.and_true
abbrev qD:=@Array.mem_toList_iff
abbrev qF:=@Bool.or_eq_false_iff
abbrev qG:=@Int.le_refl
abbrev qH:=@Int.natCast_mul
abbrev qI:=@List.cons.injEq
abbrev qJ:=@Nat.mul_comm
abbrev qK:=@Bool.and_assoc
abbrev qM:=@List.map_filterMap
abbrev qN:=@decide_eq_true
abbrev qO:=@Go.ready_mono
abbrev qP:=@Function.comp_def
abbrev qQ:=@List.getElem?_set
abbrev qR:=@Nat.le_zero
abbrev qS:=@Go.grownCap_ge
abbrev qT:=@List.any_cons
abbrev qU:=@Nat.lt_irrefl
abbrev qV:=@Prod.mk.injEq
abbrev qW:=@Bool.not_eq_true
abbrev qX:=@Go.mem_ready
abbrev qY:=@or_false
abbrev qZ:=@List.all_map
abbrev qa:=@List.set_set
abbrev qb:=@List.mem_filter
abbrev qc:=@Nat.mul_add_mod
abbrev qd:=@Nat.not_lt_zero
abbrev qe:=@Option.map_none
abbrev qf:=@Option.some.inj
abbrev qh:=@Nat.mul_one
abbrev qj:=@cond_true
abbrev qk:=@Go.wp_mono
theorem qg:0+2<=2:=by decide
theorem qi:0+5<=5:=by decide
theorem ql:0+1<=1:=by decide
theorem qm:0<=2:=by decide
theorem qn:0+3<=3:=by decide
theorem qo:0<=1:=by decide
theorem qp:0<=3:=by decide
theorem qq:0<=0:=by decide
theorem qs:0+2<=3:=by decide
theorem qt:1<=1:=by decide
theorem qu:1+1<=2:=by decide
theorem qv:0+0<=1:=by decide
theorem qw:2+1<=5:=by decide
theorem qx:0+1<=2:=by decide
theorem qy:1+1<=5:=by decide
theorem qz:0+1<=5:=by decide
theorem rA:4+1<=5:=by decide
theorem rB:0<=4:=by decide
theorem rC (i:Nat):((i:Int)+1)=((i+1:Nat):Int):=by omega
theorem rD:((0:Nat):Int)=0:=rfl
set_option linter.all false
namespace Go.Abs
open Go
theorem AA {α:Sort _}{a:α}:a=a:=rfl
inductive AV where
 | FQ
 | un
 | int (k:IntKind) (n:Int)
 | bool (b:Bool)
 | str (s:ByteArray)
 | zc
 | O5
 | Po
 | sl (xs:List (List AV))
 | own (id gen len:Nat)
 | ptr (id gen i off:Nat)
 | Bz (x:List AV) (off:Nat)
 | fn (f:FuncId) (sM:List AV)
 | agg (cs:List AV)
 | C7 (vs:List AV)
 | dv (el size:Nat) (xs:List (List AV))
 | ex (v:Value)
 | bd (f:FuncId) (first:List AV)
 deriving Inhabited
abbrev i64 (n:Int):AV:=.int .i64 n
def AV.leaf:AV->Bool
 | .FQ|.un|.agg _|.C7 _|.dv ..=>false
 | _=>true
def AV.kept:AV->Bool
 | .dv ..=>true
 | c=>c.leaf
theorem Ci {c:AV}(h:c.leaf=true):c.kept=true:=by cases c<;>simp_all [AV.kept,AV.leaf]
structure Row where
 gen:Nat
 elem:TypeId
 size:Nat
 xs:List (List AV)
structure Own where
 row:Row
 E1:Option Nat
 cap:Nat
 more:Nat->Prop
def Own.owns (o:Own)(b:Nat):Prop:=o.E1=some b∨o.more b
def FI:Nat->Prop:=λ_=>False
mutual
def AU (F:Nat->Prop)(w:World):List Own->AV->Value->Prop
 | _,.FQ,_=>True
 | _,.un,v=>v=undef
 | _,.int k n,v=>v=.int k n
 | _,.bool b,v=>v=.bool b
 | _,.str s,v=>v=.string s
 | _,.zc,v=>∃a,v=.slice a 0 0
 | _,.O5,v=>v=.pointer none
 | _,.Po,v=>v=.nilFunc
 | _,.sl xs,v=>∃a cap,v=.slice a xs.length cap/\xs.length<=cap/\(xs≠[]->∃b o size,a=some ⟨b,o,none⟩/\F b/\(∀x∈xs,x.length=size)/\Gt F w xs b o)
 | os,.own id g n,v=>∃o,os[id]?=some o/\g<=o.row.gen/\(∃a l c,v=.slice a l c)/\(o.row.gen=g->n<=o.row.xs.length/\((o.E1=none/\∃a,v=.slice a n 0)∨∃b,o.E1=some b/\v=.slice (some ⟨b,(o.row.xs.length-n)*o.row.size,none⟩) n (o.cap-(o.row.xs.length-n))))
 | os,.ptr id g i off,v=>∃o,os[id]?=some o/\g<=o.row.gen/\(∃a,v=.pointer a)/\(o.row.gen=g->i<o.row.xs.length/\off<=o.row.size/\∃b,o.E1=some b/\v=.pointer (some ⟨b,i*o.row.size+off,none⟩))
 | _,.Bz x off,v=>∃b o,v=.pointer (some ⟨b,o+off,none⟩)/\F b/\De F w x b o
 | os,.fn f sM,v=>∃us:List Value,v=.func (.func f) #[] us.toArray/\A7 F w os sM us
 | os,.agg cs,v=>∃us:List Value,v=.agg us.toArray/\A7 F w os cs us
 | os,.C7 vs,v=>∃us:List Value,v=.tuple us.toArray/\A7 F w os vs us
 | _,.dv _ _ _,v=>∃a l c,v=.slice a l c
 | _,.ex u,v=>v=u/\u.oneCell'=true
 | _,.bd f cs,v=>∃us:List Value,v=.func (.func f) us.toArray #[]/\A7 F w [] cs us
def A7 (F:Nat->Prop)(w:World):List Own->List AV->List Value->Prop
 | _,[],us=>us=[]
 | os,x::r,us=>∃u tO,us=u::tO/\AU F w os x u/\A7 F w os r tO
def De (F:Nat->Prop)(w:World):List AV->Nat->Nat->Prop
 | [],_,_=>True
 | x::r,b,o=>(∃u,w.cell? ⟨b,o,none⟩=some u/\x.leaf=true/\AU F w [] x u)/\De F w r b (o+1)
def Gt (F:Nat->Prop)(w:World):List (List AV)->Nat->Nat->Prop
 | [],_,_=>True
 | x::r,b,o=>De F w x b o/\Gt F w r b (o+x.length)
end
mutual
def DY (S:Nat->Prop)(w:World):AV->Value->Prop
 | .dv el size xs,v=>0<size/\((xs=[]/\∃a,v=.slice a 0 0)∨∃b cap cur,v=.slice (some ⟨b,0,none⟩) xs.length cap/\xs.length<=cap/\cap<=maxLen/\S b/\
   w.heap[b]?=some (.cells cur el (0,0))/\cur.size=cap*size/\(∀x∈xs,x.length=size)/\Kh (λc=>S c/\c≠b) w xs cur 0)
 | .int k n,v=>v=.int k n
 | .bool b,v=>v=.bool b
 | .str s,v=>v=.string s
 | .zc,v=>∃a,v=.slice a 0 0
 | .O5,v=>v=.pointer none
 | .Po,v=>v=.nilFunc
 | _,_=>False
def Kh (S:Nat->Prop)(w:World):List (List AV)->Array Value->Nat->Prop
 | [],_,_=>True
 | x::r,cur,o=>∃S1 S2:Nat->Prop,(∀b,S1 b->S b)/\(∀b,S2 b->S b)/\(∀b,S1 b->¬ S2 b)/\Kb S1 w x cur o/\Kh S2 w r cur (o+x.length)
def Kb (S:Nat->Prop)(w:World):List AV->Array Value->Nat->Prop
 | [],_,_=>True
 | x::r,cur,o=>∃S1 S2:Nat->Prop,(∀b,S1 b->S b)/\(∀b,S2 b->S b)/\(∀b,S1 b->¬ S2 b)/\(∃u,cur[o]?=some u/\DY S1 w x u)/\Kb S2 w r cur (o+1)
end
def KD (w:World)(o:Own):Prop:=
 ∃D:Nat->Nat->Nat->Prop,(∀i j b,D i j b->o.more b)/\(∀i j i' j' b,D i j b->D i' j' b->i=i'/\j=j')/\
  ∀b,o.E1=some b->∀cur el l,w.heap[b]?=some (.cells cur el l)->∀(i:Nat) x (j:Nat) e s ys,o.row.xs[i]?=some x->x[j]?=some (.dv e s ys)->
   ∃u,cur[i*o.row.size+j]?=some u/\DY (D i j) w (.dv e s ys) u
structure L8 (F:Nat->Prop) (w:World) (os:List Own) (o:Own):Prop where
 pos:0<o.row.size
 lens :∀x∈o.row.xs,x.length=o.row.size/\∀c∈x,c.kept=true
 none:o.E1=none->o.row.xs=[]/\o.cap=0
 some :∀b,o.E1=some b->¬ F b/\∃cur:Array Value,w.heap[b]?=some (.cells cur o.row.elem (0,0))/\cur.size=o.cap*o.row.size/\o.row.xs.length<=o.cap/\o.cap<=maxLen/\
  ∀i x,o.row.xs[i]?=some x->∀j c,x[j]?=some c->∃u,cur[i*o.row.size+j]?=some u/\AU F w os c u
 mo :∀b,o.more b->¬ F b/\b<w.heap.size/\o.E1≠Option.some b
 deep:KD w o
theorem Lv {o:Own}{n b:Nat}(h:n=o.row.xs.length):Value.slice (some ⟨b,(o.row.xs.length-n)*o.row.size,none⟩) n (o.cap-(o.row.xs.length-n))=.slice (some ⟨b,0,none⟩) n o.cap:=by
 subst h;simp
structure St where
 n:Nat
 env:Nat->AV
 st:List Row
def Ew (e:Nat->AV)(d:Nat)(v:AV):Nat->AV:=λk=>if k=d then v else e k
structure Rel (F:Nat->Prop) (os:List Own) (s:St) (a:Act) (w:World):Prop where
 st:os.map Own.row=s.st
 env :∀k,AU F w os (s.env k) (a.tmps.getD k undef)
 size:a.tmps.size=s.n
 rows :∀(i:Nat) (o:Own),os[i]?=some o->L8 F w os o
 inj :∀(i j:Nat) (oi oj:Own) (b:Nat),os[i]?=some oi->os[j]?=some oj->oi.owns b->oj.owns b->i=j
 FU :∀b,F b->b<w.heap.size
 defers:a.defers=[]
structure Ext (F:Nat->Prop) (os:List Own) (w:World) (F':Nat->Prop) (os':List Own) (w':World) (k:Nat):Prop where
 sys:w'.os=w.os
 tape:w'.tape=w.tape
 output:w'.output=w.output
 size:w.heap.size<=w'.heap.size
 Ng :∀b,F b->F' b
 HP :∀b,F b->w'.heap[b]?=w.heap[b]?
 other :∀b,b<w.heap.size->¬ F b->(∀o:Own,o∈os->¬ o.owns b)->w'.heap[b]?=w.heap[b]?/\¬ F' b/\∀o:Own,o∈os'->¬ o.owns b
 cf :∀(i:Nat) (o:Own),i<k->os[i]?=some o->∃o':Own,os'[i]?=some o'/\o.row.gen<=o'.row.gen/\o'.row.size=o.row.size/\(o'.row.gen=o.row.gen->o'.E1=o.E1/\o'.cap=o.cap/\o'.row.xs.length=o.row.xs.length)
theorem Ext.refl (F:Nat->Prop)(os:List Own)(w:World)(k:Nat):Ext F os w F os w k:=
 ⟨rfl,rfl,rfl,ml _,λ_ h=>h,λ_ _=>rfl,λ_ _ h1 h2=>⟨rfl,h1,h2⟩,λ_ o _ h=>⟨o,h,ml _,rfl,λ_=>⟨rfl,rfl,rfl⟩⟩⟩
theorem Ext.trans {F F' F'':Nat->Prop}{os os' os'':List Own}{w w' w'':World}{k:Nat}(h:Ext F os w F' os' w' k)(g:Ext F' os' w' F'' os'' w'' k):Ext F os w F'' os'' w'' k:=by
 refine⟨g.sys.trans h.sys,g.tape.trans h.tape,g.output.trans h.output,om h.size g.size,λb hb=>g.Ng b (h.Ng b hb),
  λb hb=>(g.HP b (h.Ng b hb)).trans (h.HP b hb),λb hb h1 h2=>?_,λi o hi ho=>?_⟩
 ·obtain⟨e1,n1,m1⟩:=h.other b hb h1 h2;obtain⟨e2,n2,m2⟩:=g.other b (nk hb h.size) n1 m1;exact⟨e2.trans e1,n2,m2⟩
 ·obtain⟨o',sA,l1,s1,p1⟩:=h.cf i o hi ho;obtain⟨o'',ho'',l2,s2,p2⟩:=g.cf i o' hi sA;refine⟨o'',ho'',om l1 l2,s2.trans s1,λe=>?_⟩;have e1:o'.row.gen=o.row.gen:=by omega
  have e2:o''.row.gen=o'.row.gen:=by omega
  obtain⟨a1,a2,a3⟩:=p1 e1;obtain⟨b1,b2,b3⟩:=p2 e2;exact⟨b1.trans a1,b2.trans a2,b3.trans a3⟩
mutual
theorem Cy {F F':Nat->Prop}{w w':World}(hF :∀b,F b->F' b)(hw :∀b,F b->w'.heap[b]?=w.heap[b]?):
  ∀(os os':List Own) (_ :∀(i:Nat) (o:Own),os[i]?=some o->∃o':Own,os'[i]?=some o'/\o.row.gen<=o'.row.gen/\o'.row.size=o.row.size/\(o'.row.gen=o.row.gen->o'.E1=o.E1/\o'.cap=o.cap/\o'.row.xs.length=o.row.xs.length)) (x:AV) (v:Value),AU F w os x v->AU F' w' os' x v
 | _,_,_,.FQ,_,_=>by simp[AU]
 | _,_,_,.un,_,h=>by simpa [AU] using h
 | _,_,_,.int _ _,_,h=>by simpa [AU] using h
 | _,_,_,.bool _,_,h=>by simpa [AU] using h
 | _,_,_,.str _,_,h=>by simpa [AU] using h
 | _,_,_,.zc,_,h=>by simpa [AU] using h
 | _,_,_,.O5,_,h=>by simpa [AU] using h
 | _,_,_,.Po,_,h=>by simpa [AU] using h
 | _,_,_,.dv ..,_,h=>by simpa [AU] using h
 | _,_,_,.ex _,_,h=>by simpa [AU] using h
 | _,_,_,.sl xs,v,h=>by
  simp only[AU]at h⊢;obtain⟨a,cap,hv,vl,h2⟩:=h;refine⟨a,cap,hv,vl,λsB=>?_⟩;obtain⟨b,o,size,ha,hb,hs,hr⟩:=h2 sB;exact⟨b,o,size,ha,hF b hb,hs,Qt hF hw xs b o hb hr⟩
 | os,os',sP,.own id g n,v,h=>by
  simp only[AU]at h⊢;obtain⟨o,ho,hle,hsh,h1⟩:=h;obtain⟨o',sA,tY,uD,wS⟩:=sP id o ho;refine⟨o',sA,by omega,hsh,λe=>?_⟩;obtain⟨e1,e2,e3⟩:=wS (by omega);obtain⟨h2,h3⟩:=h1 (by omega);refine⟨by omega,?_⟩;rw[e1,e2,e3,uD];exact h3
 | os,os',sP,.ptr id g i off,v,h=>by
  simp only[AU]at h⊢;obtain⟨o,ho,hle,hsh,h1⟩:=h;obtain⟨o',sA,tY,uD,wS⟩:=sP id o ho;refine⟨o',sA,by omega,hsh,λe=>?_⟩;obtain⟨e1,e2,e3⟩:=wS (by omega);obtain⟨h2,h3,h4⟩:=h1 (by omega);refine⟨by omega,by omega,?_⟩;rw[e1,uD];exact h4
 | _,_,_,.Bz x off,v,h=>by
  simp only[AU]at h⊢;obtain⟨b,o,hv,hb,hr⟩:=h;exact⟨b,o,hv,hF b hb,MD hF hw x b o hb hr⟩
 | os,os',sP,.fn f sM,v,h=>by
  simp only[AU]at h⊢;obtain⟨us,hv,hr⟩:=h;exact⟨us,hv,L5 hF hw os os' sP sM us hr⟩
 | os,os',sP,.agg cs,v,h=>by
  simp only[AU]at h⊢;obtain⟨us,hv,hr⟩:=h;exact⟨us,hv,L5 hF hw os os' sP cs us hr⟩
 | _,_,_,.bd f cs,v,h=>by
  simp only[AU]at h⊢;obtain⟨us,hv,hr⟩:=h;exact⟨us,hv,L5 hF hw [] [] (by simp) cs us hr⟩
 | os,os',sP,.C7 cs,v,h=>by
  simp only[AU]at h⊢;obtain⟨us,hv,hr⟩:=h;exact⟨us,hv,L5 hF hw os os' sP cs us hr⟩
theorem L5 {F F':Nat->Prop}{w w':World}(hF :∀b,F b->F' b)(hw :∀b,F b->w'.heap[b]?=w.heap[b]?):
  ∀(os os':List Own) (_ :∀(i:Nat) (o:Own),os[i]?=some o->∃o':Own,os'[i]?=some o'/\o.row.gen<=o'.row.gen/\o'.row.size=o.row.size/\(o'.row.gen=o.row.gen->o'.E1=o.E1/\o'.cap=o.cap/\o'.row.xs.length=o.row.xs.length)) (xs:List AV) (us:List Value),A7 F w os xs us->A7 F' w' os' xs us
 | _,_,_,[],_,h=>by simpa [A7] using h
 | os,os',sP,x::r,us,h=>by
  simp only[A7]at h⊢;obtain⟨u,tO,hu,h1,h2⟩:=h;exact⟨u,tO,hu,Cy hF hw os os' sP x u h1,L5 hF hw os os' sP r tO h2⟩
theorem MD {F F':Nat->Prop}{w w':World}(hF :∀b,F b->F' b)(hw :∀b,F b->w'.heap[b]?=w.heap[b]?):
  ∀(xs:List AV) (b o:Nat),F b->De F w xs b o->De F' w' xs b o
 | [],_,_,_,_=>by simp[De]
 | x::r,b,o,hb,h=>by
  simp only[De]at h⊢;obtain⟨⟨u,hu,hl,h1⟩,h2⟩:=h;refine⟨⟨u,?_,hl,Cy hF hw [] [] (by simp) x u h1⟩,MD hF hw r b (o+1) hb h2⟩;rw[<- hu];exact pK (hw b hb)
theorem Qt {F F':Nat->Prop}{w w':World}(hF :∀b,F b->F' b)(hw :∀b,F b->w'.heap[b]?=w.heap[b]?):
  ∀(xs:List (List AV)) (b o:Nat),F b->Gt F w xs b o->Gt F' w' xs b o
 | [],_,_,_,_=>by simp[Gt]
 | x::r,b,o,hb,h=>by
  simp only[Gt]at h⊢;exact⟨MD hF hw x b o hb h.1,Qt hF hw r b (o+x.length) hb h.2⟩
end
mutual
theorem KU {S S':Nat->Prop}{w w':World}(hS :∀b,S b->S' b)(hw :∀b,S b->w'.heap[b]?=w.heap[b]?):∀(x:AV) (v:Value),DY S w x v->DY S' w' x v
 | .dv el size xs,v,h=>by
  simp only[DY]at h⊢;obtain⟨hp,h⟩:=h;refine⟨hp,?_⟩;rcases h with h|⟨b,cap,cur,h1,h2,h3,h4,h5,h6,h7,h8⟩
  ·exact .inl h
  ·refine .inr ⟨b,cap,cur,h1,h2,h3,hS b h4,by rw[hw b h4];exact h5,h6,h7,O4 (S:=λc=>S c/\c≠b) (λc hc=>⟨hS c hc.1,hc.2⟩) (λc hc=>hw c hc.1) xs cur 0 h8⟩
 | .int _ _,_,h=>by simpa [DY] using h
 | .bool _,_,h=>by simpa [DY] using h
 | .str _,_,h=>by simpa [DY] using h
 | .zc,_,h=>by simpa [DY] using h
 | .O5,_,h=>by simpa [DY] using h
 | .Po,_,h=>by simpa [DY] using h
 | .FQ,_,h=>by simp[DY]at h
 | .un,_,h=>by simp[DY]at h
 | .sl _,_,h=>by simp[DY]at h
 | .own ..,_,h=>by simp[DY]at h
 | .ptr ..,_,h=>by simp[DY]at h
 | .Bz ..,_,h=>by simp[DY]at h
 | .fn ..,_,h=>by simp[DY]at h
 | .agg _,_,h=>by simp[DY]at h
 | .C7 _,_,h=>by simp[DY]at h
theorem O4 {S S':Nat->Prop}{w w':World}(hS :∀b,S b->S' b)(hw :∀b,S b->w'.heap[b]?=w.heap[b]?):∀(xs:List (List AV)) (cur:Array Value) (o:Nat),Kh S w xs cur o->Kh S' w' xs cur o
 | [],_,_,_=>by simp[Kh]
 | x::r,cur,o,h=>by
  simp only[Kh]at h⊢;obtain⟨S1,S2,h1,h2,h3,h4,h5⟩:=h;exact⟨S1,S2,λb hb=>hS b (h1 b hb),λb hb=>hS b (h2 b hb),h3,T1 (λ_ h=>h) (λb hb=>hw b (h1 b hb)) x cur o h4,O4 (λ_ h=>h) (λb hb=>hw b (h2 b hb)) r cur _ h5⟩
theorem T1 {S S':Nat->Prop}{w w':World}(hS :∀b,S b->S' b)(hw :∀b,S b->w'.heap[b]?=w.heap[b]?):∀(xs:List AV) (cur:Array Value) (o:Nat),Kb S w xs cur o->Kb S' w' xs cur o
 | [],_,_,_=>by simp[Kb]
 | x::r,cur,o,h=>by
  simp only[Kb]at h⊢;obtain⟨S1,S2,h1,h2,h3,⟨u,h4,h5⟩,h6⟩:=h;exact⟨S1,S2,λb hb=>hS b (h1 b hb),λb hb=>hS b (h2 b hb),h3,⟨u,h4,KU (λ_ h=>h) (λb hb=>hw b (h1 b hb)) x u h5⟩,T1 (λ_ h=>h) (λb hb=>hw b (h2 b hb)) r cur _ h6⟩
end
theorem Fq {w:World}{o:Own}(h :∀x∈o.row.xs,∀c∈x,c.leaf=true):KD w o:=
 ⟨λ_ _ _=>False,λ_ _ _ h=>h.elim,λ_ _ _ _ _ h=>h.elim,λ_ _ _ _ _ _ i x j e s ys hx hc=>by
  have:=h x (mS hx) _ (mS hc);simp[AV.leaf]at this⟩
theorem KD.keep {w w':World}{o o':Own}(h:KD w o)(hb:o'.E1=o.E1)(hm :∀b,o.more b->o'.more b)(hs:o'.row.size=o.row.size)
  (hw :∀b,o.owns b->w'.heap[b]?=w.heap[b]?)
  (hr :∀(i:Nat) x (j:Nat) e s ys,o'.row.xs[i]?=some x->x[j]?=some (.dv e s ys)->∃x0,o.row.xs[i]?=some x0/\x0[j]?=some (.dv e s ys)):KD w' o':=by
 obtain⟨D,h1,h2,h3⟩:=h;refine⟨D,λi j b hb=>hm b (h1 i j b hb),h2,λb vE cur el l re i x j e s ys hx hc=>?_⟩;rw[hb]at vE;rw[hw b (.inl vE)]at re;obtain⟨x0,vh,uF⟩:=hr i x j e s ys hx hc;obtain⟨u,e1,e2⟩:=h3 b vE cur el l re i x0 j e s ys vh uF;exact⟨u,by rw[hs];exact e1,KU (λ_ h=>h) (λc hc=>hw c (.inr (h1 i j c hc))) _ u e2⟩
theorem KD.mapped {w:World}{o o':Own}(f:AV->AV)(hf :∀c e s ys,f c=.dv e s ys->c=.dv e s ys)(h:KD w o)(hb:o'.E1=o.E1)(hm:o'.more=o.more)(hs:o'.row.size=o.row.size)
  (hx:o'.row.xs=o.row.xs.map (·.map f)):KD w o':=by
 refine h.keep hb (λb hb=>by rw[hm];exact hb) hs (λ_ _=>rfl) λi x j e s ys uG hc=>?_;rw[hx,mX,mZ]at uG;obtain⟨y,hy,rfl⟩:=uG;rw[mX,mZ]at hc;obtain⟨d,hd,hc⟩:=hc;exact⟨y,hy,by rw[hd,hf _ _ _ _ hc]⟩
theorem L8.lt {F:Nat->Prop}{w:World}{os:List Own}{o:Own}(h:L8 F w os o){b:Nat}(hb:o.owns b):b<w.heap.size:=by
 rcases hb with hb|hb
 ·obtain⟨_,cur,re,_⟩:=h.some b hb;exact (nN.1 re).1
 ·exact (h.mo b hb).2.1
theorem L8.nF {F:Nat->Prop}{w:World}{os:List Own}{o:Own}(h:L8 F w os o){b:Nat}(hb:o.owns b):¬ F b:=by
 rcases hb with hb|hb
 ·exact (h.some b hb).1
 ·exact (h.mo b hb).1
end Go.Abs
