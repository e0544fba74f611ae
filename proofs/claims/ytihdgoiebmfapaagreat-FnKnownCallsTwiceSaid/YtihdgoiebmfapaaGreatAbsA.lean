import Derived.WalkKit
import Derived.Below
import Derived.OwnWalk
import Derived.Orders
import Derived.StillTail
abbrev fZ:=@Option.bind_some
abbrev fa:=@trivial
abbrev fc:=@List.mem_of_getElem?
abbrev fe:=@List.getElem?_eq_some_iff
abbrev ff:=@Option.some.injEq
abbrev fg:=@List.getElem?_map
abbrev fh:=@Bool.false_eq_true
abbrev fk:=@List.all_eq_true
abbrev fm:=@List.getElem?_eq_getElem
abbrev fp:=@Option.map_eq_some_iff
abbrev fq:=@if_pos
abbrev fr:=@if_neg
abbrev ft:=@List.getElem?_append_left
abbrev fu:=@List.mem_cons
abbrev fv:=@List.getElem?_set_self
abbrev fw:=@List.getElem?_append_right
abbrev fy:=@decide_eq_true_eq
abbrev gA:=@Nat.le_refl
abbrev gB:=@List.mem_singleton
abbrev gC:=@List.mem_map
abbrev gF:=@decide_false
abbrev gG:=@List.mem_iff_getElem?
abbrev gH:=@decide_true
abbrev gI:=@List.length_map
abbrev gJ:=@List.getElem?_set_ne
abbrev gK:=@Nat.zero_le
abbrev gM:=@if_false
abbrev gN:=@Bool.and_eq_true
abbrev gO:=@List.map_congr_left
abbrev gP:=@List.map_cons
abbrev gQ:=@List.getElem?_cons_zero
abbrev gR:=@List.getElem?_take
abbrev gS:=@List.mem_append
abbrev gT:=@List.not_mem_nil
abbrev gU:=@Nat.add_mul
abbrev gV:=@List.length_append
abbrev gW:=@Nat.mul_le_mul_right
abbrev gX:=@Option.bind_eq_some_iff
abbrev gY:=@List.eq_nil_of_length_eq_zero
abbrev gZ:=@List.getElem?_cons_succ
abbrev gb:=@if_true
abbrev gh:=@List.getElem?_drop
abbrev gk:=@Array.getElem?_eq_some_iff
abbrev gl:=@Go.Result.andThen_ok
abbrev gn:=@List.length_cons
abbrev gp:=@List.mem_or_eq_of_mem_set
abbrev gr:=@Go.Sem.run_bind
abbrev gu:=@Option.map_some
abbrev gv:=@Int.eq_ofNat_of_zero_le
abbrev gw:=@List.mem_cons_of_mem
abbrev gx:=@List.take_of_length_le
abbrev gy:=@Go.run_underlying
abbrev gz:=@List.mem_append_left
abbrev hH:=@List.getElem?_eq_none
abbrev hU:=@List.mem_filterMap
abbrev hX:=@List.mem_of_mem_take
abbrev hY:=@Go.Sem.run_pure
abbrev hZ:=@List.map_id
abbrev iA:=@Bool.not_true
abbrev iB:=@or_false
abbrev iC:=@Array.getElem?_eq_getElem
abbrev iD:=@List.map_append
abbrev iE:=@congrArg
abbrev iF:=@of_decide_eq_true
abbrev iG:=@Nat.lt_of_lt_of_le
abbrev iH:=@Nat.lt_trichotomy
abbrev iI:=@List.mem_cons_self
abbrev iJ:=@Nat.zero_add
abbrev iK:=@List.append_nil
abbrev iL:=@List.mem_of_mem_drop
abbrev iM:=@List.length_nil
abbrev iN:=@List.nil_append
abbrev iO:=@Nat.add_assoc
abbrev iP:=@List.map_map
abbrev iQ:=@List.map_nil
abbrev iR:=@List.take_length
abbrev iS:=@Nat.sub_self
abbrev iT:=@Ne.symm
abbrev iU:=@List.filterMap_cons
abbrev iV:=@List.getElem?_zipWith
abbrev iW:=@Nat.eq_of_beq_eq_true
abbrev iX:=@List.map_set
abbrev iY:=@Nat.lt_or_ge
abbrev iZ:=@decide_eq_false_iff_not
abbrev ia:=@Array.getD_eq_getD_getElem?
abbrev ib:=@List.findIdx?_eq_some_iff_getElem
abbrev ic:=@Array.getElem?_append_left
abbrev ie:=@Int.toNat_natCast
abbrev ig:=@List.mem_range
abbrev ij:=@List.take_zero
abbrev ik:=@Option.some.inj
abbrev il:=@Array.getElem?_toList
abbrev iq:=@Nat.eq_zero_or_pos
abbrev ir:=@List.drop_zero
abbrev iu:=@List.ext_getElem?
abbrev iw:=@Array.length_toList
abbrev ix:=@List.getElem?_range
abbrev iy:=@List.drop_eq_nil_of_le
abbrev iz:=@List.length_take
abbrev jA:=@Option.getD_some
abbrev jB:=@List.mem_append_right
abbrev jC:=@List.getElem?_eq_none_iff
abbrev jD:=@List.cons.injEq
abbrev jE:=@Go.World.cell?_of_block
abbrev jF:=@List.any_eq_true
abbrev jG:=@List.getElem_mem
abbrev jH:=@List.length_drop
abbrev jI:=@Option.elim_some
abbrev jJ:=@Nat.add_zero
abbrev jK:=@Nat.le_of_ble_eq_true
abbrev jL:=@List.size_toArray
abbrev jM:=@Array.ext'
abbrev jN:=@Array.toArray_toList
abbrev jO:=@List.getD_eq_getElem?_getD
abbrev jP:=@Go.ready_mono
abbrev jQ:=@Nat.mod_eq_of_lt
abbrev jR:=@decide_eq_decide
abbrev jS:=@Go.mem_ready
abbrev jT:=@List.pairwise_iff_getElem
abbrev jU:=@List.mem_map_of_mem
abbrev jV:=@Array.setIfInBounds_comm
abbrev jW:=@Bool.and_self
abbrev jX:=@List.all_cons
abbrev jY:=@List.sum_cons
abbrev jZ:=@Nat.div_le_self
abbrev ja:=@Go.run_append_grow
abbrev jb:=@Int.natCast_nonneg
abbrev jc:=@List.set_cons_zero
abbrev jd:=@decide_eq_true_iff
abbrev je:=@Go.grownCap_le_maxLen
abbrev jf:=@Go.cell_of_row
abbrev jg:=@Array.getElem?_eq_none
abbrev jh:=@List.append_assoc
abbrev ji:=@List.drop_of_length_le
abbrev jk:=@List.mapM_cons
abbrev jl:=@Go.growslice_fits
abbrev jm:=@Bool.and_eq_false_iff
abbrev jn:=@List.getElem?_toArray
abbrev jo:=@List.set_append_right
abbrev jq:=@List.set_getElem_self
abbrev jr:=@Array.mem_toList_iff
abbrev js:=@List.getElem?_mapIdx
abbrev jt:=@Go.getD_set_ne
abbrev ju:=@Nat.min_eq_left
abbrev jv:=@List.length_pos_iff
abbrev jw:=@List.take_set_of_le
abbrev jx:=@Nat.le_trans
abbrev jy:=@Nat.zero_mul
abbrev jz:=@List.map_filterMap
abbrev kA:=@List.map_replicate
abbrev kB:=@of_decide_eq_false
abbrev kC:=@Function.comp_def
abbrev kD:=@Nat.le_zero
abbrev kE:=@Go.setRow_heap
abbrev kF:=@Prod.mk.injEq
abbrev kG:=@Go.wp_region_any
abbrev kH:=@Array.toList_map
abbrev kI:=@Bool.not_eq_true
abbrev kJ:=@List.cons_append
abbrev kK:=@List.map_toArray
abbrev kL:=@List.mem_toArray
abbrev kM:=@Go.Region.free_spec
abbrev kN:=@Nat.mul_comm
abbrev kO:=@Nat.sub_zero
abbrev kP:=@Int.natCast_mul
abbrev kQ:=@List.length_set
abbrev kR:=@Option.map_none
abbrev kT:=@Go.wp_mono
theorem kS:0+3<=3:=by decide
theorem kU:0+2<=2:=by decide
theorem kV:0+5<=5:=by decide
theorem kW:0+1<=1:=by decide
theorem kX:0<=0:=by decide
theorem kY:1<=2:=by decide
theorem kZ:0+1<=2:=by decide
theorem kb:0+2<=3:=by decide
theorem ke:2<=4:=by decide
theorem kg:2+3<=5:=by decide
theorem ko:0<=2:=by decide
theorem kp:1<=4:=by decide
theorem kq:2<=5:=by decide
theorem kr:1+1<=2:=by decide
theorem kt:1<=3:=by decide
theorem ku:0<=1:=by decide
theorem kv:2<=6:=by decide
theorem kx:1<=5:=by decide
theorem ky:0+0<=1:=by decide
theorem kz:1<=6:=by decide
theorem lA:2<=3:=by decide
theorem lB:0<=4:=by decide
theorem lC:2+1<=3:=by decide
theorem lD:1<=1:=by decide
theorem lE:0+0<=2:=by decide
theorem lF:2<=2:=by decide
theorem lG:0+1<=5:=by decide
theorem lH (i:Nat):((i:Int)+1)=((i+1:Nat):Int):=by omega
theorem lI:((0:Nat):Int)=0:=rfl
set_option linter.all false
namespace Go.Abs
open Go
theorem AA {α:Sort _}{a:α}:a=a:=rfl
inductive AV where
 | E2
 | un
 | int (k:IntKind) (n:Int)
 | bool (b:Bool)
 | str (s:ByteArray)
 | zc
 | P2
 | Px
 | sl (xs:List (List AV))
 | own (id gen len:Nat)
 | ptr (id gen i off:Nat)
 | Bc (x:List AV) (off:Nat)
 | fn (f:FuncId) (mP:List AV)
 | agg (cs:List AV)
 | Dm (vs:List AV)
 | dv (el size:Nat) (xs:List (List AV))
 deriving Inhabited
abbrev i64 (n:Int):AV:=.int .i64 n
def AV.leaf:AV->Bool
 | .E2|.un|.agg _|.Dm _|.dv ..=>false
 | _=>true
def AV.kept:AV->Bool
 | .dv ..=>true
 | c=>c.leaf
theorem Dr {c:AV}(h:c.leaf=true):c.kept=true:=by cases c<;>simp_all [AV.kept,AV.leaf]
structure Row where
 gen:Nat
 elem:TypeId
 size:Nat
 xs:List (List AV)
structure Own where
 row:Row
 Fa:Option Nat
 cap:Nat
 more:Nat->Prop
def Own.owns (o:Own)(b:Nat):Prop:=o.Fa=some b∨o.more b
def FP:Nat->Prop:=λ_=>False
mutual
def Ae (F:Nat->Prop)(w:World):List Own->AV->Value->Prop
 | _,.E2,_=>True
 | _,.un,v=>v=undef
 | _,.int k n,v=>v=.int k n
 | _,.bool b,v=>v=.bool b
 | _,.str s,v=>v=.string s
 | _,.zc,v=>∃a,v=.slice a 0 0
 | _,.P2,v=>v=.pointer none
 | _,.Px,v=>v=.nilFunc
 | _,.sl xs,v=>∃a cap,v=.slice a xs.length cap/\xs.length<=cap/\(xs≠[]->∃b o size,a=some ⟨b,o,none⟩/\F b/\(∀x∈xs,x.length=size)/\HA F w xs b o)
 | os,.own id g n,v=>∃o,os[id]?=some o/\g<=o.row.gen/\(∃a l c,v=.slice a l c)/\(o.row.gen=g->n<=o.row.xs.length/\((o.Fa=none/\∃a,v=.slice a n 0)∨∃b,o.Fa=some b/\v=.slice (some ⟨b,(o.row.xs.length-n)*o.row.size,none⟩) n (o.cap-(o.row.xs.length-n))))
 | os,.ptr id g i off,v=>∃o,os[id]?=some o/\g<=o.row.gen/\(∃a,v=.pointer a)/\(o.row.gen=g->i<o.row.xs.length/\off<=o.row.size/\∃b,o.Fa=some b/\v=.pointer (some ⟨b,i*o.row.size+off,none⟩))
 | _,.Bc x off,v=>∃b o,v=.pointer (some ⟨b,o+off,none⟩)/\F b/\E6 F w x b o
 | os,.fn f mP,v=>∃us:List Value,v=.func (.func f) #[] us.toArray/\Br F w os mP us
 | os,.agg cs,v=>∃us:List Value,v=.agg us.toArray/\Br F w os cs us
 | os,.Dm vs,v=>∃us:List Value,v=.tuple us.toArray/\Br F w os vs us
 | _,.dv _ _ _,v=>∃a l c,v=.slice a l c
def Br (F:Nat->Prop)(w:World):List Own->List AV->List Value->Prop
 | _,[],us=>us=[]
 | os,x::r,us=>∃u oN,us=u::oN/\Ae F w os x u/\Br F w os r oN
def E6 (F:Nat->Prop)(w:World):List AV->Nat->Nat->Prop
 | [],_,_=>True
 | x::r,b,o=>(∃u,w.cell? ⟨b,o,none⟩=some u/\x.leaf=true/\Ae F w [] x u)/\E6 F w r b (o+1)
def HA (F:Nat->Prop)(w:World):List (List AV)->Nat->Nat->Prop
 | [],_,_=>True
 | x::r,b,o=>E6 F w x b o/\HA F w r b (o+x.length)
end
mutual
def EG (S:Nat->Prop)(w:World):AV->Value->Prop
 | .dv el size xs,v=>0<size/\((xs=[]/\∃a,v=.slice a 0 0)∨∃b cap cur,v=.slice (some ⟨b,0,none⟩) xs.length cap/\xs.length<=cap/\cap<=maxLen/\S b/\
   w.heap[b]?=some (.cells cur el (0,0))/\cur.size=cap*size/\(∀x∈xs,x.length=size)/\KV (λc=>S c/\c≠b) w xs cur 0)
 | .int k n,v=>v=.int k n
 | .bool b,v=>v=.bool b
 | .str s,v=>v=.string s
 | .zc,v=>∃a,v=.slice a 0 0
 | .P2,v=>v=.pointer none
 | .Px,v=>v=.nilFunc
 | _,_=>False
def KV (S:Nat->Prop)(w:World):List (List AV)->Array Value->Nat->Prop
 | [],_,_=>True
 | x::r,cur,o=>∃S1 S2:Nat->Prop,(∀b,S1 b->S b)/\(∀b,S2 b->S b)/\(∀b,S1 b->¬ S2 b)/\KI S1 w x cur o/\KV S2 w r cur (o+x.length)
def KI (S:Nat->Prop)(w:World):List AV->Array Value->Nat->Prop
 | [],_,_=>True
 | x::r,cur,o=>∃S1 S2:Nat->Prop,(∀b,S1 b->S b)/\(∀b,S2 b->S b)/\(∀b,S1 b->¬ S2 b)/\(∃u,cur[o]?=some u/\EG S1 w x u)/\KI S2 w r cur (o+1)
end
def J2 (w:World)(o:Own):Prop:=
 ∃D:Nat->Nat->Nat->Prop,(∀i j b,D i j b->o.more b)/\(∀i j i' j' b,D i j b->D i' j' b->i=i'/\j=j')/\
  ∀b,o.Fa=some b->∀cur el l,w.heap[b]?=some (.cells cur el l)->∀(i:Nat) x (j:Nat) e s ys,o.row.xs[i]?=some x->x[j]?=some (.dv e s ys)->
   ∃u,cur[i*o.row.size+j]?=some u/\EG (D i j) w (.dv e s ys) u
structure Lb (F:Nat->Prop) (w:World) (os:List Own) (o:Own):Prop where
 pos:0<o.row.size
 lens :∀x∈o.row.xs,x.length=o.row.size/\∀c∈x,c.kept=true
 none:o.Fa=none->o.row.xs=[]/\o.cap=0
 some :∀b,o.Fa=some b->¬ F b/\∃cur:Array Value,w.heap[b]?=some (.cells cur o.row.elem (0,0))/\cur.size=o.cap*o.row.size/\o.row.xs.length<=o.cap/\o.cap<=maxLen/\
  ∀i x,o.row.xs[i]?=some x->∀j c,x[j]?=some c->∃u,cur[i*o.row.size+j]?=some u/\Ae F w os c u
 mo :∀b,o.more b->¬ F b/\b<w.heap.size/\o.Fa≠Option.some b
 deep:J2 w o
theorem LX {o:Own}{n b:Nat}(h:n=o.row.xs.length):Value.slice (some ⟨b,(o.row.xs.length-n)*o.row.size,none⟩) n (o.cap-(o.row.xs.length-n))=.slice (some ⟨b,0,none⟩) n o.cap:=by
 subst h;simp
structure St where
 n:Nat
 env:Nat->AV
 st:List Row
def Em (e:Nat->AV)(d:Nat)(v:AV):Nat->AV:=λk=>if k=d then v else e k
structure Rel (F:Nat->Prop) (os:List Own) (s:St) (a:Act) (w:World):Prop where
 st:os.map Own.row=s.st
 env :∀k,Ae F w os (s.env k) (a.tmps.getD k undef)
 size:a.tmps.size=s.n
 rows :∀(i:Nat) (o:Own),os[i]?=some o->Lb F w os o
 inj :∀(i j:Nat) (oi oj:Own) (b:Nat),os[i]?=some oi->os[j]?=some oj->oi.owns b->oj.owns b->i=j
 GG :∀b,F b->b<w.heap.size
 defers:a.defers=[]
structure Ext (F:Nat->Prop) (os:List Own) (w:World) (F':Nat->Prop) (os':List Own) (w':World) (k:Nat):Prop where
 sys:w'.os=w.os
 tape:w'.tape=w.tape
 output:w'.output=w.output
 size:w.heap.size<=w'.heap.size
 OF :∀b,F b->F' b
 Ir :∀b,F b->w'.heap[b]?=w.heap[b]?
 other :∀b,b<w.heap.size->¬ F b->(∀o:Own,o∈os->¬ o.owns b)->w'.heap[b]?=w.heap[b]?/\¬ F' b/\∀o:Own,o∈os'->¬ o.owns b
 Xe :∀(i:Nat) (o:Own),i<k->os[i]?=some o->∃o':Own,os'[i]?=some o'/\o.row.gen<=o'.row.gen/\o'.row.size=o.row.size/\(o'.row.gen=o.row.gen->o'.Fa=o.Fa/\o'.cap=o.cap/\o'.row.xs.length=o.row.xs.length)
theorem Ext.refl (F:Nat->Prop)(os:List Own)(w:World)(k:Nat):Ext F os w F os w k:=
 ⟨rfl,rfl,rfl,gA _,λ_ h=>h,λ_ _=>rfl,λ_ _ h1 h2=>⟨rfl,h1,h2⟩,λ_ o _ h=>⟨o,h,gA _,rfl,λ_=>⟨rfl,rfl,rfl⟩⟩⟩
theorem Ext.trans {F F' zB:Nat->Prop}{os os' uL:List Own}{w w' uM:World}{k:Nat}(h:Ext F os w F' os' w' k)(g:Ext F' os' w' zB uL uM k):Ext F os w zB uL uM k:=by
 refine⟨g.sys.trans h.sys,g.tape.trans h.tape,g.output.trans h.output,jx h.size g.size,λb hb=>g.OF b (h.OF b hb),
  λb hb=>(g.Ir b (h.OF b hb)).trans (h.Ir b hb),λb hb h1 h2=>?_,λi o hi ho=>?_⟩
 ·obtain⟨e1,n1,m1⟩:=h.other b hb h1 h2;obtain⟨e2,n2,m2⟩:=g.other b (iG hb h.size) n1 m1;exact⟨e2.trans e1,n2,m2⟩
 ·obtain⟨o',lz,l1,s1,p1⟩:=h.Xe i o hi ho;obtain⟨zC,ho'',l2,s2,p2⟩:=g.Xe i o' hi lz;refine⟨zC,ho'',jx l1 l2,s2.trans s1,λe=>?_⟩;have e1:o'.row.gen=o.row.gen:=by omega
  have e2:zC.row.gen=o'.row.gen:=by omega
  obtain⟨a1,a2,a3⟩:=p1 e1;obtain⟨b1,b2,b3⟩:=p2 e2;exact⟨b1.trans a1,b2.trans a2,b3.trans a3⟩
mutual
theorem Dc {F F':Nat->Prop}{w w':World}(hF :∀b,F b->F' b)(hw :∀b,F b->w'.heap[b]?=w.heap[b]?):
  ∀(os os':List Own) (_ :∀(i:Nat) (o:Own),os[i]?=some o->∃o':Own,os'[i]?=some o'/\o.row.gen<=o'.row.gen/\o'.row.size=o.row.size/\(o'.row.gen=o.row.gen->o'.Fa=o.Fa/\o'.cap=o.cap/\o'.row.xs.length=o.row.xs.length)) (x:AV) (v:Value),Ae F w os x v->Ae F' w' os' x v
 | _,_,_,.E2,_,_=>by simp[Ae]
 | _,_,_,.un,_,h=>by simpa [Ae] using h
 | _,_,_,.int _ _,_,h=>by simpa [Ae] using h
 | _,_,_,.bool _,_,h=>by simpa [Ae] using h
 | _,_,_,.str _,_,h=>by simpa [Ae] using h
 | _,_,_,.zc,_,h=>by simpa [Ae] using h
 | _,_,_,.P2,_,h=>by simpa [Ae] using h
 | _,_,_,.Px,_,h=>by simpa [Ae] using h
 | _,_,_,.dv ..,_,h=>by simpa [Ae] using h
 | _,_,_,.sl xs,v,h=>by
  simp only[Ae]at h⊢;obtain⟨a,cap,hv,oS,h2⟩:=h;refine⟨a,cap,hv,oS,λlv=>?_⟩;obtain⟨b,o,size,ha,hb,hs,hr⟩:=h2 lv;exact⟨b,o,size,ha,hF b hb,hs,P3 hF hw xs b o hb hr⟩
 | os,os',mK,.own id g n,v,h=>by
  simp only[Ae]at h⊢;obtain⟨o,ho,hle,hsh,h1⟩:=h;obtain⟨o',lz,oa,pj,pa⟩:=mK id o ho;refine⟨o',lz,by omega,hsh,λe=>?_⟩;obtain⟨e1,e2,e3⟩:=pa (by omega);obtain⟨h2,h3⟩:=h1 (by omega);refine⟨by omega,?_⟩;rw[e1,e2,e3,pj];exact h3
 | os,os',mK,.ptr id g i off,v,h=>by
  simp only[Ae]at h⊢;obtain⟨o,ho,hle,hsh,h1⟩:=h;obtain⟨o',lz,oa,pj,pa⟩:=mK id o ho;refine⟨o',lz,by omega,hsh,λe=>?_⟩;obtain⟨e1,e2,e3⟩:=pa (by omega);obtain⟨h2,h3,h4⟩:=h1 (by omega);refine⟨by omega,by omega,?_⟩;rw[e1,pj];exact h4
 | _,_,_,.Bc x off,v,h=>by
  simp only[Ae]at h⊢;obtain⟨b,o,hv,hb,hr⟩:=h;exact⟨b,o,hv,hF b hb,Lq hF hw x b o hb hr⟩
 | os,os',mK,.fn f mP,v,h=>by
  simp only[Ae]at h⊢;obtain⟨us,hv,hr⟩:=h;exact⟨us,hv,Nt hF hw os os' mK mP us hr⟩
 | os,os',mK,.agg cs,v,h=>by
  simp only[Ae]at h⊢;obtain⟨us,hv,hr⟩:=h;exact⟨us,hv,Nt hF hw os os' mK cs us hr⟩
 | os,os',mK,.Dm cs,v,h=>by
  simp only[Ae]at h⊢;obtain⟨us,hv,hr⟩:=h;exact⟨us,hv,Nt hF hw os os' mK cs us hr⟩
theorem Nt {F F':Nat->Prop}{w w':World}(hF :∀b,F b->F' b)(hw :∀b,F b->w'.heap[b]?=w.heap[b]?):
  ∀(os os':List Own) (_ :∀(i:Nat) (o:Own),os[i]?=some o->∃o':Own,os'[i]?=some o'/\o.row.gen<=o'.row.gen/\o'.row.size=o.row.size/\(o'.row.gen=o.row.gen->o'.Fa=o.Fa/\o'.cap=o.cap/\o'.row.xs.length=o.row.xs.length)) (xs:List AV) (us:List Value),Br F w os xs us->Br F' w' os' xs us
 | _,_,_,[],_,h=>by simpa [Br] using h
 | os,os',mK,x::r,us,h=>by
  simp only[Br]at h⊢;obtain⟨u,oN,hu,h1,h2⟩:=h;exact⟨u,oN,hu,Dc hF hw os os' mK x u h1,Nt hF hw os os' mK r oN h2⟩
theorem Lq {F F':Nat->Prop}{w w':World}(hF :∀b,F b->F' b)(hw :∀b,F b->w'.heap[b]?=w.heap[b]?):
  ∀(xs:List AV) (b o:Nat),F b->E6 F w xs b o->E6 F' w' xs b o
 | [],_,_,_,_=>by simp[E6]
 | x::r,b,o,hb,h=>by
  simp only[E6]at h⊢;obtain⟨⟨u,hu,hl,h1⟩,h2⟩:=h;refine⟨⟨u,?_,hl,Dc hF hw [] [] (by simp) x u h1⟩,Lq hF hw r b (o+1) hb h2⟩;rw[<- hu];exact jE (hw b hb)
theorem P3 {F F':Nat->Prop}{w w':World}(hF :∀b,F b->F' b)(hw :∀b,F b->w'.heap[b]?=w.heap[b]?):
  ∀(xs:List (List AV)) (b o:Nat),F b->HA F w xs b o->HA F' w' xs b o
 | [],_,_,_,_=>by simp[HA]
 | x::r,b,o,hb,h=>by
  simp only[HA]at h⊢;exact⟨Lq hF hw x b o hb h.1,P3 hF hw r b (o+x.length) hb h.2⟩
end
mutual
theorem Lu {S S':Nat->Prop}{w w':World}(hS :∀b,S b->S' b)(hw :∀b,S b->w'.heap[b]?=w.heap[b]?):∀(x:AV) (v:Value),EG S w x v->EG S' w' x v
 | .dv el size xs,v,h=>by
  simp only[EG]at h⊢;obtain⟨hp,h⟩:=h;refine⟨hp,?_⟩;rcases h with h|⟨b,cap,cur,h1,h2,h3,h4,h5,h6,h7,h8⟩
  ·exact .inl h
  ·refine .inr ⟨b,cap,cur,h1,h2,h3,hS b h4,by rw[hw b h4];exact h5,h6,h7,OU (S:=λc=>S c/\c≠b) (λc hc=>⟨hS c hc.1,hc.2⟩) (λc hc=>hw c hc.1) xs cur 0 h8⟩
 | .int _ _,_,h=>by simpa [EG] using h
 | .bool _,_,h=>by simpa [EG] using h
 | .str _,_,h=>by simpa [EG] using h
 | .zc,_,h=>by simpa [EG] using h
 | .P2,_,h=>by simpa [EG] using h
 | .Px,_,h=>by simpa [EG] using h
 | .E2,_,h=>by simp[EG]at h
 | .un,_,h=>by simp[EG]at h
 | .sl _,_,h=>by simp[EG]at h
 | .own ..,_,h=>by simp[EG]at h
 | .ptr ..,_,h=>by simp[EG]at h
 | .Bc ..,_,h=>by simp[EG]at h
 | .fn ..,_,h=>by simp[EG]at h
 | .agg _,_,h=>by simp[EG]at h
 | .Dm _,_,h=>by simp[EG]at h
theorem OU {S S':Nat->Prop}{w w':World}(hS :∀b,S b->S' b)(hw :∀b,S b->w'.heap[b]?=w.heap[b]?):∀(xs:List (List AV)) (cur:Array Value) (o:Nat),KV S w xs cur o->KV S' w' xs cur o
 | [],_,_,_=>by simp[KV]
 | x::r,cur,o,h=>by
  simp only[KV]at h⊢;obtain⟨S1,S2,h1,h2,h3,h4,h5⟩:=h;exact⟨S1,S2,λb hb=>hS b (h1 b hb),λb hb=>hS b (h2 b hb),h3,SM (λ_ h=>h) (λb hb=>hw b (h1 b hb)) x cur o h4,OU (λ_ h=>h) (λb hb=>hw b (h2 b hb)) r cur _ h5⟩
theorem SM {S S':Nat->Prop}{w w':World}(hS :∀b,S b->S' b)(hw :∀b,S b->w'.heap[b]?=w.heap[b]?):∀(xs:List AV) (cur:Array Value) (o:Nat),KI S w xs cur o->KI S' w' xs cur o
 | [],_,_,_=>by simp[KI]
 | x::r,cur,o,h=>by
  simp only[KI]at h⊢;obtain⟨S1,S2,h1,h2,h3,⟨u,h4,h5⟩,h6⟩:=h;exact⟨S1,S2,λb hb=>hS b (h1 b hb),λb hb=>hS b (h2 b hb),h3,⟨u,h4,Lu (λ_ h=>h) (λb hb=>hw b (h1 b hb)) x u h5⟩,SM (λ_ h=>h) (λb hb=>hw b (h2 b hb)) r cur _ h6⟩
end
theorem Ef {w:World}{o:Own}(h :∀x∈o.row.xs,∀c∈x,c.leaf=true):J2 w o:=
 ⟨λ_ _ _=>False,λ_ _ _ h=>h.elim,λ_ _ _ _ _ h=>h.elim,λ_ _ _ _ _ _ i x j e s ys hx hc=>by
  have:=h x (fc hx) _ (fc hc);simp[AV.leaf]at this⟩
theorem J2.keep {w w':World}{o o':Own}(h:J2 w o)(hb:o'.Fa=o.Fa)(hm :∀b,o.more b->o'.more b)(hs:o'.row.size=o.row.size)
  (hw :∀b,o.owns b->w'.heap[b]?=w.heap[b]?)
  (hr :∀(i:Nat) x (j:Nat) e s ys,o'.row.xs[i]?=some x->x[j]?=some (.dv e s ys)->∃x0,o.row.xs[i]?=some x0/\x0[j]?=some (.dv e s ys)):J2 w' o':=by
 obtain⟨D,h1,h2,h3⟩:=h;refine⟨D,λi j b hb=>hm b (h1 i j b hb),h2,λb ns cur el l lj i x j e s ys hx hc=>?_⟩;rw[hb]at ns;rw[hw b (.inl ns)]at lj;obtain⟨x0,hx0,nO⟩:=hr i x j e s ys hx hc;obtain⟨u,e1,e2⟩:=h3 b ns cur el l lj i x0 j e s ys hx0 nO;exact⟨u,by rw[hs];exact e1,Lu (λ_ h=>h) (λc hc=>hw c (.inr (h1 i j c hc))) _ u e2⟩
theorem J2.mapped {w:World}{o o':Own}(f:AV->AV)(hf :∀c e s ys,f c=.dv e s ys->c=.dv e s ys)(h:J2 w o)(hb:o'.Fa=o.Fa)(hm:o'.more=o.more)(hs:o'.row.size=o.row.size)
  (hx:o'.row.xs=o.row.xs.map (·.map f)):J2 w o':=by
 refine h.keep hb (λb hb=>by rw[hm];exact hb) hs (λ_ _=>rfl) λi x j e s ys oO hc=>?_;rw[hx,fg,fp]at oO;obtain⟨y,hy,rfl⟩:=oO;rw[fg,fp]at hc;obtain⟨d,hd,hc⟩:=hc;exact⟨y,hy,by rw[hd,hf _ _ _ _ hc]⟩
theorem Lb.lt {F:Nat->Prop}{w:World}{os:List Own}{o:Own}(h:Lb F w os o){b:Nat}(hb:o.owns b):b<w.heap.size:=by
 rcases hb with hb|hb
 ·obtain⟨_,cur,lj,_⟩:=h.some b hb;exact (gk.1 lj).1
 ·exact (h.mo b hb).2.1
theorem Lb.nF {F:Nat->Prop}{w:World}{os:List Own}{o:Own}(h:Lb F w os o){b:Nat}(hb:o.owns b):¬ F b:=by
 rcases hb with hb|hb
 ·exact (h.some b hb).1
 ·exact (h.mo b hb).1
end Go.Abs
