import Derived.WalkKit
import Derived.Below
import Derived.OwnWalk
import Derived.Orders
import Derived.StillTail
import Derived.MapKept
abbrev Rk:=@List.mem_of_getElem?
abbrev Rl:=@Option.bind_some
abbrev Rm:=@List.getElem?_eq_some_iff
abbrev Rn:=@Option.some.injEq
abbrev Ro:=@List.getElem?_map
abbrev Rp:=@List.getElem?_eq_getElem
abbrev Rq:=@trivial
abbrev Rr:=@Option.map_eq_some_iff
abbrev Rs:=@List.getElem?_set_self
abbrev Rt:=@List.getElem?_append_left
abbrev Ru:=@List.all_eq_true
abbrev Rv:=@List.getElem?_append_right
abbrev Rw:=@List.getElem?_set_ne
abbrev Rx:=@if_neg
abbrev Ry:=@if_pos
abbrev Rz:=@Nat.le_refl
abbrev R0:=@List.mem_iff_getElem?
abbrev R1:=@Bool.false_eq_true
abbrev R2:=@List.getElem?_cons_zero
abbrev R3:=@Option.bind_eq_some_iff
abbrev R4:=@List.map_congr_left
abbrev R5:=@Nat.zero_le
abbrev R6:=@List.getElem?_take
abbrev R7:=@List.mem_map
abbrev R8:=@List.mem_singleton
abbrev R9:=@List.map_cons
abbrev SA:=@List.mem_cons
abbrev SB:=@List.length_map
abbrev SC:=@Option.map_some
abbrev SD:=@Go.Result.andThen_ok
abbrev SE:=@List.getElem?_eq_none
abbrev SF:=@decide_eq_true_eq
abbrev SG:=@List.getElem?_cons_succ
abbrev SH:=@List.drop_zero
abbrev SI:=@List.mem_append
abbrev SJ:=@Go.run_underlying
abbrev SK:=@List.eq_nil_of_length_eq_zero
abbrev SL:=@Bool.and_eq_true
abbrev SM:=@Nat.add_mul
abbrev SN:=@Nat.mul_le_mul_right
abbrev SO:=@List.mem_or_eq_of_mem_set
abbrev SP:=@List.length_append
abbrev SQ:=@Go.Sem.run_bind
abbrev SS:=@List.getElem?_drop
abbrev SU:=@Go.Sem.run_pure
abbrev SV:=@List.mem_of_mem_take
abbrev SW:=@Nat.lt_trichotomy
abbrev SX:=@if_false
abbrev SY:=@Ne.symm
abbrev SZ:=@Array.getElem?_eq_some_iff
abbrev Sa:=@List.mem_of_mem_drop
abbrev Sb:=@List.map_set
abbrev Sc:=@List.mem_cons_of_mem
abbrev Sd:=@Nat.lt_of_lt_of_le
abbrev Se:=@List.map_append
abbrev Sf:=@List.drop_eq_nil_of_le
abbrev Sg:=@Array.getElem?_eq_getElem
abbrev Si:=@List.length_cons
abbrev Sj:=@List.map_id
abbrev Sk:=@Array.getD_eq_getD_getElem?
abbrev Sl:=@List.findIdx?_eq_some_iff_getElem
abbrev Sm:=@if_true
abbrev Sn:=@List.mem_cons_self
abbrev So:=@List.mem_filterMap
abbrev Sp:=@Option.getD_some
abbrev Sq:=@List.map_map
abbrev Sr:=@Nat.sub_self
abbrev Ss:=@List.getElem?_of_mem
abbrev Su:=@Int.toNat_natCast
abbrev Sv:=@of_decide_eq_true
abbrev Sw:=@List.length_nil
abbrev Sx:=@List.nil_append
abbrev Sy:=@Array.length_toList
abbrev Sz:=@List.filterMap_cons
abbrev S0:=@Bool.not_true
abbrev S3:=@List.getElem_mem
abbrev S4:=@Array.getElem?_append_left
abbrev S5:=@Int.tdiv_eq_ediv_of_nonneg
abbrev S6:=@Nat.eq_of_beq_eq_true
abbrev S7:=@List.map_nil
abbrev S8:=@Nat.add_assoc
abbrev S9:=@Go.MapKept.run_findKey
abbrev TA:=@Int.eq_ofNat_of_zero_le
abbrev TB:=@List.take_length
abbrev TC:=@Go.MapKept.run_getObj_map
abbrev TD:=@Nat.lt_or_ge
abbrev TE:=@Array.getElem?_toList
abbrev TF:=@List.append_assoc
abbrev TG:=@Array.ext'
abbrev TH:=@List.getD_eq_getElem?_getD
abbrev TI:=@Go.cell_of_row
abbrev TJ:=@List.length_take
abbrev TK:=@Nat.zero_add
abbrev TL:=@Classical.byContradiction
abbrev TM:=@List.pairwise_iff_getElem
abbrev TN:=@List.getElem?_range
abbrev TO:=@Bool.true_and
abbrev TP:=@List.length_erase_of_mem
abbrev TQ:=@Nat.lt_succ_iff_lt_or_eq
abbrev TR:=@Option.isSome_iff_exists
abbrev TS:=@List.append_nil
abbrev TT:=@decide_eq_false_iff_not
abbrev TU:=@Bool.not_eq_true'
abbrev TV:=@List.ext_getElem?
abbrev TW:=@List.mapM_cons
abbrev TX:=@List.mem_range
abbrev TY:=@List.nodup_append
abbrev TZ:=@List.nodup_nil
abbrev Ta:=@List.length_singleton
abbrev Tb:=@List.set_getElem_self
abbrev Tc:=@Nat.le_of_ble_eq_true
abbrev Td:=@Nat.lt_irrefl
abbrev Te:=@Array.mem_toList_iff
abbrev Tf:=@Go.MapKept.run_checkKey
abbrev Tg:=@List.length_set
abbrev Th:=@List.map_filterMap
abbrev Ti:=@Nat.eq_or_lt_of_le
abbrev Tj:=@Go.heap_alloc_new
abbrev Tk:=@List.getElem?_set
abbrev Tl:=@List.size_toArray
abbrev Tm:=@Nat.le_zero
abbrev To:=@List.all_cons
abbrev Tp:=@List.sum_cons
abbrev Tq:=@Array.toList_map
abbrev Tr:=@Bool.not_eq_true
abbrev Ts:=@List.filter_cons
abbrev Tt:=@List.length_drop
abbrev Tu:=@List.mem_toArray
abbrev Tv:=@Option.getD_none
abbrev Tw:=@Nat.zero_mul
abbrev Tx:=@Bool.or_eq_true
abbrev Ty:=@List.cons.injEq
abbrev Tz:=@Option.some.inj
abbrev T1:=@decide_true
theorem UA:0+2<=2:=by decide
theorem UB:0<=2:=by decide
theorem UC:0+1<=1:=by decide
theorem UD:0<=1:=by decide
theorem UE:0+3<=3:=by decide
theorem UF:0<=5:=by decide
theorem UG:0<=3:=by decide
theorem UH (i:Nat):((i:Int)+1)=((i+1:Nat):Int):=by omega
theorem UI:((0:Nat):Int)=0:=rfl
set_option linter.all false
namespace Go.Abs
open Go
theorem U {α:Sort _}{a:α}:a=a:=rfl
inductive AV where
 | Bk
 | un
 | int (k:IntKind) (n:Int)
 | bool (b:Bool)
 | str (s:ByteArray)
 | zc
 | G6
 | Gz
 | sl (xs:List (List AV))
 | own (id gen len:Nat)
 | ptr (id gen i off:Nat)
 | A6 (x:List AV) (off:Nat)
 | fn (f:FuncId) (Uh:List AV)
 | agg (cs:List AV)
 | BK (vs:List AV)
 | dv (el size:Nat) (xs:List (List AV))
 | mp (b:Nat)
 | mv (D:List (List AV))
 deriving Inhabited
abbrev i64 (n:Int):AV:=.int .i64 n
def AV.leaf:AV->Bool
 | .Bk|.un|.agg _|.BK _|.dv ..=>false
 | _=>true
def AV.kept:AV->Bool
 | .dv ..=>true
 | c=>c.leaf
theorem Bd {c:AV}(h:c.leaf=true):c.kept=true:=by cases c<;>simp_all [AV.kept,AV.leaf]
structure Row where
 gen:Nat
 elem:TypeId
 size:Nat
 xs:List (List AV)
structure Own where
 row:Row
 BV:Option Nat
 cap:Nat
 more:Nat->Prop
def Own.owns (o:Own)(b:Nat):Prop:=o.BV=some b∨o.more b
def Cg:Nat->Prop:=λ_=>False
def Cd:AV->Option Value
 | .int k n=>some (.int k n)
 | .bool b=>some (.bool b)
 | _=>none
def Jc:List AV->Option (Value×Value)
 | [k,v]=>match Cd k,Cd v with
  | some a,some b=>some (a,b)
  | _,_=>none
 | _=>none
def GC (w:World)(b:Nat)(D:List (List AV)):Prop:=∃es clock,w.heap[b]?=some (.map es clock)/\D.map Jc=es.toList.map λx=>some (x.key,x.val)
theorem GC.keep {w w':World}{b:Nat}{D:List (List AV)}(h:GC w b D)(hw:w'.heap[b]?=w.heap[b]?):GC w' b D:=by
 obtain⟨es,c,h1,h2⟩:=h;exact⟨es,c,by rw[hw];exact h1,h2⟩
mutual
def AF (F:Nat->Prop)(w:World):List Own->AV->Value->Prop
 | _,.Bk,_=>True
 | _,.un,v=>v=undef
 | _,.int k n,v=>v=.int k n
 | _,.bool b,v=>v=.bool b
 | _,.str s,v=>v=.string s
 | _,.zc,v=>∃a,v=.slice a 0 0
 | _,.G6,v=>v=.pointer none
 | _,.Gz,v=>v=.nilFunc
 | _,.sl xs,v=>∃a cap,v=.slice a xs.length cap/\xs.length<=cap/\(xs≠[]->∃b o size,a=some ⟨b,o,none⟩/\F b/\(∀x∈xs,x.length=size)/\CR F w xs b o)
 | os,.own id g n,v=>∃o,os[id]?=some o/\g<=o.row.gen/\(∃a l c,v=.slice a l c)/\(o.row.gen=g->n<=o.row.xs.length/\((o.BV=none/\o.row.xs=[]/\∃a,v=.slice a n 0)∨∃b,o.BV=some b/\v=.slice (some ⟨b,(o.row.xs.length-n)*o.row.size,none⟩) n (o.cap-(o.row.xs.length-n))))
 | os,.ptr id g i off,v=>∃o,os[id]?=some o/\g<=o.row.gen/\(∃a,v=.pointer a)/\(o.row.gen=g->i<o.row.xs.length/\off<=o.row.size/\∃b,o.BV=some b/\v=.pointer (some ⟨b,i*o.row.size+off,none⟩))
 | _,.A6 x off,v=>∃b o,v=.pointer (some ⟨b,o+off,none⟩)/\F b/\BY F w x b o
 | os,.fn f Uh,v=>∃us:List Value,v=.func (.func f) #[] us.toArray/\Ad F w os Uh us
 | os,.agg cs,v=>∃us:List Value,v=.agg us.toArray/\Ad F w os cs us
 | os,.BK vs,v=>∃us:List Value,v=.tuple us.toArray/\Ad F w os vs us
 | _,.dv _ _ _,v=>∃a l c,v=.slice a l c
 | _,.mp b,v=>v=.map (some b)
 | _,.mv D,v=>(D=[]/\v=.map none)∨∃b,v=.map (some b)/\F b/\GC w b D
def Ad (F:Nat->Prop)(w:World):List Own->List AV->List Value->Prop
 | _,[],us=>us=[]
 | os,x::r,us=>∃u VK,us=u::VK/\AF F w os x u/\Ad F w os r VK
def BY (F:Nat->Prop)(w:World):List AV->Nat->Nat->Prop
 | [],_,_=>True
 | x::r,b,o=>(∃u,w.cell? ⟨b,o,none⟩=some u/\x.leaf=true/\AF F w [] x u)/\BY F w r b (o+1)
def CR (F:Nat->Prop)(w:World):List (List AV)->Nat->Nat->Prop
 | [],_,_=>True
 | x::r,b,o=>BY F w x b o/\CR F w r b (o+x.length)
end
mutual
def A7 (S:Nat->Prop)(w:World):AV->Value->Prop
 | .dv el size xs,v=>0<size/\((xs=[]/\∃a,v=.slice a 0 0)∨∃b cap cur,v=.slice (some ⟨b,0,none⟩) xs.length cap/\xs.length<=cap/\cap<=maxLen/\S b/\
   w.heap[b]?=some (.cells cur el (0,0))/\cur.size=cap*size/\(∀x∈xs,x.length=size)/\D9 (λc=>S c/\c≠b) w xs cur 0)
 | .int k n,v=>v=.int k n
 | .bool b,v=>v=.bool b
 | .str s,v=>v=.string s
 | .zc,v=>∃a,v=.slice a 0 0
 | .G6,v=>v=.pointer none
 | .Gz,v=>v=.nilFunc
 | _,_=>False
def D9 (S:Nat->Prop)(w:World):List (List AV)->Array Value->Nat->Prop
 | [],_,_=>True
 | x::r,cur,o=>∃S1 S2:Nat->Prop,(∀b,S1 b->S b)/\(∀b,S2 b->S b)/\(∀b,S1 b->¬ S2 b)/\D3 S1 w x cur o/\D9 S2 w r cur (o+x.length)
def D3 (S:Nat->Prop)(w:World):List AV->Array Value->Nat->Prop
 | [],_,_=>True
 | x::r,cur,o=>∃S1 S2:Nat->Prop,(∀b,S1 b->S b)/\(∀b,S2 b->S b)/\(∀b,S1 b->¬ S2 b)/\(∃u,cur[o]?=some u/\A7 S1 w x u)/\D3 S2 w r cur (o+1)
end
def Dn (w:World)(o:Own):Prop:=
 (∀x b s D,o.BV=none->o.row.xs[0]?=some x->x[0]?=some (.dv b s D)->o.more b/\GC w b D)/\
 ∃D:Nat->Nat->Nat->Prop,(∀i j b,D i j b->o.more b)/\(∀i j i' j' b,D i j b->D i' j' b->i=i'/\j=j')/\
  ∀b,o.BV=some b->∀cur el l,w.heap[b]?=some (.cells cur el l)->∀(i:Nat) x (j:Nat) e s ys,o.row.xs[i]?=some x->x[j]?=some (.dv e s ys)->
   ∃u,cur[i*o.row.size+j]?=some u/\A7 (D i j) w (.dv e s ys) u
structure Dr (F:Nat->Prop) (w:World) (os:List Own) (o:Own):Prop where
 pos:0<o.row.size
 lens :∀x∈o.row.xs,x.length=o.row.size/\∀c∈x,c.kept=true
 none:o.BV=none->(o.row.xs=[]∨∃b D,o.row.xs=[[.dv b 0 D]])/\o.cap=0
 some :∀b,o.BV=some b->¬ F b/\∃cur:Array Value,w.heap[b]?=some (.cells cur o.row.elem (0,0))/\cur.size=o.cap*o.row.size/\o.row.xs.length<=o.cap/\o.cap<=maxLen/\
  ∀i x,o.row.xs[i]?=some x->∀j c,x[j]?=some c->∃u,cur[i*o.row.size+j]?=some u/\AF F w os c u
 mo :∀b,o.more b->¬ F b/\b<w.heap.size/\o.BV≠Option.some b
 deep:Dn w o
theorem Eb {o:Own}{n b:Nat}(h:n=o.row.xs.length):Value.slice (some ⟨b,(o.row.xs.length-n)*o.row.size,none⟩) n (o.cap-(o.row.xs.length-n))=.slice (some ⟨b,0,none⟩) n o.cap:=by
 subst h;simp
structure St where
 n:Nat
 env:Nat->AV
 st:List Row
def CD (e:Nat->AV)(d:Nat)(v:AV):Nat->AV:=λk=>if k=d then v else e k
structure Rel (F:Nat->Prop) (os:List Own) (s:St) (a:Act) (w:World):Prop where
 st:os.map Own.row=s.st
 env :∀k,AF F w os (s.env k) (a.tmps.getD k undef)
 size:a.tmps.size=s.n
 rows :∀(i:Nat) (o:Own),os[i]?=some o->Dr F w os o
 inj :∀(i j:Nat) (oi oj:Own) (b:Nat),os[i]?=some oi->os[j]?=some oj->oi.owns b->oj.owns b->i=j
 CL :∀b,F b->b<w.heap.size
 defers:a.defers=[]
structure Ext (F:Nat->Prop) (os:List Own) (w:World) (F':Nat->Prop) (os':List Own) (w':World) (k:Nat):Prop where
 sys:w'.os=w.os
 tape:w'.tape=w.tape
 output:w'.output=w.output
 size:w.heap.size<=w'.heap.size
 FP :∀b,F b->F' b
 C8 :∀b,F b->w'.heap[b]?=w.heap[b]?
 other :∀b,b<w.heap.size->¬ F b->(∀o:Own,o∈os->¬ o.owns b)->w'.heap[b]?=w.heap[b]?/\¬ F' b/\∀o:Own,o∈os'->¬ o.owns b
 Np :∀(i:Nat) (o:Own),i<k->os[i]?=some o->∃o':Own,os'[i]?=some o'/\o.row.gen<=o'.row.gen/\o'.row.size=o.row.size/\(o'.row.gen=o.row.gen->o'.BV=o.BV/\o'.cap=o.cap/\o'.row.xs.length=o.row.xs.length)
theorem BM (F:Nat->Prop)(os:List Own)(w:World)(k:Nat):Ext F os w F os w k:=
 ⟨rfl,rfl,rfl,Rz _,λ_ h=>h,λ_ _=>rfl,λ_ _ h1 h2=>⟨rfl,h1,h2⟩,λ_ o _ h=>⟨o,h,Rz _,rfl,λ_=>⟨rfl,rfl,rfl⟩⟩⟩
theorem Ext.trans {F F' fD:Nat->Prop}{os os' aV:List Own}{w w' fE:World}{k:Nat}(h:Ext F os w F' os' w' k)(g:Ext F' os' w' fD aV fE k):Ext F os w fD aV fE k:=by
 refine⟨g.sys.trans h.sys,g.tape.trans h.tape,g.output.trans h.output,Nat.le_trans h.size g.size,λb hb=>g.FP b (h.FP b hb),
  λb hb=>(g.C8 b (h.FP b hb)).trans (h.C8 b hb),λb hb h1 h2=>?_,λi o hi ho=>?_⟩
 ·obtain⟨e1,n1,m1⟩:=h.other b hb h1 h2;obtain⟨e2,n2,m2⟩:=g.other b (Sd hb h.size) n1 m1;exact⟨e2.trans e1,n2,m2⟩
 ·obtain⟨o',UU,l1,s1,p1⟩:=h.Np i o hi ho;obtain⟨fF,ho'',l2,s2,p2⟩:=g.Np i o' hi UU;refine⟨fF,ho'',Nat.le_trans l1 l2,s2.trans s1,λe=>?_⟩;have e1:o'.row.gen=o.row.gen:=by omega
  have e2:fF.row.gen=o'.row.gen:=by omega
  obtain⟨a1,a2,a3⟩:=p1 e1;obtain⟨b1,b2,b3⟩:=p2 e2;exact⟨b1.trans a1,b2.trans a2,b3.trans a3⟩
mutual
theorem A5 {F F':Nat->Prop}{w w':World}(hF :∀b,F b->F' b)(hw :∀b,F b->w'.heap[b]?=w.heap[b]?):
  ∀(os os':List Own) (_ :∀(i:Nat) (o:Own),os[i]?=some o->∃o':Own,os'[i]?=some o'/\o.row.gen<=o'.row.gen/\o'.row.size=o.row.size/\(o'.row.gen=o.row.gen->o'.BV=o.BV/\o'.cap=o.cap/\o'.row.xs.length=o.row.xs.length)) (x:AV) (v:Value),AF F w os x v->AF F' w' os' x v
 | _,_,_,.Bk,_,_=>by simp[AF]
 | _,_,_,.un,_,h=>by simpa [AF] using h
 | _,_,_,.int _ _,_,h=>by simpa [AF] using h
 | _,_,_,.bool _,_,h=>by simpa [AF] using h
 | _,_,_,.str _,_,h=>by simpa [AF] using h
 | _,_,_,.zc,_,h=>by simpa [AF] using h
 | _,_,_,.G6,_,h=>by simpa [AF] using h
 | _,_,_,.Gz,_,h=>by simpa [AF] using h
 | _,_,_,.dv ..,_,h=>by simpa [AF] using h
 | _,_,_,.mp _,_,h=>by simpa [AF] using h
 | _,_,_,.mv D,_,h=>by
  simp only[AF]at h⊢;rcases h with h|⟨b,h1,h2,h3⟩
  ·exact .inl h
  ·exact .inr ⟨b,h1,hF b h2,h3.keep (hw b h2)⟩
 | _,_,_,.sl xs,v,h=>by
  simp only[AF]at h⊢;obtain⟨a,cap,hv,Vw,h2⟩:=h;refine⟨a,cap,hv,Vw,λUW=>?_⟩;obtain⟨b,o,size,ha,hb,hs,hr⟩:=h2 UW;exact⟨b,o,size,ha,hF b hb,hs,Gy hF hw xs b o hb hr⟩
 | os,os',Ud,.own id g n,v,h=>by
  simp only[AF]at h⊢;obtain⟨o,ho,hle,hsh,h1⟩:=h;obtain⟨o',UU,Xz,Vx,Y3⟩:=Ud id o ho;refine⟨o',UU,by omega,hsh,λe=>?_⟩;obtain⟨e1,e2,e3⟩:=Y3 (by omega);obtain⟨h2,h3⟩:=h1 (by omega);refine⟨by omega,?_⟩;rcases h3 with ⟨q1,q2,q3⟩|⟨b,q1,q2⟩
  ·exact .inl ⟨by rw[e1];exact q1,SK (by rw[e3,q2];rfl),q3⟩
  ·exact .inr ⟨b,by rw[e1];exact q1,by rw[e2,e3,Vx];exact q2⟩
 | os,os',Ud,.ptr id g i off,v,h=>by
  simp only[AF]at h⊢;obtain⟨o,ho,hle,hsh,h1⟩:=h;obtain⟨o',UU,Xz,Vx,Y3⟩:=Ud id o ho;refine⟨o',UU,by omega,hsh,λe=>?_⟩;obtain⟨e1,e2,e3⟩:=Y3 (by omega);obtain⟨h2,h3,h4⟩:=h1 (by omega);refine⟨by omega,by omega,?_⟩;rw[e1,Vx];exact h4
 | _,_,_,.A6 x off,v,h=>by
  simp only[AF]at h⊢;obtain⟨b,o,hv,hb,hr⟩:=h;exact⟨b,o,hv,hF b hb,Ej hF hw x b o hb hr⟩
 | os,os',Ud,.fn f Uh,v,h=>by
  simp only[AF]at h⊢;obtain⟨us,hv,hr⟩:=h;exact⟨us,hv,FX hF hw os os' Ud Uh us hr⟩
 | os,os',Ud,.agg cs,v,h=>by
  simp only[AF]at h⊢;obtain⟨us,hv,hr⟩:=h;exact⟨us,hv,FX hF hw os os' Ud cs us hr⟩
 | os,os',Ud,.BK cs,v,h=>by
  simp only[AF]at h⊢;obtain⟨us,hv,hr⟩:=h;exact⟨us,hv,FX hF hw os os' Ud cs us hr⟩
theorem FX {F F':Nat->Prop}{w w':World}(hF :∀b,F b->F' b)(hw :∀b,F b->w'.heap[b]?=w.heap[b]?):
  ∀(os os':List Own) (_ :∀(i:Nat) (o:Own),os[i]?=some o->∃o':Own,os'[i]?=some o'/\o.row.gen<=o'.row.gen/\o'.row.size=o.row.size/\(o'.row.gen=o.row.gen->o'.BV=o.BV/\o'.cap=o.cap/\o'.row.xs.length=o.row.xs.length)) (xs:List AV) (us:List Value),Ad F w os xs us->Ad F' w' os' xs us
 | _,_,_,[],_,h=>by simpa [Ad] using h
 | os,os',Ud,x::r,us,h=>by
  simp only[Ad]at h⊢;obtain⟨u,VK,hu,h1,h2⟩:=h;exact⟨u,VK,hu,A5 hF hw os os' Ud x u h1,FX hF hw os os' Ud r VK h2⟩
theorem Ej {F F':Nat->Prop}{w w':World}(hF :∀b,F b->F' b)(hw :∀b,F b->w'.heap[b]?=w.heap[b]?):
  ∀(xs:List AV) (b o:Nat),F b->BY F w xs b o->BY F' w' xs b o
 | [],_,_,_,_=>by simp[BY]
 | x::r,b,o,hb,h=>by
  simp only[BY]at h⊢;obtain⟨⟨u,hu,hl,h1⟩,h2⟩:=h;refine⟨⟨u,?_,hl,A5 hF hw [] [] (by simp) x u h1⟩,Ej hF hw r b (o+1) hb h2⟩;rw[<- hu];exact World.cell?_of_block (hw b hb)
theorem Gy {F F':Nat->Prop}{w w':World}(hF :∀b,F b->F' b)(hw :∀b,F b->w'.heap[b]?=w.heap[b]?):
  ∀(xs:List (List AV)) (b o:Nat),F b->CR F w xs b o->CR F' w' xs b o
 | [],_,_,_,_=>by simp[CR]
 | x::r,b,o,hb,h=>by
  simp only[CR]at h⊢;exact⟨Ej hF hw x b o hb h.1,Gy hF hw r b (o+x.length) hb h.2⟩
end
mutual
theorem Et {S S':Nat->Prop}{w w':World}(hS :∀b,S b->S' b)(hw :∀b,S b->w'.heap[b]?=w.heap[b]?):∀(x:AV) (v:Value),A7 S w x v->A7 S' w' x v
 | .dv el size xs,v,h=>by
  simp only[A7]at h⊢;obtain⟨hp,h⟩:=h;refine⟨hp,?_⟩;rcases h with h|⟨b,cap,cur,h1,h2,h3,h4,h5,h6,h7,h8⟩
  ·exact .inl h
  ·refine .inr ⟨b,cap,cur,h1,h2,h3,hS b h4,by rw[hw b h4];exact h5,h6,h7,Gg (S:=λc=>S c/\c≠b) (λc hc=>⟨hS c hc.1,hc.2⟩) (λc hc=>hw c hc.1) xs cur 0 h8⟩
 | .int _ _,_,h=>by simpa [A7] using h
 | .bool _,_,h=>by simpa [A7] using h
 | .str _,_,h=>by simpa [A7] using h
 | .zc,_,h=>by simpa [A7] using h
 | .G6,_,h=>by simpa [A7] using h
 | .Gz,_,h=>by simpa [A7] using h
 | .Bk,_,h=>by simp[A7]at h
 | .un,_,h=>by simp[A7]at h
 | .sl _,_,h=>by simp[A7]at h
 | .own ..,_,h=>by simp[A7]at h
 | .ptr ..,_,h=>by simp[A7]at h
 | .A6 ..,_,h=>by simp[A7]at h
 | .fn ..,_,h=>by simp[A7]at h
 | .agg _,_,h=>by simp[A7]at h
 | .BK _,_,h=>by simp[A7]at h
 | .mp _,_,h=>by simp[A7]at h
 | .mv _,_,h=>by simp[A7]at h
theorem Gg {S S':Nat->Prop}{w w':World}(hS :∀b,S b->S' b)(hw :∀b,S b->w'.heap[b]?=w.heap[b]?):∀(xs:List (List AV)) (cur:Array Value) (o:Nat),D9 S w xs cur o->D9 S' w' xs cur o
 | [],_,_,_=>by simp[D9]
 | x::r,cur,o,h=>by
  simp only[D9]at h⊢;obtain⟨S1,S2,h1,h2,h3,h4,h5⟩:=h;exact⟨S1,S2,λb hb=>hS b (h1 b hb),λb hb=>hS b (h2 b hb),h3,Ie (λ_ h=>h) (λb hb=>hw b (h1 b hb)) x cur o h4,Gg (λ_ h=>h) (λb hb=>hw b (h2 b hb)) r cur _ h5⟩
theorem Ie {S S':Nat->Prop}{w w':World}(hS :∀b,S b->S' b)(hw :∀b,S b->w'.heap[b]?=w.heap[b]?):∀(xs:List AV) (cur:Array Value) (o:Nat),D3 S w xs cur o->D3 S' w' xs cur o
 | [],_,_,_=>by simp[D3]
 | x::r,cur,o,h=>by
  simp only[D3]at h⊢;obtain⟨S1,S2,h1,h2,h3,⟨u,h4,h5⟩,h6⟩:=h;exact⟨S1,S2,λb hb=>hS b (h1 b hb),λb hb=>hS b (h2 b hb),h3,⟨u,h4,Et (λ_ h=>h) (λb hb=>hw b (h1 b hb)) x u h5⟩,Ie (λ_ h=>h) (λb hb=>hw b (h2 b hb)) r cur _ h6⟩
end
theorem FG {xs:List (List AV)}(f:AV->AV)(hf :∀b D,f (.dv b 0 D)=.dv b 0 D)(h:xs=[]∨∃b D,xs=[[.dv b 0 D]]):xs.map (·.map f)=[]∨∃b D,xs.map (·.map f)=[[.dv b 0 D]]:=by
 rcases h with rfl|⟨b,D,rfl⟩
 ·exact .inl rfl
 ·exact .inr ⟨b,D,by simp[hf]⟩
theorem Dr.nil {F:Nat->Prop}{w:World}{os:List Own}{o:Own}(h:Dr F w os o)(hb:o.BV=.none)(hn:o.row.xs=[]):o.row.xs=[]/\o.cap=0:=⟨hn,(h.none hb).2⟩
theorem Dr.La {F:Nat->Prop}{w:World}{os:List Own}{o:Own}(h:Dr F w os o)(hb:o.BV=.none){i j:Nat}{x:List AV}{c:AV}(hx:o.row.xs[i]?=.some x)(hc:x[j]?=.some c):∃b D,c=.dv b 0 D:=by
 rcases (h.none hb).1 with h0|⟨b,D,h0⟩
 ·rw[h0]at hx;simp at hx
 ·rw[h0]at hx;have hm:=Rk hx;simp only[R8]at hm;subst hm;have hm:=Rk hc;simp only[R8]at hm;exact⟨b,D,hm⟩
theorem B2 {w:World}{o:Own}(h :∀x∈o.row.xs,∀c∈x,c.leaf=true):Dn w o:=
 ⟨λx b s D _ hx hc=>by
  have:=h x (Rk hx) _ (Rk hc);simp[AV.leaf]at this,λ_ _ _=>False,λ_ _ _ h=>h.elim,λ_ _ _ _ _ h=>h.elim,λ_ _ _ _ _ _ i x j e s ys hx hc=>by
  have:=h x (Rk hx) _ (Rk hc);simp[AV.leaf]at this⟩
theorem Dn.keep {w w':World}{o o':Own}(h:Dn w o)(hb:o'.BV=o.BV)(hm :∀b,o.more b->o'.more b)(hs:o'.row.size=o.row.size)
  (hw :∀b,o.owns b->w'.heap[b]?=w.heap[b]?)
  (hr :∀(i:Nat) x (j:Nat) e s ys,o'.row.xs[i]?=some x->x[j]?=some (.dv e s ys)->∃x0,o.row.xs[i]?=some x0/\x0[j]?=some (.dv e s ys)):Dn w' o':=by
 obtain⟨h0,D,h1,h2,h3⟩:=h;refine⟨λx b s D hn hx hc=>?_,D,λi j b hb=>hm b (h1 i j b hb),h2,λb Wt cur el l T7 i x j e s ys hx hc=>?_⟩
 ·rw[hb]at hn;obtain⟨x0,Xp,U3⟩:=hr 0 x 0 b s D hx hc;obtain⟨m1,m2⟩:=h0 x0 b s D hn Xp U3;exact⟨hm b m1,m2.keep (hw b (.inr m1))⟩
 rw[hb]at Wt;rw[hw b (.inl Wt)]at T7;obtain⟨x0,Xp,U3⟩:=hr i x j e s ys hx hc;obtain⟨u,e1,e2⟩:=h3 b Wt cur el l T7 i x0 j e s ys Xp U3;exact⟨u,by rw[hs];exact e1,Et (λ_ h=>h) (λc hc=>hw c (.inr (h1 i j c hc))) _ u e2⟩
theorem Dn.mapped {w:World}{o o':Own}(f:AV->AV)(hf :∀c e s ys,f c=.dv e s ys->c=.dv e s ys)(h:Dn w o)(hb:o'.BV=o.BV)(hm:o'.more=o.more)(hs:o'.row.size=o.row.size)
  (hx:o'.row.xs=o.row.xs.map (·.map f)):Dn w o':=by
 refine h.keep hb (λb hb=>by rw[hm];exact hb) hs (λ_ _=>rfl) λi x j e s ys Wl hc=>?_;rw[hx,Ro,Rr]at Wl;obtain⟨y,hy,rfl⟩:=Wl;rw[Ro,Rr]at hc;obtain⟨d,hd,hc⟩:=hc;exact⟨y,hy,by rw[hd,hf _ _ _ _ hc]⟩
theorem Dr.lt {F:Nat->Prop}{w:World}{os:List Own}{o:Own}(h:Dr F w os o){b:Nat}(hb:o.owns b):b<w.heap.size:=by
 rcases hb with hb|hb
 ·obtain⟨_,cur,T7,_⟩:=h.some b hb;exact (SZ.1 T7).1
 ·exact (h.mo b hb).2.1
theorem Dr.nF {F:Nat->Prop}{w:World}{os:List Own}{o:Own}(h:Dr F w os o){b:Nat}(hb:o.owns b):¬ F b:=by
 rcases hb with hb|hb
 ·exact (h.some b hb).1
 ·exact (h.mo b hb).1
end Go.Abs
