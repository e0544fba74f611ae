import Derived.WalkKit
import Derived.Below
import Derived.OwnWalk
import Derived.Orders
import Derived.StillTail
import Derived.MapKept
abbrev Ro:=@List.mem_of_getElem?
abbrev Rp:=@Option.bind_some
abbrev Rq:=@List.getElem?_eq_some_iff
abbrev Rr:=@Option.some.injEq
abbrev Rs:=@List.getElem?_map
abbrev Rt:=@List.getElem?_eq_getElem
abbrev Ru:=@trivial
abbrev Rv:=@Option.map_eq_some_iff
abbrev Rw:=@List.getElem?_set_self
abbrev Rx:=@List.getElem?_append_left
abbrev Ry:=@List.all_eq_true
abbrev Rz:=@List.getElem?_append_right
abbrev R0:=@if_neg
abbrev R1:=@if_pos
abbrev R2:=@List.getElem?_set_ne
abbrev R3:=@Nat.le_refl
abbrev R4:=@Bool.false_eq_true
abbrev R5:=@List.mem_iff_getElem?
abbrev R6:=@List.getElem?_cons_zero
abbrev R7:=@Option.bind_eq_some_iff
abbrev R8:=@List.map_congr_left
abbrev R9:=@List.mem_map
abbrev SA:=@Nat.zero_le
abbrev SB:=@List.getElem?_take
abbrev SC:=@List.mem_singleton
abbrev SD:=@List.map_cons
abbrev SE:=@List.mem_cons
abbrev SF:=@List.length_map
abbrev SG:=@Option.map_some
abbrev SH:=@Go.Result.andThen_ok
abbrev SI:=@List.getElem?_eq_none
abbrev SJ:=@decide_eq_true_eq
abbrev SK:=@List.getElem?_cons_succ
abbrev SL:=@List.drop_zero
abbrev SM:=@List.mem_append
abbrev SN:=@Go.run_underlying
abbrev SO:=@List.eq_nil_of_length_eq_zero
abbrev SP:=@Bool.and_eq_true
abbrev SQ:=@Nat.add_mul
abbrev SS:=@Nat.mul_le_mul_right
abbrev SU:=@List.mem_or_eq_of_mem_set
abbrev SV:=@List.length_append
abbrev SW:=@Go.Sem.run_bind
abbrev SX:=@List.getElem?_drop
abbrev SY:=@Go.Sem.run_pure
abbrev SZ:=@List.mem_of_mem_take
abbrev Sa:=@if_false
abbrev Sb:=@Nat.lt_trichotomy
abbrev Sc:=@Ne.symm
abbrev Sd:=@Array.getElem?_eq_some_iff
abbrev Se:=@List.mem_of_mem_drop
abbrev Sf:=@List.map_set
abbrev Sg:=@List.mem_cons_of_mem
abbrev Si:=@Nat.lt_of_lt_of_le
abbrev Sj:=@List.map_append
abbrev Sk:=@List.drop_eq_nil_of_le
abbrev Sl:=@Array.getElem?_eq_getElem
abbrev Sm:=@List.length_cons
abbrev Sn:=@List.map_id
abbrev So:=@Array.getD_eq_getD_getElem?
abbrev Sp:=@List.findIdx?_eq_some_iff_getElem
abbrev Sq:=@of_decide_eq_true
abbrev Sr:=@if_true
abbrev Ss:=@List.mem_cons_self
abbrev Su:=@List.mem_filterMap
abbrev Sv:=@Option.getD_some
abbrev Sw:=@Bool.not_true
abbrev Sx:=@List.map_map
abbrev Sy:=@Nat.sub_self
abbrev Sz:=@List.getElem?_of_mem
abbrev S0:=@Int.toNat_natCast
abbrev S3:=@List.length_nil
abbrev S4:=@List.nil_append
abbrev S5:=@Array.length_toList
abbrev S6:=@List.filterMap_cons
abbrev S7:=@List.getElem_mem
abbrev S8:=@Array.getElem?_append_left
abbrev S9:=@Int.tdiv_eq_ediv_of_nonneg
abbrev TA:=@Nat.eq_of_beq_eq_true
abbrev TB:=@List.map_nil
abbrev TC:=@Nat.add_assoc
abbrev TD:=@Go.MapKept.run_findKey
abbrev TE:=@Int.eq_ofNat_of_zero_le
abbrev TF:=@List.take_length
abbrev TG:=@Go.MapKept.run_getObj_map
abbrev TH:=@Nat.lt_or_ge
abbrev TI:=@Array.getElem?_toList
abbrev TJ:=@List.append_assoc
abbrev TK:=@Array.ext'
abbrev TL:=@List.getD_eq_getElem?_getD
abbrev TM:=@Go.cell_of_row
abbrev TN:=@List.length_take
abbrev TO:=@Nat.zero_add
abbrev TP:=@Classical.byContradiction
abbrev TQ:=@List.pairwise_iff_getElem
abbrev TR:=@List.getElem?_range
abbrev TS:=@Bool.true_and
abbrev TT:=@List.length_erase_of_mem
abbrev TU:=@Nat.lt_succ_iff_lt_or_eq
abbrev TV:=@Option.isSome_iff_exists
abbrev TW:=@List.append_nil
abbrev TX:=@decide_eq_false_iff_not
abbrev TY:=@Bool.not_eq_true'
abbrev TZ:=@List.ext_getElem?
abbrev Ta:=@List.mapM_cons
abbrev Tb:=@List.mem_range
abbrev Tc:=@List.nodup_append
abbrev Td:=@List.nodup_nil
abbrev Te:=@List.length_singleton
abbrev Tf:=@List.set_getElem_self
abbrev Tg:=@Nat.le_of_ble_eq_true
abbrev Th:=@Nat.lt_irrefl
abbrev Ti:=@Array.mem_toList_iff
abbrev Tj:=@Go.MapKept.run_checkKey
abbrev Tk:=@List.length_set
abbrev Tl:=@List.map_filterMap
abbrev Tm:=@Nat.eq_or_lt_of_le
abbrev To:=@Go.heap_alloc_new
abbrev Tp:=@List.getElem?_set
abbrev Tq:=@List.size_toArray
abbrev Tr:=@Nat.le_zero
abbrev Ts:=@List.all_cons
abbrev Tt:=@List.sum_cons
abbrev Tu:=@Array.toList_map
abbrev Tv:=@Bool.not_eq_true
abbrev Tw:=@List.filter_cons
abbrev Tx:=@List.length_drop
abbrev Ty:=@List.mem_toArray
abbrev Tz:=@Option.getD_none
abbrev T0:=@Nat.zero_mul
abbrev T1:=@Bool.or_eq_true
abbrev T2:=@List.cons.injEq
abbrev T3:=@Option.some.inj
abbrev T5:=@decide_true
theorem UA:0+2<=2:=by decide
theorem UB:0<=2:=by decide
theorem UC:0+1<=1:=by decide
theorem UD:0<=1:=by decide
theorem UE:0+3<=3:=by decide
theorem UF:0<=5:=by decide
theorem UG:0<=3:=by decide
theorem UH (i:Nat):((i:Int)+1)=((i+1:Nat):Int):=by omega
theorem UI:((0:Nat):Int)=0:=rfl
set_option linter.all false
namespace Go.Abs
open Go
theorem U {α:Sort _}{a:α}:a=a:=rfl
inductive AV where
 | Bl
 | un
 | int (k:IntKind) (n:Int)
 | bool (b:Bool)
 | str (s:ByteArray)
 | zc
 | G7
 | G1
 | sl (xs:List (List AV))
 | own (id gen len:Nat)
 | ptr (id gen i off:Nat)
 | A4 (x:List AV) (off:Nat)
 | fn (f:FuncId) (Ul:List AV)
 | agg (cs:List AV)
 | BB (vs:List AV)
 | dv (el size:Nat) (xs:List (List AV))
 | mp (b:Nat)
 | mv (D:List (List AV))
 deriving Inhabited
abbrev i64 (n:Int):AV:=.int .i64 n
def AV.leaf:AV->Bool
 | .Bl|.un|.agg _|.BB _|.dv ..=>false
 | _=>true
def AV.kept:AV->Bool
 | .dv ..=>true
 | c=>c.leaf
theorem Bd {c:AV}(h:c.leaf=true):c.kept=true:=by cases c<;>simp_all [AV.kept,AV.leaf]
structure Row where
 gen:Nat
 elem:TypeId
 size:Nat
 xs:List (List AV)
structure Own where
 row:Row
 BW:Option Nat
 cap:Nat
 more:Nat->Prop
def Own.owns (o:Own)(b:Nat):Prop:=o.BW=some b∨o.more b
def Cl:Nat->Prop:=λ_=>False
def Cc:AV->Option Value
 | .int k n=>some (.int k n)
 | .bool b=>some (.bool b)
 | _=>none
def Jk:List AV->Option (Value×Value)
 | [k,v]=>match Cc k,Cc v with
  | some a,some b=>some (a,b)
  | _,_=>none
 | _=>none
def GZ (w:World)(b:Nat)(D:List (List AV)):Prop:=∃es clock,w.heap[b]?=some (.map es clock)/\D.map Jk=es.toList.map λx=>some (x.key,x.val)
theorem GZ.keep {w w':World}{b:Nat}{D:List (List AV)}(h:GZ w b D)(hw:w'.heap[b]?=w.heap[b]?):GZ w' b D:=by
 obtain⟨es,c,h1,h2⟩:=h;exact⟨es,c,by rw[hw];exact h1,h2⟩
mutual
def AF (F:Nat->Prop)(w:World):List Own->AV->Value->Prop
 | _,.Bl,_=>True
 | _,.un,v=>v=undef
 | _,.int k n,v=>v=.int k n
 | _,.bool b,v=>v=.bool b
 | _,.str s,v=>v=.string s
 | _,.zc,v=>∃a,v=.slice a 0 0
 | _,.G7,v=>v=.pointer none
 | _,.G1,v=>v=.nilFunc
 | _,.sl xs,v=>∃a cap,v=.slice a xs.length cap/\xs.length<=cap/\(xs≠[]->∃b o size,a=some ⟨b,o,none⟩/\F b/\(∀x∈xs,x.length=size)/\CS F w xs b o)
 | os,.own id g n,v=>∃o,os[id]?=some o/\g<=o.row.gen/\(∃a l c,v=.slice a l c)/\(o.row.gen=g->n<=o.row.xs.length/\((o.BW=none/\o.row.xs=[]/\∃a,v=.slice a n 0)∨∃b,o.BW=some b/\v=.slice (some ⟨b,(o.row.xs.length-n)*o.row.size,none⟩) n (o.cap-(o.row.xs.length-n))))
 | os,.ptr id g i off,v=>∃o,os[id]?=some o/\g<=o.row.gen/\(∃a,v=.pointer a)/\(o.row.gen=g->i<o.row.xs.length/\off<=o.row.size/\∃b,o.BW=some b/\v=.pointer (some ⟨b,i*o.row.size+off,none⟩))
 | _,.A4 x off,v=>∃b o,v=.pointer (some ⟨b,o+off,none⟩)/\F b/\Ba F w x b o
 | os,.fn f Ul,v=>∃us:List Value,v=.func (.func f) #[] us.toArray/\Ad F w os Ul us
 | os,.agg cs,v=>∃us:List Value,v=.agg us.toArray/\Ad F w os cs us
 | os,.BB vs,v=>∃us:List Value,v=.tuple us.toArray/\Ad F w os vs us
 | _,.dv _ _ _,v=>∃a l c,v=.slice a l c
 | _,.mp b,v=>v=.map (some b)
 | _,.mv D,v=>(D=[]/\v=.map none)∨∃b,v=.map (some b)/\F b/\GZ w b D
def Ad (F:Nat->Prop)(w:World):List Own->List AV->List Value->Prop
 | _,[],us=>us=[]
 | os,x::r,us=>∃u VR,us=u::VR/\AF F w os x u/\Ad F w os r VR
def Ba (F:Nat->Prop)(w:World):List AV->Nat->Nat->Prop
 | [],_,_=>True
 | x::r,b,o=>(∃u,w.cell? ⟨b,o,none⟩=some u/\x.leaf=true/\AF F w [] x u)/\Ba F w r b (o+1)
def CS (F:Nat->Prop)(w:World):List (List AV)->Nat->Nat->Prop
 | [],_,_=>True
 | x::r,b,o=>Ba F w x b o/\CS F w r b (o+x.length)
end
mutual
def A9 (S:Nat->Prop)(w:World):AV->Value->Prop
 | .dv el size xs,v=>0<size/\((xs=[]/\∃a,v=.slice a 0 0)∨∃b cap cur,v=.slice (some ⟨b,0,none⟩) xs.length cap/\xs.length<=cap/\cap<=maxLen/\S b/\
   w.heap[b]?=some (.cells cur el (0,0))/\cur.size=cap*size/\(∀x∈xs,x.length=size)/\EA (λc=>S c/\c≠b) w xs cur 0)
 | .int k n,v=>v=.int k n
 | .bool b,v=>v=.bool b
 | .str s,v=>v=.string s
 | .zc,v=>∃a,v=.slice a 0 0
 | .G7,v=>v=.pointer none
 | .G1,v=>v=.nilFunc
 | _,_=>False
def EA (S:Nat->Prop)(w:World):List (List AV)->Array Value->Nat->Prop
 | [],_,_=>True
 | x::r,cur,o=>∃S1 S2:Nat->Prop,(∀b,S1 b->S b)/\(∀b,S2 b->S b)/\(∀b,S1 b->¬ S2 b)/\EB S1 w x cur o/\EA S2 w r cur (o+x.length)
def EB (S:Nat->Prop)(w:World):List AV->Array Value->Nat->Prop
 | [],_,_=>True
 | x::r,cur,o=>∃S1 S2:Nat->Prop,(∀b,S1 b->S b)/\(∀b,S2 b->S b)/\(∀b,S1 b->¬ S2 b)/\(∃u,cur[o]?=some u/\A9 S1 w x u)/\EB S2 w r cur (o+1)
end
def D0 (w:World)(o:Own):Prop:=
 (∀x b s D,o.BW=none->o.row.xs[0]?=some x->x[0]?=some (.dv b s D)->o.more b/\GZ w b D)/\
 ∃D:Nat->Nat->Nat->Prop,(∀i j b,D i j b->o.more b)/\(∀i j i' j' b,D i j b->D i' j' b->i=i'/\j=j')/\
  ∀b,o.BW=some b->∀cur el l,w.heap[b]?=some (.cells cur el l)->∀(i:Nat) x (j:Nat) e s ys,o.row.xs[i]?=some x->x[j]?=some (.dv e s ys)->
   ∃u,cur[i*o.row.size+j]?=some u/\A9 (D i j) w (.dv e s ys) u
structure D2 (F:Nat->Prop) (w:World) (os:List Own) (o:Own):Prop where
 pos:0<o.row.size
 lens :∀x∈o.row.xs,x.length=o.row.size/\∀c∈x,c.kept=true
 none:o.BW=none->(o.row.xs=[]∨∃b D,o.row.xs=[[.dv b 0 D]])/\o.cap=0
 some :∀b,o.BW=some b->¬ F b/\∃cur:Array Value,w.heap[b]?=some (.cells cur o.row.elem (0,0))/\cur.size=o.cap*o.row.size/\o.row.xs.length<=o.cap/\o.cap<=maxLen/\
  ∀i x,o.row.xs[i]?=some x->∀j c,x[j]?=some c->∃u,cur[i*o.row.size+j]?=some u/\AF F w os c u
 mo :∀b,o.more b->¬ F b/\b<w.heap.size/\o.BW≠Option.some b
 deep:D0 w o
theorem Ef {o:Own}{n b:Nat}(h:n=o.row.xs.length):Value.slice (some ⟨b,(o.row.xs.length-n)*o.row.size,none⟩) n (o.cap-(o.row.xs.length-n))=.slice (some ⟨b,0,none⟩) n o.cap:=by
 subst h;simp
structure St where
 n:Nat
 env:Nat->AV
 st:List Row
def CE (e:Nat->AV)(d:Nat)(v:AV):Nat->AV:=λk=>if k=d then v else e k
structure Rel (F:Nat->Prop) (os:List Own) (s:St) (a:Act) (w:World):Prop where
 st:os.map Own.row=s.st
 env :∀k,AF F w os (s.env k) (a.tmps.getD k undef)
 size:a.tmps.size=s.n
 rows :∀(i:Nat) (o:Own),os[i]?=some o->D2 F w os o
 inj :∀(i j:Nat) (oi oj:Own) (b:Nat),os[i]?=some oi->os[j]?=some oj->oi.owns b->oj.owns b->i=j
 CL :∀b,F b->b<w.heap.size
 defers:a.defers=[]
structure Ext (F:Nat->Prop) (os:List Own) (w:World) (F':Nat->Prop) (os':List Own) (w':World) (k:Nat):Prop where
 sys:w'.os=w.os
 tape:w'.tape=w.tape
 output:w'.output=w.output
 size:w.heap.size<=w'.heap.size
 FT :∀b,F b->F' b
 DC :∀b,F b->w'.heap[b]?=w.heap[b]?
 other :∀b,b<w.heap.size->¬ F b->(∀o:Own,o∈os->¬ o.owns b)->w'.heap[b]?=w.heap[b]?/\¬ F' b/\∀o:Own,o∈os'->¬ o.owns b
 Ny :∀(i:Nat) (o:Own),i<k->os[i]?=some o->∃o':Own,os'[i]?=some o'/\o.row.gen<=o'.row.gen/\o'.row.size=o.row.size/\(o'.row.gen=o.row.gen->o'.BW=o.BW/\o'.cap=o.cap/\o'.row.xs.length=o.row.xs.length)
theorem BN (F:Nat->Prop)(os:List Own)(w:World)(k:Nat):Ext F os w F os w k:=
 ⟨rfl,rfl,rfl,R3 _,λ_ h=>h,λ_ _=>rfl,λ_ _ h1 h2=>⟨rfl,h1,h2⟩,λ_ o _ h=>⟨o,h,R3 _,rfl,λ_=>⟨rfl,rfl,rfl⟩⟩⟩
theorem Ext.trans {F F' fI:Nat->Prop}{os os' aa:List Own}{w w' fJ:World}{k:Nat}(h:Ext F os w F' os' w' k)(g:Ext F' os' w' fI aa fJ k):Ext F os w fI aa fJ k:=by
 refine⟨g.sys.trans h.sys,g.tape.trans h.tape,g.output.trans h.output,Nat.le_trans h.size g.size,λb hb=>g.FT b (h.FT b hb),
  λb hb=>(g.DC b (h.FT b hb)).trans (h.DC b hb),λb hb h1 h2=>?_,λi o hi ho=>?_⟩
 ·obtain⟨e1,n1,m1⟩:=h.other b hb h1 h2;obtain⟨e2,n2,m2⟩:=g.other b (Si hb h.size) n1 m1;exact⟨e2.trans e1,n2,m2⟩
 ·obtain⟨o',UZ,l1,s1,p1⟩:=h.Ny i o hi ho;obtain⟨fK,ho'',l2,s2,p2⟩:=g.Ny i o' hi UZ;refine⟨fK,ho'',Nat.le_trans l1 l2,s2.trans s1,λe=>?_⟩;have e1:o'.row.gen=o.row.gen:=by omega
  have e2:fK.row.gen=o'.row.gen:=by omega
  obtain⟨a1,a2,a3⟩:=p1 e1;obtain⟨b1,b2,b3⟩:=p2 e2;exact⟨b1.trans a1,b2.trans a2,b3.trans a3⟩
mutual
theorem A8 {F F':Nat->Prop}{w w':World}(hF :∀b,F b->F' b)(hw :∀b,F b->w'.heap[b]?=w.heap[b]?):
  ∀(os os':List Own) (_ :∀(i:Nat) (o:Own),os[i]?=some o->∃o':Own,os'[i]?=some o'/\o.row.gen<=o'.row.gen/\o'.row.size=o.row.size/\(o'.row.gen=o.row.gen->o'.BW=o.BW/\o'.cap=o.cap/\o'.row.xs.length=o.row.xs.length)) (x:AV) (v:Value),AF F w os x v->AF F' w' os' x v
 | _,_,_,.Bl,_,_=>by simp[AF]
 | _,_,_,.un,_,h=>by simpa [AF] using h
 | _,_,_,.int _ _,_,h=>by simpa [AF] using h
 | _,_,_,.bool _,_,h=>by simpa [AF] using h
 | _,_,_,.str _,_,h=>by simpa [AF] using h
 | _,_,_,.zc,_,h=>by simpa [AF] using h
 | _,_,_,.G7,_,h=>by simpa [AF] using h
 | _,_,_,.G1,_,h=>by simpa [AF] using h
 | _,_,_,.dv ..,_,h=>by simpa [AF] using h
 | _,_,_,.mp _,_,h=>by simpa [AF] using h
 | _,_,_,.mv D,_,h=>by
  simp only[AF]at h⊢;rcases h with h|⟨b,h1,h2,h3⟩
  ·exact .inl h
  ·exact .inr ⟨b,h1,hF b h2,h3.keep (hw b h2)⟩
 | _,_,_,.sl xs,v,h=>by
  simp only[AF]at h⊢;obtain⟨a,cap,hv,V0,h2⟩:=h;refine⟨a,cap,hv,V0,λUa=>?_⟩;obtain⟨b,o,size,ha,hb,hs,hr⟩:=h2 Ua;exact⟨b,o,size,ha,hF b hb,hs,G2 hF hw xs b o hb hr⟩
 | os,os',Uh,.own id g n,v,h=>by
  simp only[AF]at h⊢;obtain⟨o,ho,hle,hsh,h1⟩:=h;obtain⟨o',UZ,X4,V1,Y7⟩:=Uh id o ho;refine⟨o',UZ,by omega,hsh,λe=>?_⟩;obtain⟨e1,e2,e3⟩:=Y7 (by omega);obtain⟨h2,h3⟩:=h1 (by omega);refine⟨by omega,?_⟩;rcases h3 with ⟨q1,q2,q3⟩|⟨b,q1,q2⟩
  ·exact .inl ⟨by rw[e1];exact q1,SO (by rw[e3,q2];rfl),q3⟩
  ·exact .inr ⟨b,by rw[e1];exact q1,by rw[e2,e3,V1];exact q2⟩
 | os,os',Uh,.ptr id g i off,v,h=>by
  simp only[AF]at h⊢;obtain⟨o,ho,hle,hsh,h1⟩:=h;obtain⟨o',UZ,X4,V1,Y7⟩:=Uh id o ho;refine⟨o',UZ,by omega,hsh,λe=>?_⟩;obtain⟨e1,e2,e3⟩:=Y7 (by omega);obtain⟨h2,h3,h4⟩:=h1 (by omega);refine⟨by omega,by omega,?_⟩;rw[e1,V1];exact h4
 | _,_,_,.A4 x off,v,h=>by
  simp only[AF]at h⊢;obtain⟨b,o,hv,hb,hr⟩:=h;exact⟨b,o,hv,hF b hb,Ev hF hw x b o hb hr⟩
 | os,os',Uh,.fn f Ul,v,h=>by
  simp only[AF]at h⊢;obtain⟨us,hv,hr⟩:=h;exact⟨us,hv,Fo hF hw os os' Uh Ul us hr⟩
 | os,os',Uh,.agg cs,v,h=>by
  simp only[AF]at h⊢;obtain⟨us,hv,hr⟩:=h;exact⟨us,hv,Fo hF hw os os' Uh cs us hr⟩
 | os,os',Uh,.BB cs,v,h=>by
  simp only[AF]at h⊢;obtain⟨us,hv,hr⟩:=h;exact⟨us,hv,Fo hF hw os os' Uh cs us hr⟩
theorem Fo {F F':Nat->Prop}{w w':World}(hF :∀b,F b->F' b)(hw :∀b,F b->w'.heap[b]?=w.heap[b]?):
  ∀(os os':List Own) (_ :∀(i:Nat) (o:Own),os[i]?=some o->∃o':Own,os'[i]?=some o'/\o.row.gen<=o'.row.gen/\o'.row.size=o.row.size/\(o'.row.gen=o.row.gen->o'.BW=o.BW/\o'.cap=o.cap/\o'.row.xs.length=o.row.xs.length)) (xs:List AV) (us:List Value),Ad F w os xs us->Ad F' w' os' xs us
 | _,_,_,[],_,h=>by simpa [Ad] using h
 | os,os',Uh,x::r,us,h=>by
  simp only[Ad]at h⊢;obtain⟨u,VR,hu,h1,h2⟩:=h;exact⟨u,VR,hu,A8 hF hw os os' Uh x u h1,Fo hF hw os os' Uh r VR h2⟩
theorem Ev {F F':Nat->Prop}{w w':World}(hF :∀b,F b->F' b)(hw :∀b,F b->w'.heap[b]?=w.heap[b]?):
  ∀(xs:List AV) (b o:Nat),F b->Ba F w xs b o->Ba F' w' xs b o
 | [],_,_,_,_=>by simp[Ba]
 | x::r,b,o,hb,h=>by
  simp only[Ba]at h⊢;obtain⟨⟨u,hu,hl,h1⟩,h2⟩:=h;refine⟨⟨u,?_,hl,A8 hF hw [] [] (by simp) x u h1⟩,Ev hF hw r b (o+1) hb h2⟩;rw[<- hu];exact World.cell?_of_block (hw b hb)
theorem G2 {F F':Nat->Prop}{w w':World}(hF :∀b,F b->F' b)(hw :∀b,F b->w'.heap[b]?=w.heap[b]?):
  ∀(xs:List (List AV)) (b o:Nat),F b->CS F w xs b o->CS F' w' xs b o
 | [],_,_,_,_=>by simp[CS]
 | x::r,b,o,hb,h=>by
  simp only[CS]at h⊢;exact⟨Ev hF hw x b o hb h.1,G2 hF hw r b (o+x.length) hb h.2⟩
end
mutual
theorem Et {S S':Nat->Prop}{w w':World}(hS :∀b,S b->S' b)(hw :∀b,S b->w'.heap[b]?=w.heap[b]?):∀(x:AV) (v:Value),A9 S w x v->A9 S' w' x v
 | .dv el size xs,v,h=>by
  simp only[A9]at h⊢;obtain⟨hp,h⟩:=h;refine⟨hp,?_⟩;rcases h with h|⟨b,cap,cur,h1,h2,h3,h4,h5,h6,h7,h8⟩
  ·exact .inl h
  ·refine .inr ⟨b,cap,cur,h1,h2,h3,hS b h4,by rw[hw b h4];exact h5,h6,h7,GD (S:=λc=>S c/\c≠b) (λc hc=>⟨hS c hc.1,hc.2⟩) (λc hc=>hw c hc.1) xs cur 0 h8⟩
 | .int _ _,_,h=>by simpa [A9] using h
 | .bool _,_,h=>by simpa [A9] using h
 | .str _,_,h=>by simpa [A9] using h
 | .zc,_,h=>by simpa [A9] using h
 | .G7,_,h=>by simpa [A9] using h
 | .G1,_,h=>by simpa [A9] using h
 | .Bl,_,h=>by simp[A9]at h
 | .un,_,h=>by simp[A9]at h
 | .sl _,_,h=>by simp[A9]at h
 | .own ..,_,h=>by simp[A9]at h
 | .ptr ..,_,h=>by simp[A9]at h
 | .A4 ..,_,h=>by simp[A9]at h
 | .fn ..,_,h=>by simp[A9]at h
 | .agg _,_,h=>by simp[A9]at h
 | .BB _,_,h=>by simp[A9]at h
 | .mp _,_,h=>by simp[A9]at h
 | .mv _,_,h=>by simp[A9]at h
theorem GD {S S':Nat->Prop}{w w':World}(hS :∀b,S b->S' b)(hw :∀b,S b->w'.heap[b]?=w.heap[b]?):∀(xs:List (List AV)) (cur:Array Value) (o:Nat),EA S w xs cur o->EA S' w' xs cur o
 | [],_,_,_=>by simp[EA]
 | x::r,cur,o,h=>by
  simp only[EA]at h⊢;obtain⟨S1,S2,h1,h2,h3,h4,h5⟩:=h;exact⟨S1,S2,λb hb=>hS b (h1 b hb),λb hb=>hS b (h2 b hb),h3,Ig (λ_ h=>h) (λb hb=>hw b (h1 b hb)) x cur o h4,GD (λ_ h=>h) (λb hb=>hw b (h2 b hb)) r cur _ h5⟩
theorem Ig {S S':Nat->Prop}{w w':World}(hS :∀b,S b->S' b)(hw :∀b,S b->w'.heap[b]?=w.heap[b]?):∀(xs:List AV) (cur:Array Value) (o:Nat),EB S w xs cur o->EB S' w' xs cur o
 | [],_,_,_=>by simp[EB]
 | x::r,cur,o,h=>by
  simp only[EB]at h⊢;obtain⟨S1,S2,h1,h2,h3,⟨u,h4,h5⟩,h6⟩:=h;exact⟨S1,S2,λb hb=>hS b (h1 b hb),λb hb=>hS b (h2 b hb),h3,⟨u,h4,Et (λ_ h=>h) (λb hb=>hw b (h1 b hb)) x u h5⟩,Ig (λ_ h=>h) (λb hb=>hw b (h2 b hb)) r cur _ h6⟩
end
theorem FV {xs:List (List AV)}(f:AV->AV)(hf :∀b D,f (.dv b 0 D)=.dv b 0 D)(h:xs=[]∨∃b D,xs=[[.dv b 0 D]]):xs.map (·.map f)=[]∨∃b D,xs.map (·.map f)=[[.dv b 0 D]]:=by
 rcases h with rfl|⟨b,D,rfl⟩
 ·exact .inl rfl
 ·exact .inr ⟨b,D,by simp[hf]⟩
theorem D2.nil {F:Nat->Prop}{w:World}{os:List Own}{o:Own}(h:D2 F w os o)(hb:o.BW=.none)(hn:o.row.xs=[]):o.row.xs=[]/\o.cap=0:=⟨hn,(h.none hb).2⟩
theorem D2.LZ {F:Nat->Prop}{w:World}{os:List Own}{o:Own}(h:D2 F w os o)(hb:o.BW=.none){i j:Nat}{x:List AV}{c:AV}(hx:o.row.xs[i]?=.some x)(hc:x[j]?=.some c):∃b D,c=.dv b 0 D:=by
 rcases (h.none hb).1 with h0|⟨b,D,h0⟩
 ·rw[h0]at hx;simp at hx
 ·rw[h0]at hx;have hm:=Ro hx;simp only[SC]at hm;subst hm;have hm:=Ro hc;simp only[SC]at hm;exact⟨b,D,hm⟩
theorem B3 {w:World}{o:Own}(h :∀x∈o.row.xs,∀c∈x,c.leaf=true):D0 w o:=
 ⟨λx b s D _ hx hc=>by
  have:=h x (Ro hx) _ (Ro hc);simp[AV.leaf]at this,λ_ _ _=>False,λ_ _ _ h=>h.elim,λ_ _ _ _ _ h=>h.elim,λ_ _ _ _ _ _ i x j e s ys hx hc=>by
  have:=h x (Ro hx) _ (Ro hc);simp[AV.leaf]at this⟩
theorem D0.keep {w w':World}{o o':Own}(h:D0 w o)(hb:o'.BW=o.BW)(hm :∀b,o.more b->o'.more b)(hs:o'.row.size=o.row.size)
  (hw :∀b,o.owns b->w'.heap[b]?=w.heap[b]?)
  (hr :∀(i:Nat) x (j:Nat) e s ys,o'.row.xs[i]?=some x->x[j]?=some (.dv e s ys)->∃x0,o.row.xs[i]?=some x0/\x0[j]?=some (.dv e s ys)):D0 w' o':=by
 obtain⟨h0,D,h1,h2,h3⟩:=h;refine⟨λx b s D hn hx hc=>?_,D,λi j b hb=>hm b (h1 i j b hb),h2,λb W3 cur el l UK i x j e s ys hx hc=>?_⟩
 ·rw[hb]at hn;obtain⟨x0,Xu,VA⟩:=hr 0 x 0 b s D hx hc;obtain⟨m1,m2⟩:=h0 x0 b s D hn Xu VA;exact⟨hm b m1,m2.keep (hw b (.inr m1))⟩
 rw[hb]at W3;rw[hw b (.inl W3)]at UK;obtain⟨x0,Xu,VA⟩:=hr i x j e s ys hx hc;obtain⟨u,e1,e2⟩:=h3 b W3 cur el l UK i x0 j e s ys Xu VA;exact⟨u,by rw[hs];exact e1,Et (λ_ h=>h) (λc hc=>hw c (.inr (h1 i j c hc))) _ u e2⟩
theorem D0.mapped {w:World}{o o':Own}(f:AV->AV)(hf :∀c e s ys,f c=.dv e s ys->c=.dv e s ys)(h:D0 w o)(hb:o'.BW=o.BW)(hm:o'.more=o.more)(hs:o'.row.size=o.row.size)
  (hx:o'.row.xs=o.row.xs.map (·.map f)):D0 w o':=by
 refine h.keep hb (λb hb=>by rw[hm];exact hb) hs (λ_ _=>rfl) λi x j e s ys Wv hc=>?_;rw[hx,Rs,Rv]at Wv;obtain⟨y,hy,rfl⟩:=Wv;rw[Rs,Rv]at hc;obtain⟨d,hd,hc⟩:=hc;exact⟨y,hy,by rw[hd,hf _ _ _ _ hc]⟩
theorem D2.lt {F:Nat->Prop}{w:World}{os:List Own}{o:Own}(h:D2 F w os o){b:Nat}(hb:o.owns b):b<w.heap.size:=by
 rcases hb with hb|hb
 ·obtain⟨_,cur,UK,_⟩:=h.some b hb;exact (Sd.1 UK).1
 ·exact (h.mo b hb).2.1
theorem D2.nF {F:Nat->Prop}{w:World}{os:List Own}{o:Own}(h:D2 F w os o){b:Nat}(hb:o.owns b):¬ F b:=by
 rcases hb with hb|hb
 ·exact (h.some b hb).1
 ·exact (h.mo b hb).1
end Go.Abs
