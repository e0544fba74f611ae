import Derived.Test.YtpahalfiiahddaaGEncToEncB
import Derived.Test.YtpahalfiiahddaaAbsW
import Derived.Lib.AppendZerosOnto
import Derived.OrdersHeld
import Derived.Lib.SlicesCompact

namespace RC
open Go Go.Abs
structure GN where
 fields:List Int
structure Ac where
 from_:Int
 to:Int
 cons:List GN
structure UT where
 op:Int
 dst:Int
 num:Int
 XN:Int
 args:List Int
 jumps:List Int
structure Vj where
 params:List Int
 EN:List Int
 result:Int
 ZW:Int
 code:List UT
structure Wd where
 decls:List Ac
 procs:List Vj
structure BY where
 params:List Int
 EN:List Int
 result:Int
structure BI where
 decls:List Ac
 funcs:List BY
inductive AP where
 | mk (op num:Int) (kids:List AP)
def AP.op:AP→Int | .mk o _ _=>o
def AP.num:AP→Int | .mk _ n _=>n
def AP.kids:AP→List AP | .mk _ _ k=>k
structure Ar where
 params:List Int
 result:Int
 body:AP
structure Ai where
 decls:List Ac
 funcs:List Ar
def BK (c:GN):List AV:=[.sl (c.fields.map eI)]
def AI (d:Ac):List AV:=[.int .i64 d.from_,.int .i64 d.to,.sl (d.cons.map BK)]
def BZ (p:BY):List AV:=[.sl (p.params.map eI),.sl (p.EN.map eI),.int .i64 p.result]
def AM (x:BI):List AV:=[.sl (x.decls.map AI),.sl (x.funcs.map BZ)]
noncomputable def AA (s:AP):List AV:=
 AP.rec (motive_1:=fun _=>List AV) (motive_2:=fun _=>List (List AV)) (fun o n _ ks=>[.int .i64 o,.int .i64 n,.sl ks]) [] (fun _ _ b bs=>b :: bs) s
theorem SC (ks:List AP) :
  AP.rec_1 (motive_1:=fun _=>List AV) (motive_2:=fun _=>List (List AV)) (fun o n _ ks=>[.int .i64 o,.int .i64 n,.sl ks]) [] (fun _ _ b bs=>b :: bs) ks=ks.map AA:=by
 induction ks with
 | nil=>rfl
 | cons b ks ih=>exact congrArg (AA b :: ·) ih
theorem Ao (s:AP):AA s=[.int .i64 s.op,.int .i64 s.num,.sl (s.kids.map AA)]:=by
 obtain⟨o,n,k⟩:=s
 exact congrArg (fun x=>[AV.int .i64 o,.int .i64 n,.sl x]) (SC k)
theorem Ag (s:AP):(AA s).all simple=true:=by rw[Ao];rfl
theorem B4 (s:AP):(AA s).length=3:=by rw[Ao];rfl
noncomputable def AH (f:Ar):List AV:=[.sl (f.params.map eI),.int .i64 f.result,.int .i64 f.body.op,.int .i64 f.body.num,.sl (f.body.kids.map AA)]
noncomputable def Xb (x:Ai):List AV:=[.sl (x.decls.map AI),.sl (x.funcs.map AH)]
structure Wn (c:GN):Prop where
 fields:Hi Ij c.fields
structure I3 (d:Ac):Prop where
 from_:Ij d.from_
 to:Ij d.to
 cons:Hi Wn d.cons
end RC



namespace Go.Abs
open Go
variable {P : Program} {F : Nat → Prop} {os : List Own} {s : St} {a : Act} {w : World} {k : Nat}
end Go.Abs



namespace Go.Abs
open Go
variable {P : Program} {F : Nat → Prop} {os : List Own} {s : St} {a : Act} {w : World} {k : Nat}
variable {α β : Type} {l : List α} {enc : α → List AV}
section
variable {ops : Array Oper} {Q : Exit → St → Prop} {ds : List (Option Tmp)} {r : List Oper} {n : Nat} {e : Nat → AV} {st st' : List Row} {ty : TypeId} {ps : String} {ed : Array Edge} {t : Tmp} {v : AV} {gd : Option (Nat × Bool)} {T : TypeId} {x y : Operand} {ag : Bool} {sz id g size : Nat} {el : TypeId} {cs : List AV} {c : α} {i : Int}
end
end Go.Abs



namespace Go.Abs
open Go
variable {P : Program} {F : Nat → Prop} {os : List Own} {s : St} {a : Act} {w : World} {k : Nat}
section
variable {α : Type} {l : List α} {enc : α → List AV}
variable {ops : Array Oper} {Q : Exit → St → Prop} {ds : List (Option Tmp)} {r : List Oper} {n : Nat} {e : Nat → AV} {st st' : List Row} {ty : TypeId} {ps : String} {ed : Array Edge} {t : Tmp} {T : TypeId} {x y : Operand} {m bytes size : Nat} {el : TypeId} {zz : List AV} {u : α} {j : Int} {kk kk' : IntKind}
end
end Go.Abs



namespace Go.Abs
open Go
variable {P : Program} {F : Nat → Prop} {os : List Own} {s : St} {a : Act} {w : World} {k : Nat}
variable {α β : Type} {l : List α} {enc : α → List AV}
end Go.Abs
namespace Go.Abs
open Go
section
variable {P : Program} {k : Nat} {α : Type} {l l' : List α} {enc : α → List AV} {c : α}
variable {ops : Array Oper} {Q : Exit → St → Prop} {ds : List (Option Tmp)} {r : List Oper} {n : Nat} {e : Nat → AV} {st st' : List Row} {ty : TypeId} {ps : String} {ed : Array Edge} {t : Tmp} {gd : Option (Nat × Bool)} {T : TypeId} {x y : Operand} {bytes size id g m q gq size' : Nat} {el el' : TypeId} {zz cs : List AV}
end
end Go.Abs



namespace Go.Abs
open Go
variable {P : Program} {F : Nat → Prop} {os : List Own} {s : St} {a : Act} {w : World} {k : Nat}
variable {α : Type} {l : List α} {enc enc' : α → List AV} {n id g m size : Nat} {e : Nat → AV} {st st' : List Row} {L : List (Nat × AV)} {el : TypeId} {xs : List (List AV)}
end Go.Abs



namespace Go.Abs
open Go
variable {P : Program} {F : Nat → Prop} {os : List Own} {s : St} {a : Act} {w : World} {k : Nat}
def Xs (x:AV):AV:=bif flat x then x else .Dm
theorem V5 {F':Nat→Prop} {w':World} (hF :∀b,F b→F' b) (hw :∀b,F b→w'.heap[b]?=w.heap[b]?) (os':List Own) {x:AV} {v:Value} (h:Am F w os x v):Am F' w' os' (Xs x) v:=by
  unfold Xs
  cases hf:flat x with
  | false=>simp[Am]
  | true=>exact Gt hf os' (DM hF hw [] [] (by simp) x v (Gt hf [] h))
def Ww (x:AV):AV:=bif flat x then x else match x with
  | .ptr (id+1) g i off=>.ptr (id+1) g i off
  | _=>.Dm
theorem WH {F':Nat→Prop} {w':World} (hF :∀b,F b→F' b) (hw :∀b,F b→w'.heap[b]?=w.heap[b]?) {o o':Own} {ros:List Own} {x:AV} {v:Value} (h:Am F w (o :: ros) x v):Am F' w' (o' :: ros) (Ww x) v:=by
  unfold Ww
  cases hf:flat x with
  | true=>exact Gt hf _ (DM hF hw [] [] (by simp) x v (Gt hf [] h))
  | false=>
    cases x <;> simp only[cond_false] <;> try simp[Am]
    rename_i id g i off
    cases id with
    | zero=>simp[Am]
    | succ id=>
      simp only[Am,List.getElem?_cons_succ] at h ⊢
      exact h
theorem Nm {P:Program} {ops:Array Oper} {md:Region.Mode} {Q Q':Exit→Act→World→Prop} (hp :∀c a w,Q (.panic c) a w→Q' (.panic c) a w) (hlo:LetsOut Q→LetsOut Q') (hn :∀a w,Q .normal a w→Q' .normal a w) :
    ∀(fuel:Nat) {listed:Array Bool} {a:Act} {w:World},wpAny P md ops Q fuel listed a w→wpAny P md ops Q' fuel listed a w
  | 0,_,_,_,h=>⟨h.1,hn _ _ h.2⟩
  | fuel+1,listed,a,w,h=>by
    refine⟨fun h0=>hn _ _ (h.1 h0),fun i hi=>?_⟩
    have:=h.2 i hi
    unfold wpOp at this ⊢
    split
    · rename_i ho;simp only[ho] at this;exact Nm hp hlo hn fuel this
    · rename_i o ho
      simp only[ho] at this
      split
      · rename_i hw
        rw[if_pos hw] at this
        exact this.imp (fun h=>Nh hp hlo (Oper.wp_mono (fun a w h=>Nm hp hlo hn fuel h) h)) fun h=>⟨h.1,hlo h.2⟩
      · rename_i hw
        rw[if_neg hw] at this
        exact Nm hp hlo hn fuel this
def Ug (row row':Row) (Q:Exit→St→Prop):Exit→St→Prop:=fun ex s'=>(∃r,s'.st=row' :: r)∧Q ex ⟨s'.n,fun t=>Xs (s'.env t),[row]⟩
theorem Ma {xs:List (List AV)} (hp:C5 xs) {o:Own} (hok:KW F w os o) (hx:o.row.xs=xs) :∀x∈xs,∀c∈x,c.leaf=true:=fun x hm c hc=>by
  have h1:=hp x hm c hc
  have h2:=(hok.lens x (by rw[hx];exact hm)).2 c hc
  cases c <;> simp_all [simple,AV.leaf,AV.kept]
theorem VB {Q:Exit→St→Prop} {o:Own} {ros:List Own} {g:Nat} {el:TypeId} {size b0:Nat} {xs ys:List (List AV)} (hp:C5 (xs ++ ys)) (hrow:o.row=⟨g,el,size,xs⟩) (hb0:o.Em=some b0) (hnF:¬ F b0) {w1:World} (ht:HO w w1 (some b0))
    {e:Exit} {a':Act} {w':World} (h:Hu 1 (Ug ⟨g,el,size,xs⟩ ⟨g,el,size,xs ++ ys⟩ Q) F (⟨⟨g,el,size,xs ++ ys⟩,some b0,o.cap,o.more⟩ :: ros) w1 e a' w') (hold :∀b,F b→b < w.heap.size):Hu 1 Q F (o :: ros) w e a' w':=by
  obtain⟨s',F',os',⟨⟨rst',hst⟩,hQ⟩,hR,hE⟩:=h
  have hos :∃o' ros',os'=o' :: ros'∧o'.row=⟨g,el,size,xs ++ ys⟩:=by
    have:=hR.st
    rw[hst] at this
    cases os' with
    | nil=>cases this
    | cons o' ros'=>
      simp only[List.map_cons,List.cons.injEq] at this
      exact⟨o',ros',rfl,this.1⟩
  obtain⟨o',ros',rfl,hrow'⟩:=hos
  obtain⟨o2,e2,_,_,e3⟩:=hE.TC 0 _ (by omega) rfl
  simp only[List.getElem?_cons_zero,Option.some.injEq] at e2
  subst e2
  obtain⟨e4,e5,_⟩:=e3 (by rw[hrow'])
  dsimp only at e4 e5
  have hok':=hR.rows 0 o' rfl
  have hlf:=Ma hp hok' (by rw[hrow'])
  have hF :∀b,F b→w1.heap[b]?=w.heap[b]?:=fun b hb=>ht.Ev b (hold b hb) (fun e=>hnF (by cases e;exact hb))
  refine⟨_,F',[{ o' with row:=⟨g,el,size,xs⟩ }],hQ,⟨rfl,fun t=>V5 (fun _ h=>h) (fun _ _=>rfl) _ (hR.env t),hR.size,fun i oi hi=>?_,fun i j oi oj b hi hj hbi hbj=>?_,hR.Ev,hR.defers⟩,?_⟩
  · match i,hi with
    | 0,hi=>
      simp only[List.getElem?_cons_zero,Option.some.injEq] at hi
      subst hi
      refine⟨by have:=hok'.pos;rw[hrow'] at this;exact this,fun x hx=>?_,fun hn=>(by rw[e4] at hn;cases hn),fun b hb=>?_,fun b hb=>hok'.mo b hb,Ey fun x hx c hc=>hlf x (List.mem_append_left _ hx) c hc⟩
      · have:=hok'.lens x (by rw[hrow'];exact List.mem_append_left _ hx);rw[hrow'] at this;exact this
      · obtain⟨h1,cur,h2,h3,h4,h5,h6⟩:=hok'.some b hb
        rw[hrow'] at h2 h3 h4 h6
        refine⟨h1,cur,h2,h3,by simp only[List.length_append] at h4 ⊢;omega,h5,fun i x hx j c hc=>?_⟩
        obtain⟨u,f1,f2⟩:=h6 i x (by simp only at hx ⊢;rw[List.getElem?_append_left (List.getElem?_eq_some_iff.1 hx).1];exact hx) j c hc
        exact⟨u,f1,D1 (hp x (List.mem_append_left _ (List.mem_of_getElem? hx)) c (List.mem_of_getElem? hc)) _ f2⟩
  · match i,j,hi,hj with
    | 0,0,_,_=>rfl
  · refine⟨hE.sys.trans ht.sys,hE.tape.trans ht.tape,hE.output.trans ht.output,Nat.le_trans ht.size hE.size,hE.Kg,fun b hb=>(hE.Hp b hb).trans (hF b hb),fun b hb h1 h2=>?_,fun i oi hi hoi=>?_⟩
    · have hne:b≠b0:=fun e=>h2 o (by simp) (.inl (by rw[e];exact hb0))
      have hnm:¬ o.more b:=fun hm=>h2 o (by simp) (.inr hm)
      obtain⟨f1,f2,f3⟩:=hE.other b (Nat.lt_of_lt_of_le hb ht.size) h1 (fun q hq hob=>by
        rcases List.mem_cons.1 hq with rfl | hq
        · rcases hob with hob | hob
          · simp only[Option.some.injEq] at hob;exact hne hob.symm
          · exact hnm hob
        · exact h2 q (by simp[hq]) hob)
      refine⟨f1.trans (ht.Ev b hb (fun e=>hne (by cases e;rfl))),f2,fun q hq hob=>?_⟩
      simp only[List.mem_singleton] at hq
      subst hq
      exact f3 o' (by simp) hob
    · match i,hoi with
      | 0,hoi=>
        simp only[List.getElem?_cons_zero,Option.some.injEq] at hoi
        subst hoi
        exact⟨_,rfl,by rw[hrow];exact Nat.le_refl _,by rw[hrow],fun _=>⟨by rw[hb0];exact e4,e5,by rw[hrow]⟩⟩
      | _+1,_=>omega
theorem Rg {t ty:TypeId} {ei:TV} {g:Nat} {xs:List (List AV)} {ys:List (List AV)} {y:AV} {ux ud:Value} (hr:Rel F os s a w) {rst:List Row} (hst:s.st=⟨g,ei.e,ei.size,xs⟩ :: rst) (hrst :∀row∈rst,C5 row.xs) (he:DS P t=some ei)
    (hd:Am F w os (.own 0 g xs.length) ud) (hx:Am F w os y ux) (hel:EL s.st y ys) (hys :∀z∈ys,z.length=ei.size) (hp:C5 (xs ++ ys)) (hne:ys≠[]) (hb:(xs.length+ys.length) * ei.bytes≤140737488355328) (hm:xs.length+ys.length≤9223372036854775807) :
    ∃o ros u w',os=o :: ros∧o.row=⟨g,ei.e,ei.size,xs⟩∧(Builtin.append_ #[t,t] ty #[ud,ux]).run P w=.ok u w'∧
      ((∃b0,o.Em=some b0∧¬ F b0∧HO w w' (some b0)∧Rel F (⟨⟨g,ei.e,ei.size,xs ++ ys⟩,some b0,o.cap,o.more⟩ :: ros) ⟨s.n,fun t=>Ww (s.env t),⟨g,ei.e,ei.size,xs ++ ys⟩ :: rst⟩ a w'∧
          u=.slice (some ⟨b0,0,none⟩) (xs.length+ys.length) o.cap)∨
       (∃cap,Rel F (os ++ [⟨⟨0,ei.e,ei.size,xs ++ ys⟩,some w.heap.size,cap,FP⟩]) { s with st:=s.st ++ [⟨0,ei.e,ei.size,xs ++ ys⟩] } a w'∧Ext F os w F (os ++ [⟨⟨0,ei.e,ei.size,xs ++ ys⟩,some w.heap.size,cap,FP⟩]) w' k∧
          u=.slice (some ⟨w.heap.size,0,none⟩) (xs.length+ys.length) cap)):=by
  obtain⟨inf,z,hu,hi,hz,hzs,hpos,hsz,hby,_,_⟩:=Fj he
  obtain⟨ys',h,hys',hylf,⟨ad,c,rfl,hsrc⟩⟩:=QN (size:=ei.size) (K:=fun z=>z=ys) hr (hel _ ⟨hys,rfl⟩) hx
  subst h
  have hos :∃o ros,os=o :: ros∧o.row=⟨g,ei.e,ei.size,xs⟩∧ros.map Own.row=rst:=by
    have:=hr.st
    rw[hst] at this
    cases os with
    | nil=>cases this
    | cons o ros=>
      simp only[List.map_cons,List.cons.injEq] at this
      exact⟨o,ros,rfl,this.1,this.2⟩
  obtain⟨o,ros,rfl,hrow,hros⟩:=hos
  have hylf :∀y∈ys',∀c∈y,c.leaf=true:=by
    rcases hylf with e | h
    · exact absurd e hne
    · exact h
  have hylen:0 < ys'.length:=List.length_pos_iff.2 hne
  have hnews :∃b off,ad=some ⟨b,off,none⟩∧∃us:List Value,us.length=ys'.length * inf.size∧(∀(j:Nat) u,us[j]?=some u→w.cell? ((⟨b,off,none⟩:Addr).add j)=some u)∧(∀u∈us,u.oneCell'=true)∧Ej F w (o :: ros) ei.size us ys':=by
    rcases hsrc with e | ⟨b,off,rfl,hc⟩
    · exact absurd e hne
    · obtain⟨us,h1,h2,h3,h4⟩:=Lt hys' hc
      exact⟨b,off,rfl,us,by rw[h1,hsz],h2,h3,h1,fun i y hy j c hc=>by obtain⟨u,e1,_,e2⟩:=h4 i y hy j c hc;exact⟨u,e1,e2⟩⟩
  obtain⟨b,off,rfl,us,hul,hcell,hone,hrep⟩:=hnews
  have hok:=hr.rows 0 o rfl
  have hxlf:=Ma (xs:=xs) (fun x hx=>hp x (List.mem_append_left _ hx)) hok (by rw[hrow])
  have hlens :∀x∈xs ++ ys',x.length=ei.size∧∀c∈x,c.leaf=true:=fun x hx=>by
    rcases List.mem_append.1 hx with h | h
    · have:=(hok.lens x (by rw[hrow];exact h)).1;rw[hrow] at this;exact⟨this,hxlf x h⟩
    · exact⟨hys' x h,hylf x h⟩
  have hgrow :∀(cap:Nat) (olds:List Value),Ej F w (o :: ros) ei.size olds xs→xs.length+ys'.length≤cap→cap≤maxLen→
      Rel F ((o :: ros) ++ [⟨⟨0,ei.e,ei.size,xs ++ ys'⟩,some w.heap.size,cap,FP⟩]) { s with st:=s.st ++ [⟨0,ei.e,ei.size,xs ++ ys'⟩] } a (w.drew.alloc (.cells (olds.toArray ++ us.toArray ++ Builtin.zeroCells z.cells (cap - (xs.length+ys'.length))) ei.e))∧
      Ext F (o :: ros) w F ((o :: ros) ++ [⟨⟨0,ei.e,ei.size,xs ++ ys'⟩,some w.heap.size,cap,FP⟩]) (w.drew.alloc (.cells (olds.toArray ++ us.toArray ++ Builtin.zeroCells z.cells (cap - (xs.length+ys'.length))) ei.e)) k:=fun cap olds hold hcap hmax=>by
    obtain⟨e1,e2⟩:=KM (F:=F) (w:=w) (os:=o :: ros) (z:=z) (size:=ei.size) (n:=xs.length) (m:=ys'.length) (cap:=cap) (by rw[hzs,hsz]) rfl rfl hold hrep hcap
    have:=hr.KX (k:=k) (.inr rfl) (cur:=_) (e:=ei.e) (size:=ei.size) (cap:=cap) (xs:=xs ++ ys') (by omega) hlens e1 (by simpa using hcap) hmax (fun i x hx j c hc=>e2 i x hx j c hc)
    exact⟨this.1,this.2.1⟩
  have hge:=grownCap_ge w (xs.length+ys'.length)
  have hlem:=grownCap_le_maxLen w (xs.length+ys'.length)
  simp only[Am] at hd
  obtain⟨o',ho',_,_,hd⟩:=hd
  simp only[List.getElem?_cons_zero,Option.some.injEq] at ho'
  subst ho'
  obtain⟨_,hd⟩:=hd (by rw[hrow])
  rw[hrow] at hd
  simp only[Nat.sub_self,Nat.zero_mul,Nat.sub_zero] at hd
  rcases hd with ⟨hbn,a0,rfl⟩ | ⟨b0,hbs,rfl⟩
  · have hn0:=(hok.none hbn).1
    rw[hrow] at hn0
    dsimp only at hn0
    subst hn0
    have hrun:(Builtin.append_ #[t,t] ty #[.slice a0 0 0,.slice (some ⟨b,off,none⟩) ys'.length c]).run P w=.ok (.slice (some ⟨w.heap.size,0,none⟩) (0+ys'.length) (grownCap w (0+ys'.length) 0 ei.e))
        (w.drew.alloc (.cells (([]:List Value).toArray ++ us.toArray ++ Builtin.zeroCells z.cells (grownCap w (0+ys'.length) 0 ei.e - (0+ys'.length))) ei.e)):=by
      cases a0 with
      | none=>
        have:=run_append_nil (P:=P) w t ty ei.e inf z hu hi hz ⟨b,off,none⟩ ys'.length c us hul hcell (by omega) (by simp at hm;omega) (by rw[← hby];simp at hb;omega)
        simpa using this
      | some a0=>
        have:=run_append_grow (P:=P) w t ty ei.e inf z hu hi hz a0 0 0 [] (by simp) (by simp) ⟨b,off,none⟩ ys'.length c us hul hcell (by omega) (by omega) (growslice_fits (by simp at hm;omega) (by rw[← hby];simpa using hb))
        simpa using this
    have hgg:=hgrow (grownCap w (0+ys'.length) 0 ei.e) [] (by simp[Ej]) (by simpa using hge 0 ei.e) (by simpa using hlem 0 ei.e (by simp[maxLen] at hm ⊢;omega))
    exact⟨o,ros,_,_,rfl,hrow,hrun,.inr ⟨_,hgg.1,hgg.2,rfl⟩⟩
  · obtain⟨hnF,cur,hcur,hcs,hlc,hmaxc,hcells⟩:=hok.some b0 hbs
    rw[hrow] at hcur hcs hlc hcells
    dsimp only at hcur hcs hlc hcells
    by_cases hroom:xs.length+ys'.length≤o.cap
    · have hfit:xs.length * inf.size+us.length≤cur.size:=by rw[hul,hcs,hsz,← Nat.add_mul];exact Nat.mul_le_mul_right _ hroom
      have hrun:=run_append_room (P:=P) w t ty ei.e inf hu hi b0 xs.length o.cap cur hcur ⟨b,off,none⟩ ys'.length c us hul hcell hone hroom hfit
      have hT:=HO.setRow w b0 (cur.toList.take (xs.length * inf.size) ++ us ++ cur.toList.drop (xs.length * inf.size+us.length)).toArray
      have hF :∀g,F g→(w.setRow b0 (cur.toList.take (xs.length * inf.size) ++ us ++ cur.toList.drop (xs.length * inf.size+us.length)).toArray).heap[g]?=w.heap[g]?:=fun g hg=>hT.Ev g (hr.Ev g hg) (fun e=>hnF (by cases e;exact hg))
      refine⟨o,ros,_,_,rfl,hrow,hrun,.inl ⟨b0,hbs,hnF,hT,⟨by simp only[List.map_cons,hros],fun t=>WH (fun _ h=>h) hF (hr.env t),hr.size,fun i oi hi=>?_,fun i j oi oj b hi hj hbi hbj=>?_,fun g hg=>Nat.lt_of_lt_of_le (hr.Ev g hg) hT.size,hr.defers⟩,rfl⟩⟩
      · match i,hi with
        | 0,hi=>
          simp only[List.getElem?_cons_zero,Option.some.injEq] at hi
          subst hi
          have hcm :∀c u,simple c=true→Am F w (o :: ros) c u→∀os',Am F (w.setRow b0 (cur.toList.take (xs.length * inf.size) ++ us ++ cur.toList.drop (xs.length * inf.size+us.length)).toArray) os' c u:=fun c u hc h os'=>
            D1 hc os' (DM (fun _ h=>h) hF [] [] (by simp) c u (D1 hc [] h))
          refine⟨by have:=hok.pos;rw[hrow] at this;exact this,fun x hx=>⟨(hlens x hx).1,fun c hc=>Cf ((hlens x hx).2 c hc)⟩,fun hn=>(by cases hn),fun b' hb'=>?_,fun g hg=>⟨(hok.mo g hg).1,by simpa using (hok.mo g hg).2.1,by rw[← hbs];exact (hok.mo g hg).2.2⟩,Ey fun x hx c hc=>(hlens x hx).2 c hc⟩
          simp only[Option.some.injEq] at hb'
          subst hb'
          refine⟨hnF,_,setRow_heap w b0 cur _ _ _ hcur,?_,by simpa using hroom,hmaxc,fun i y hy j c hc=>?_⟩
          · simp only[List.size_toArray,List.length_append,List.length_take,List.length_drop,Array.length_toList] at hfit ⊢
            rw[← hcs];omega
          · simp only at hy ⊢
            rw[HU hfit]
            by_cases hin:i < xs.length
            · rw[List.getElem?_append_left hin] at hy
              obtain⟨u,f1,f2⟩:=hcells i y hy j c hc
              have hjl:j < ei.size:=by rw[← (hlens y (List.mem_append_left _ (List.mem_of_getElem? hy))).1];exact (List.getElem?_eq_some_iff.1 hc).1
              have:(i+1) * ei.size≤xs.length * ei.size:=Nat.mul_le_mul_right _ hin
              rw[Nat.add_mul] at this
              refine⟨u,?_,hcm c u (hp y (List.mem_append_left _ (List.mem_of_getElem? hy)) c (List.mem_of_getElem? hc)) f2 _⟩
              rw[if_pos (by rw[← hsz];omega)];exact f1
            · rw[List.getElem?_append_right (by omega)] at hy
              obtain⟨u,f1,f2⟩:=hrep.2 _ y hy j c hc
              refine⟨u,?_,hcm c u (hp y (List.mem_append_right _ (List.mem_of_getElem? hy)) c (List.mem_of_getElem? hc)) f2 _⟩
              have hlt:=(List.getElem?_eq_some_iff.1 f1).1
              have h3:xs.length * ei.size≤i * ei.size:=Nat.mul_le_mul_right _ (by omega)
              rw[Nat.sub_mul] at f1 hlt
              rw[if_neg (by rw[← hsz];omega),if_pos (by rw[← hsz];omega),← f1]
              congr 1
              rw[← hsz];omega
        | i+1,hi=>
          simp only[List.getElem?_cons_succ] at hi
          have hoi:=hr.rows (i+1) oi (by simpa using hi)
          have hpi:C5 oi.row.xs:=hrst oi.row (by rw[← hros];exact List.mem_map_of_mem (List.mem_of_getElem? hi))
          have hlfi:=Ma hpi hoi rfl
          have hni :∀b,oi.owns b→b≠b0:=fun b hb e=>by
            have:=hr.inj (i+1) 0 oi o b (by simpa using hi) rfl hb (.inl (by rw[e];exact hbs))
            omega
          refine⟨hoi.pos,hoi.lens,hoi.none,fun b hb=>?_,fun b hb=>⟨(hoi.mo b hb).1,Nat.lt_of_lt_of_le (hoi.mo b hb).2.1 hT.size,(hoi.mo b hb).2.2⟩,Ey hlfi⟩
          obtain⟨f1,cur',f2,f3,f4,f5,f6⟩:=hoi.some b hb
          refine⟨f1,cur',?_,f3,f4,f5,fun i' x hx j c hc=>?_⟩
          · rw[hT.Ev b (hoi.lt (.inl hb)) (fun e=>hni b (.inl hb) (by cases e;rfl))];exact f2
          · obtain⟨u,g1,g2⟩:=f6 i' x hx j c hc
            have hc':=hpi x (List.mem_of_getElem? hx) c (List.mem_of_getElem? hc)
            exact⟨u,g1,D1 hc' _ (DM (fun _ h=>h) hF [] [] (by simp) c u (D1 hc' [] g2))⟩
      · have key :∀(i:Nat) oi b,((⟨⟨g,ei.e,ei.size,xs ++ ys'⟩,some b0,o.cap,o.more⟩:Own) :: ros)[i]?=some oi→oi.owns b→∃oi',(o :: ros)[i]?=some oi'∧oi'.owns b:=fun i oi b hi hb=>by
          cases i with
          | zero=>
            simp only[List.getElem?_cons_zero,Option.some.injEq] at hi
            subst hi
            exact⟨o,rfl,hb.imp (fun hb=>by rw[hbs];exact hb) id⟩
          | succ i=>exact⟨oi,hi,hb⟩
        obtain⟨oi',q1,q2⟩:=key i oi b hi hbi
        obtain⟨oj',q3,q4⟩:=key j oj b hj hbj
        exact hr.inj i j oi' oj' b q1 q3 q2 q4
    · have hold :∀(i:Nat) y,xs[i]?=some y→JA F w (o :: ros) b0 (0+i * ei.size) y:=fun i y hy=>by
        have:=hr.Lm (id:=0) (o:=o) rfl hbs (i:=i) (x:=y) (by rw[hrow];exact hy)
        rw[hrow] at this;simpa using this
      obtain⟨olds,h1,h2,_,h4⟩:=Lt (fun x hx=>(hlens x (List.mem_append_left _ hx)).1) hold
      have hrun:=run_append_grow (P:=P) w t ty ei.e inf z hu hi hz ⟨b0,0,none⟩ xs.length o.cap olds (by rw[h1,hsz]) h2 ⟨b,off,none⟩ ys'.length c us hul hcell (by omega) (by omega) (growslice_fits (by omega) (by rw[← hby];exact hb))
      have hgg:=hgrow (grownCap w (xs.length+ys'.length) o.cap ei.e) olds ⟨h1,fun i y hy j c hc=>by obtain⟨u,f1,_,f2⟩:=h4 i y hy j c hc;exact⟨u,f1,f2⟩⟩ (hge o.cap ei.e) (hlem o.cap ei.e (by simp[maxLen];omega))
      exact⟨o,ros,_,_,rfl,hrow,hrun,.inr ⟨_,hgg.1,hgg.2,rfl⟩⟩
section
variable {P : Program} {ops : Array Oper} {Q : Exit → St → Prop} {n N f i : Nat} {listed listed' : Array Bool} {e : Nat → AV} {ty : TypeId} {p : String} {ed : Array Edge} {t : Tmp} {α : Type} {l l2 l' : List α} {enc : α → List AV} {x y : Operand} {g m size bytes : Nat} {el : TypeId} {zz : List AV} {T : TypeId} {rst : List Row} {k : Nat}
theorem AL (h:listed=listed') {s:St} (ha:AX P k ops Q N f listed s):AX P k ops Q N f listed' s:=h ▸ ha
theorem AX.two (row row':Row) {s:St} (h :∀A A':Nat→Array Bool→St→Prop,(∀f l s,A f l s↔AX P k ops Q N f l s)→(∀f l s,A' f l s↔AX P k ops (Ug row row' Q) N f l s)→A f listed s):AX P k ops Q N f listed s:=
  h (AX P k ops Q N) (AX P k ops (Ug row row' Q) N) (fun _ _ _=>Iff.rfl) (fun _ _ _=>Iff.rfl)
theorem Lp {s:St} (h :∀A:Nat→Array Bool→St→Prop,(∀f l s,A f l s↔AX P k ops Q N f l s)→A f listed s):AX P k ops Q N f listed s:=
  h (AX P k ops Q N) (fun _ _ _=>Iff.rfl)
theorem Et {ys:AV} (ho:ops[i]?=some ⟨some t,.call ⟨.builtin .append,#[x,y],#[T,T]⟩,ty,p,ed,none⟩) (hod:Dd n (some t)=true) (he:DS P T=some ⟨el,size,bytes,zz⟩) (hrst :∀row∈rst,C5 row.xs) (hx:St.ev ⟨n,e,⟨g,el,size,l.map enc⟩ :: rst⟩ x=.own 0 g m) (hm:m=l.length) (hy:St.ev ⟨n,e,⟨g,el,size,l.map enc⟩ :: rst⟩ y=ys) (hel:EL (⟨g,el,size,l.map enc⟩ :: rst) ys (l2.map enc))
    (hl2:l2.isEmpty=false) (hs :∀a,(enc a).length=size) (hp :∀l:List α,C5 (l.map enc)) (ha:Sh.app l l2 bytes=some l')
    (h1:AX P 1 ops (Ug ⟨g,el,size,l.map enc⟩ ⟨g,el,size,l'.map enc⟩ Q) N f (listed.setIfInBounds i true) ⟨n,D9 (fun t=>Ww (e t)) t (.own 0 g l'.length),⟨g,el,size,l'.map enc⟩ :: rst⟩)
    (h2:AX P 1 ops Q N f (listed.setIfInBounds i true) ⟨n,D9 e t (.own (rst.length+1) 0 l'.length),⟨g,el,size,l.map enc⟩ :: (rst ++ [⟨0,el,size,l'.map enc⟩])⟩) :
    Av P 1 ops Q N f listed ⟨n,e,⟨g,el,size,l.map enc⟩ :: rst⟩ i:=by
  subst hm
  unfold Sh.app at ha
  split at ha
  case isFalse=>cases ha
  rename_i hbd
  simp only[Option.some.injEq] at ha
  subst ha
  intro F0 os0 w0 F os a w hr he0
  have hxr:=hr.ev x
  rw[hx] at hxr
  have hyr:=hr.ev y
  rw[hy] at hyr
  have hpp:=hp (l ++ l2)
  rw[List.map_append] at hpp h1 h2
  obtain⟨o,ros,u,w',rfl,hrow,hrun,hA⟩:=Rg (k:=1) (ty:=ty) (ei:=⟨el,size,bytes,zz⟩) (g:=g) (xs:=l.map enc) (ys:=l2.map enc) hr rfl hrst he (by simpa using hxr) hyr hel
    (fun z hz=>by obtain⟨q,_,rfl⟩:=List.mem_map.1 hz;exact hs q) hpp (by intro e;rw[List.map_eq_nil_iff] at e;rw[e] at hl2;cases hl2) (by simpa using hbd.1) (by simpa using hbd.2)
  unfold wpOp
  simp only[ho]
  rw[if_pos (by rfl)]
  refine .inl ?_
  unfold Oper.wp
  simp only[execOp,resolve,invoke,builtin,Sem.run_bind,Sem.run_pure,Result.andThen_ok,List.map_toArray,List.map_cons,List.map_nil,hrun,Oper.upon]
  rcases hA with ⟨b0,hbs,hnF,hT,hR,rfl⟩ | ⟨cap,hR,hE,rfl⟩
  · have h3:=h1.2 F _ w' F _ _ w' (hR.put (d:=some t) hod (v:=.own 0 g (l ++ l2).length) (u:=.slice (some ⟨b0,0,none⟩) ((l.map enc).length+(l2.map enc).length) o.cap) (by
      simp only[Am]
      exact⟨_,rfl,Nat.le_refl _,⟨_,_,_,rfl⟩,fun _=>⟨by simp,.inr ⟨b0,rfl,by simp⟩⟩⟩)) (CW _ _ _ _)
    refine Nm (fun c a'' w'' hp=>?_) (fun hl=>?_) (fun a'' w'' hp=>?_) _ h3
    · obtain⟨_,_,_,h4,_⟩:=hp;exact nomatch h4.1
    · obtain⟨_,_,h4,_⟩:=hl;exact nomatch h4
    obtain⟨s',F',os',⟨h4,h5⟩,h6,h7⟩:=hp
    obtain⟨s2,F2,os2,h8,h9,h10⟩:=VB (Q:=fun e s=>e=.normal∧Q e s) hpp hrow hbs hnF hT ⟨s',F',os',⟨h5.1,h4,h5.2⟩,h6,h7⟩ hr.Ev
    exact⟨s2,F2,os2,h8,h9,he0.trans h10⟩
  · refine h2.2 F0 os0 w0 F _ _ w' ?_ (he0.trans hE)
    have hlen:ros.length=rst.length:=by
      have:=hr.st
      simp only[List.map_cons,List.cons.injEq] at this
      rw[← this.2,List.length_map]
    refine hR.put (d:=some t) hod (v:=.own (rst.length+1) 0 (l ++ l2).length) ?_
    simp only[Am]
    exact⟨⟨⟨0,el,size,l.map enc ++ l2.map enc⟩,some w.heap.size,cap,FP⟩,by rw[← hlen];simp,Nat.le_refl _,⟨_,_,_,rfl⟩,fun _=>⟨by simp,.inr ⟨_,rfl,by simp⟩⟩⟩
end
section
variable {P : Program} {ds : List (Option Tmp)} {r : List Oper} {KS : St → Prop} {n : Nat} {e : Nat → AV} {st : List Row} {ty : TypeId} {ps : String} {ed : Array Edge} {t : Tmp} {gd : Option (Nat × Bool)} {α : Type} {l l' : List α} {enc : α → List AV} {x : Operand} {size bytes : Nat} {el T : TypeId} {zz : List AV}
theorem TR {lo hi:Option Operand} {i j:Int} (hg:GO ds gd e) (he:DS P T=some ⟨el,size,bytes,zz⟩) (hx:St.ev ⟨n,e,st⟩ x=.sl (l.map enc)) (h1:N7 (lo.map (St.ev ⟨n,e,st⟩)) 0=some i) (h2:N7 (hi.map (St.ev ⟨n,e,st⟩)) l.length=some j) (hs :∀a,(enc a).length=size) (hl:Sh.sl l i j=some l')
    (hk:Co P (ds ++ [some t]) r KS ⟨n,D9 e t (.sl (l'.map enc)),st⟩):Co P ds (⟨some t,.slice T x lo hi none,ty,ps,ed,gd⟩ :: r) KS ⟨n,e,st⟩:=by
  refine Ui hg rfl (fun s0 e1 e2 hd k F os a w hr next Q hn=>?_) hk
  refine H3 (k:=k) (K:=(·=s0.put (some t) (.sl (l'.map enc)))) hr hd ?_ hn
  show PG P s0.st T (s0.ev x) (lo.map s0.ev) (hi.map s0.ev) (Option.map s0.ev none) (fun v st=>({ s0 with st:=st }:St).put (some t) v=s0.put (some t) (.sl (l'.map enc)))
  have ex:s0.ev x=St.ev ⟨n,e,st⟩ x:=e2 x (by simp[Op.operands])
  have elo:lo.map s0.ev=lo.map (St.ev ⟨n,e,st⟩):=by
    cases lo with
    | none=>rfl
    | some y=>simp only[Option.map_some];rw[e2 y (by simp[Op.operands])]
  have ehi:hi.map s0.ev=hi.map (St.ev ⟨n,e,st⟩):=by
    cases hi with
    | none=>rfl
    | some y=>simp only[Option.map_some];rw[e2 y (by simp[Op.operands])]
  rw[ex,elo,ehi,hx]
  unfold Sh.sl at hl
  split at hl
  · rename_i h
    simp only[Option.some.injEq] at hl
    subst hl
    refine Aq _ he (Aq _ h1 (Aq _ (by rw[List.length_map];exact h2) ⟨h.1,h.2.1,by simpa using h.2.2,fun z hz=>?_,?_⟩))
    · obtain⟨q,_,rfl⟩:=List.mem_map.1 hz;exact hs q
    · rw[List.map_drop,List.map_take]
  · cases hl
theorem QG {f:FuncId} {ars:Array Operand} {ts:Array TypeId} {args args':List AV} {rowsP rows0 rows1 rows1':List Row} {v v':AV} (Ap:List Nat) (hg:GO ds gd e) (hb:Au P f=true) (hc:Aj P f args' rows0 fun r st=>r=v∧st=rows1) (ha:ars.toList.map (St.ev ⟨n,e,st⟩) ++ []=args) (hnd:Ap.Nodup) (hlt:Ap.all (· < st.length)=true)
    (hp:B1 st Ap=rowsP) (hs:SR Ap rowsP rows0) (hf:args.map (II Ap)=args') (hlen:rows1.length=Ap.length) (h1:UN Ap st.length rows1 rows1') (hv:Pa Ap st.length v=v') (hst':El Ap rows1' 0 st=st)
    (hk:Co P (ds ++ [some t]) r KS ⟨n,D9 e t v',st⟩):Co P ds (⟨some t,.call ⟨.value (.func f),ars,ts⟩,ty,ps,ed,gd⟩ :: r) KS ⟨n,e,st⟩:=by
  subst ha;subst hv;subst hp
  refine Ui hg rfl (fun s0 e1 e2 hd k F os a w hr next Q hn=>?_) hk
  refine H3 (k:=k) (K:=(·=s0.put (some t) (Pa Ap st.length v))) hr hd ?_ hn
  show Au P f=true∧callThen P k s0 f (ars.toList.map s0.ev ++ []) (some t) _
  rw[NR e2]
  refine⟨hb,Hd fun hle=>?_⟩
  subst e1
  obtain⟨e1,e3⟩:=hs.spec (st0:=s0.st) hle (fun row hrow=>by
    obtain⟨i,_,hi⟩:=List.mem_filterMap.1 hrow
    exact List.mem_of_getElem? hi)
  refine IB (rows2:=[]) Ap (by simpa using hc) hnd (fun i hi=>by simpa using List.all_eq_true.1 hlt i hi) e1 e3 hf hlen (fun row hrow=>by
    rw[List.append_nil] at hrow
    exact h1.leaf row hrow) fun _=>?_
  simp only[h1.spec,List.map_nil,List.append_nil,hst']
end
end Go.Abs



namespace Go.Abs
open Go
section
variable {P : Program} {k : Nat} {ops : Array Oper} {Q : Exit → St → Prop} {ds : List (Option Tmp)} {r : List Oper} {n : Nat} {e : Nat → AV} {st st' : List Row} {ty : TypeId} {p : String} {ed : Array Edge} {t : Tmp} {x y : Operand} {size bytes m : Nat} {el T Tn : TypeId} {zz : List AV} {α : Type} {enc : α → List AV} {u : α} {l' : List α} {kk : IntKind} {j : Int} {v : AV} {o : Oper}
theorem Tr (hn:o.guard=none) (h :∀F os a w,Rel F os ⟨n,e,st⟩ a w→∃z w' F' os',(execOp a.eval o).run P w=.ok (.value z) w'∧Rel F' os' ⟨n,e,st'⟩ a w'∧Am F' w' os' v z∧Ext F os w F' os' w' k)
  (hk:AO P k ops Q (ds ++ [o.dst]) r (St.put ⟨n,e,st'⟩ o.dst v)):AO P k ops Q ds (o :: r) ⟨n,e,st⟩:=by
 intro hl hds hdst F os a w hr Q' hQ
 have ho:ops[ds.length]?=some o:=by have:=hl 0;simpa using this.symm
 have hod:Dd n o.dst=true:=hdst o (by have:=List.mem_of_getElem? (l:=ops.toList) (i:=ds.length) (by simpa using ho);exact this)
 have hl' :∀(j:Nat),r[j]?=ops[(ds ++ [o.dst]).length+j]?:=fun j=>by
  have:=hl (j+1)
  simp only[List.getElem?_cons_succ] at this
  rw[this];congr 1;simp;omega
 have hds' :∀(j:Nat) d,(ds ++ [o.dst])[j]?=some d→(ops[j]?).map (·.dst)=some d:=fun j d hj=>by
  rcases Nat.lt_trichotomy j ds.length with h1 | h1 | h1
  ·rw[List.getElem?_append_left h1] at hj;exact hds j d hj
  ·subst h1;rw[HE,Option.some.injEq] at hj;rw[ho];simp[hj]
  ·rw[List.getElem?_eq_none (by simp;omega)] at hj;cases hj
 obtain⟨z,w',F',os',h1,h2,h3,h4⟩:=h F os a w hr
 unfold wpList
 rw[if_pos (by unfold Region.wanted;rw[hn])]
 refine .inl ?_
 unfold Oper.wp
 rw[h1]
 simp only[Oper.upon]
 refine hk hl' hds' (by cases o.dst <;> exact hdst) F' os' _ w' (h2.put hod h3) Q' fun _ _ _ hp=>hQ _ _ _ (hp.trans h4)
theorem TG (hs:DL P T=true) (hx:St.ev ⟨n,e,st⟩ x=.zc) (hk:AO P k ops Q (ds ++ [some t]) r ⟨n,D9 e t (i64 0),st⟩) :
  AO P k ops Q ds (⟨some t,.call ⟨.builtin .cap,#[x],#[T]⟩,ty,p,ed,none⟩ :: r) ⟨n,e,st⟩:=by
 refine Tr rfl (st':=st) (v:=i64 0) (fun F os a w hr=>?_) hk
 have h1:=hr.ev x
 rw[hx] at h1
 simp only[Am] at h1
 obtain⟨ad,h1⟩:=h1
 unfold DL at hs
 split at hs
 case h_2=>cases hs
 rename_i el hu
 refine⟨.int .i64 0,w,F,os,?_,hr,by simp[Am],CW _ _ _ _⟩
 simp only[execOp,resolve,invoke,builtin,Sem.run_bind,Sem.run_pure,Result.andThen_ok,List.map_toArray,List.map_cons,List.map_nil,h1,Builtin.cap_]
 simp[run_underlying hu,goInt]
theorem W7 {hi:Option Operand} (he:DS P T=some ⟨el,size,bytes,zz⟩) (hx:St.ev ⟨n,e,st⟩ x=.zc) (h2:N7 (hi.map (St.ev ⟨n,e,st⟩)) 0=some 0)
  (hk:AO P k ops Q (ds ++ [some t]) r ⟨n,D9 e t .zc,st⟩):AO P k ops Q ds (⟨some t,.slice T x none hi none,ty,p,ed,none⟩ :: r) ⟨n,e,st⟩:=by
 refine JL AK ?_
 rw[N6]
 simp only[Option.map_none]
 rw[hx]
 exact Aq _ he (Aq _ rfl (Aq _ h2 ⟨rfl,rfl,hk⟩))
theorem Vd {kn:IntKind} (he:DS P T=some ⟨el,size,bytes,zz⟩) (hn:P.underlying Tn=some (.int kn)) (hx:St.ev ⟨n,e,st⟩ x=.zc) (hy:St.ev ⟨n,e,st⟩ y=.int kk j) (h0:decide (0 < j)=true) (hz:enc u=zz) (hj:Sh.mk u j bytes=some l') (hm:st.length=m) (hst:st ++ [⟨0,el,size,l'.map enc⟩]=st')
  (hk:AO P k ops Q (ds ++ [some t]) r ⟨n,D9 e t (.own m 0 l'.length),st'⟩):AO P k ops Q ds (⟨some t,.call ⟨.builtin .append,#[x,y],#[T,Tn]⟩,ty,p,ed,none⟩ :: r) ⟨n,e,st⟩:=by
 subst hm;subst hst;subst hz
 unfold Sh.mk at hj
 split at hj
 case isFalse=>cases hj
 rename_i hbd
 simp only[Option.some.injEq] at hj
 subst hj
 refine Tr rfl (st':=st ++ [(⟨0,el,size,(List.replicate j.toNat u).map enc⟩:Row)]) (v:=.own st.length 0 (List.replicate j.toNat u).length) (fun F os a w hr=>?_) hk
 have h1:=hr.ev x
 rw[hx] at h1
 simp only[Am] at h1
 obtain⟨ad,h1⟩:=h1
 have h2:=hr.ev y
 rw[hy] at h2
 simp only[Am] at h2
 obtain⟨inf,z,hu,hi,hz,hzs,hpos,hsz,hby,hzz,hlf⟩:=Fj he
 dsimp only at hu hi hzs hpos hsz hby hzz hlf
 have hj0:0 < j:=of_decide_eq_true h0
 obtain⟨q,rfl⟩:=Int.eq_ofNat_of_zero_le (Int.le_of_lt hj0)
 rw[Int.toNat_natCast]
 have hq0:0 < q:=by omega
 have hq48:q * inf.bytes≤281474976710656:=by
  have h9:((q * bytes:Nat):Int)≤281474976710656:=by rw[Int.natCast_mul];exact hbd.2.1
  rw[← hby];omega
 have hold:(Builtin.firstCells inf.size 0 (.slice ad 0 0)).run P w.drew=.ok ([]:List Value).toArray w.drew:=by
  cases ad with
  | none=>exact run_firstCells_none w.drew inf.size 0 0 0
  | some ad=>exact run_firstCells_some w.drew inf.size 0 ad 0 0 [] (by simp) (by simp)
 have hfit:Builtin.nextslicecap (0+q) 0 * inf.bytes≤281474976710656:=by rw[Nat.zero_add,nextslicecap_zero hq0];exact hq48
 have hrun:=Lib.run_append_grow_zeros (P:=P) w T Tn ty el inf z kk kn hu hn hi hz ad 0 0 [] hold q hq0 (by omega) (by omega) (by omega) hq48 hfit
 rw[Nat.zero_add] at hrun
 have hge:=grownCap_ge w q 0 el
 have hle:=grownCap_le_maxLen w q 0 el (by unfold maxLen;omega)
 have hzc :∀i,i < z.cells.size→∃c',z.cells[i]?=some c':=fun i hi=>⟨_,Array.getElem?_eq_getElem hi⟩
 have hadd:=hr.KX (k:=k) (.inr rfl) (cur:=([]:List Value).toArray ++ Builtin.zeroCells z.cells q ++ Builtin.zeroCells z.cells (grownCap w q 0 el - q)) (e:=el) (size:=size) (cap:=grownCap w q 0 el) (xs:=(List.replicate q u).map enc)
  (by omega) (fun x hx=>by
   rw[List.map_replicate] at hx
   rw[List.eq_of_mem_replicate hx,hzz]
   refine⟨by simp[hzs,hsz],fun c hc=>hlf c (by rw[hzz];exact hc)⟩)
  (by
   simp only[Array.size_append,List.size_toArray,List.length_nil,size_zeroCells,hzs,hsz,Nat.zero_add,← Nat.add_mul]
   congr 1;omega)
  (by rw[List.length_map,List.length_replicate];omega) hle (fun i x hx jj c hc=>by
   rw[List.map_replicate] at hx
   have hi:i < q:=by
    have:=(List.getElem?_eq_some_iff.1 hx).1
    simpa using this
   have hx':x=enc u:=List.eq_of_mem_replicate (List.mem_of_getElem? hx)
   subst hx'
   rw[hzz] at hc
   simp only[List.getElem?_map,Option.map_eq_some_iff,Array.getElem?_toList] at hc
   obtain⟨c',hc1,rfl⟩:=hc
   have hjl:jj < z.cells.size:=(Array.getElem?_eq_some_iff.1 hc1).1
   refine⟨c',?_,Il F w os c'⟩
   have hlt:i * size+jj < q * size:=by
    have:(i+1) * size≤q * size:=Nat.mul_le_mul_right _ hi
    rw[Nat.add_mul] at this
    omega
   rw[Array.append_assoc,show (([]:List Value).toArray ++ (Builtin.zeroCells z.cells q ++ Builtin.zeroCells z.cells (grownCap w q 0 el - q)))=(Builtin.zeroCells z.cells q ++ Builtin.zeroCells z.cells (grownCap w q 0 el - q)) by simp]
   rw[Array.getElem?_append_left (by rw[size_zeroCells,hzs,← hsz];exact hlt)]
   unfold Builtin.zeroCells
   rw[Array.getElem?_map,Array.getElem?_range]
   rw[if_pos (by rw[hzs,← hsz];exact hlt)]
   simp only[Option.map_some,Option.some.injEq]
   have hmod:(i * size+jj) % z.cells.size=jj:=by
    rw[hzs,← hsz,Nat.mul_comm,Nat.mul_add_mod]
    exact Nat.mod_eq_of_lt (by omega)
   rw[hmod]
   simp[Array.getElem!_eq_getD,Array.getD,hjl,(Array.getElem?_eq_some_iff.1 hc1).2])
 refine⟨.slice (some ⟨w.heap.size,0,none⟩) q (grownCap w q 0 el),_,F,_,?_,hadd.1,?_,hadd.2.1⟩
 ·simp only[execOp,resolve,invoke,builtin,Sem.run_bind,Sem.run_pure,Result.andThen_ok,List.map_toArray,List.map_cons,List.map_nil,h1,h2]
  rw[hrun]
  simp
 ·simp only[Am]
  have hlen:st.length=os.length:=hr.len
  exact⟨_,by rw[hlen];exact HE _ _,Nat.le_refl _,⟨_,_,_,rfl⟩,fun _=>⟨by simp,.inr ⟨_,rfl,by simp⟩⟩⟩
end
section
variable {P : Program} {ds : List (Option Tmp)} {r : List Oper} {KS : St → Prop} {n : Nat} {e : Nat → AV} {st : List Row} {ty : TypeId} {ps : String} {ed : Array Edge} {t : Tmp} {gd : Option (Nat × Bool)} {α : Type} {l : List α} {enc : α → List AV} {u : α} {x y : Operand} {size bytes : Nat} {el T : TypeId} {zz : List AV} {kk kk' : IntKind} {j : Int}
theorem Yh (hg:GO ds gd e) (he:DS P T=some ⟨el,size,bytes,zz⟩) (hx:St.ev ⟨n,e,st⟩ x=.int kk j) (hy:St.ev ⟨n,e,st⟩ y=.int kk' j) (hz:enc u=zz) (hl:Sh.mk u j bytes=some l) (hpu:C5 (l.map enc))
  (hk:Co P (ds ++ [some t]) r KS ⟨n,D9 e t (.sl (l.map enc)),st⟩):Co P ds (⟨some t,.makeSlice T x y,ty,ps,ed,gd⟩ :: r) KS ⟨n,e,st⟩:=by
 subst hz
 refine Ui hg rfl (fun s0 e1 e2 hd k F os a w hr next Q hn=>?_) hk
 have ex:s0.ev x=.int kk j:=(e2 x (by simp[Op.operands])).trans hx
 have ey:s0.ev y=.int kk' j:=(e2 y (by simp[Op.operands])).trans hy
 have hxr:=hr.ev x
 have hyr:=hr.ev y
 rw[ex] at hxr
 rw[ey] at hyr
 unfold Sh.mk at hl
 split at hl
 case isFalse=>cases hl
 rename_i h
 simp only[Option.some.injEq] at hl
 subst hl
 have h9:Fg P 0 F [] ⟨s0.n,fun _=>.Dm,[]⟩ a w (Instr.makeSlice T (a.eval x) (a.eval y)) (fun z st=>z=.own 0 0 (List.replicate j.toNat u).length∧st=[⟨0,el,size,(List.replicate j.toNat u).map enc⟩]):=by
  refine Q5 (l:=.int kk j) (c:=.int kk' j) hr.bare (Aq _ he ⟨rfl,h.1,h.2.1,h.2.2,?_⟩) (D1 (x:=.int kk j) rfl [] hxr) (D1 (x:=.int kk' j) rfl [] hyr)
  simp
 obtain⟨u',w',F',g1,g2,g3,g4⟩:=Jn (k:=k) hr h9 (P4 hpu) rfl
 unfold Oper.wp
 simp only[execOp,Sem.run_bind,g1,Result.andThen_ok,Sem.run_pure,Oper.upon]
 exact hn _ _ (LJ (st':=s0.st) hd rfl g2 g3 g4)
end
theorem DX {row:Row} {rst:List Row} (h:C5 row.xs) (g :∀q∈rst,C5 q.xs) :∀q∈row :: rst,C5 q.xs:=fun q hq=>by
 rcases List.mem_cons.1 hq with rfl | hq
 ·exact h
 ·exact g q hq
section
variable {P : Program} {k : Nat} {ops : Array Oper} {Q : Exit → St → Prop} {ds : List (Option Tmp)} {r : List Oper} {n : Nat} {e : Nat → AV} {st st' : List Row} {ty : TypeId} {p : String} {ed : Array Edge} {t : Tmp} {x y : Operand} {size bytes m : Nat} {el T : TypeId} {zz : List AV} {kk kk' : IntKind} {c : Nat}
theorem VC (he:DS P T=some ⟨el,size,bytes,zz⟩) (hx:St.ev ⟨n,e,st⟩ x=.int kk 0) (hy:St.ev ⟨n,e,st⟩ y=.int kk' (c:Int)) (hc:decide (c * bytes≤281474976710656∧c≤9223372036854775807)=true) (hm:st.length=m) (hst:st ++ [⟨0,el,size,[]⟩]=st')
  (hk:AO P k ops Q (ds ++ [some t]) r ⟨n,D9 e t (.own m 0 0),st'⟩):AO P k ops Q ds (⟨some t,.makeSlice T x y,ty,p,ed,none⟩ :: r) ⟨n,e,st⟩:=by
 subst hm;subst hst
 have hbd:=of_decide_eq_true hc
 refine Tr rfl (st':=st ++ [(⟨0,el,size,[]⟩:Row)]) (v:=.own st.length 0 0) (fun F os a w hr=>?_) hk
 have h1:=hr.ev x
 rw[hx] at h1
 simp only[Am] at h1
 have h2:=hr.ev y
 rw[hy] at h2
 simp only[Am] at h2
 obtain⟨inf,z,hu,hi,hz,hzs,hpos,hsz,hby,hzz,hlf⟩:=Fj he
 dsimp only at hu hi hzs hpos hsz hby hzz hlf
 have hrun:=run_make (P:=P) w T el inf z hu hi hz kk kk' 0 (c:Int) (by omega) (by omega) (by rw[← hby,← Int.natCast_mul,Nat.mul_comm];omega) (by omega)
 have hadd:=hr.KX (k:=k) (.inl rfl) (cur:=madeCells z.cells (c * inf.size)) (e:=el) (size:=size) (cap:=c) (xs:=[]) (by omega) (by simp) (by rw[size_madeCells,hsz]) (by simp) (by simp[maxLen];omega) (by simp)
 refine⟨.slice (some ⟨w.heap.size,0,none⟩) 0 c,_,F,_,?_,hadd.1,?_,hadd.2.1⟩
 ·simp only[execOp,Sem.run_bind,Sem.run_pure,Result.andThen_ok,h1,h2]
  rw[hrun]
  simp
 ·simp only[Am]
  have hlen:st.length=os.length:=hr.len
  exact⟨_,by rw[hlen];exact HE _ _,Nat.le_refl _,⟨_,_,_,rfl⟩,fun _=>⟨by simp,.inr ⟨_,rfl,by simp⟩⟩⟩
end
end Go.Abs



namespace RC
open Go Go.Abs
inductive A3:AP→Prop where
 | mk {e:AP}:Ij e.op→Ij e.num→e.kids.length≤9223372036854775807→(∀k∈e.kids,A3 k)→A3 e
theorem A3.op {e:AP} (h:A3 e):Ij e.op:=by cases h;assumption
theorem A3.num {e:AP} (h:A3 e):Ij e.num:=by cases h;assumption
theorem A3.kids {e:AP} (h:A3 e) :∀k∈e.kids,A3 k:=by cases h;assumption
theorem XF (a0:List Int) (a1:Int) (a2:AP):AH ⟨a0,a1,a2⟩=eS eI a0 ++ (eI a1 ++ AA a2):=by rw[Ao];rfl
structure Qc (f:Ar):Prop where
 params:Hi Ij f.params
 result:Ij f.result
 body:A3 f.body
structure S3 (p:Ai):Prop where
 decls:Hi I3 p.decls
 funcs:Hi Qc p.funcs
structure Uu where
 params:List Int
 EN:List Int
 result:Int
 body:Block
structure F4 where
 decls:List Ac
 YG:List Uu
end RC



namespace RC
open Go Go.Abs
end RC



namespace RC
open Go Go.Abs
end RC



namespace RC
open Go Go.Abs
end RC



namespace Go.Abs
open Go
variable {P : Program} {n : Nat} {e : Nat → AV} {st : List Row} {t : Tmp} {ty : TypeId} {ps : String} {ed : Array Edge} {x : Operand}
end Go.Abs



namespace Go.Abs
open Go
section
variable {P : Program} {k : Nat} {ops : Array Oper} {Q : Exit → St → Prop} {N f i : Nat} {listed listed' : Array Bool} {s s' : St} {o : Oper}
end
section
variable {P : Program} {n : Nat} {e : Nat → AV} {st : List Row} {t : Tmp} {ty : TypeId} {ps : String} {ed : Array Edge} {x : Operand}
end
section
variable {P : Program} {k : Nat} {α : Type} {l : List α} {enc : α → List AV}
variable {ops : Array Oper} {Q : Exit → St → Prop} {ds : List (Option Tmp)} {r : List Oper} {n : Nat} {e : Nat → AV} {st st' : List Row} {ty : TypeId} {ps : String} {ed : Array Edge} {v : AV} {gd : Option (Nat × Bool)} {T : TypeId} {x y : Operand} {ag : Bool} {sz id g size off : Nat} {el : TypeId} {cs cs' : List AV} {c : α} {i : Int}
end
end Go.Abs



namespace Go.Abs
open Go
end Go.Abs



namespace RC
open Go Go.Abs
end RC


namespace RC
end RC

