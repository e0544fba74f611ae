import Derived.Test.YtpahalfiiahddaaAbsW
import Derived.Lib.AppendZerosOnto
import Derived.OrdersHeld
import Derived.Test.YtpahalfiiahddaaAbsV
import Derived.Lib.SlicesCompact

namespace Go.Abs
open Go
variable {P : Program} {F : Nat → Prop} {os : List Own} {s : St} {a : Act} {w : World} {k : Nat}
end Go.Abs



namespace Go.Abs
open Go
variable {P : Program} {F : Nat → Prop} {os : List Own} {s : St} {a : Act} {w : World} {k : Nat}
variable {α β : Type} {l : List α} {enc : α → List AV}
section
variable {ops : Array Oper} {Q : Exit → St → Prop} {ds : List (Option Tmp)} {r : List Oper} {n : Nat} {e : Nat → AV} {st st' : List Row} {ty : TypeId} {ps : String} {ed : Array Edge} {t : Tmp} {v : AV} {gd : Option (Nat × Bool)} {T : TypeId} {x y : Operand} {ag : Bool} {sz id g size : Nat} {el : TypeId} {cs : List AV} {c : α} {i : Int}
end
end Go.Abs



namespace Go.Abs
open Go
variable {P : Program} {F : Nat → Prop} {os : List Own} {s : St} {a : Act} {w : World} {k : Nat}
section
variable {α : Type} {l : List α} {enc : α → List AV}
variable {ops : Array Oper} {Q : Exit → St → Prop} {ds : List (Option Tmp)} {r : List Oper} {n : Nat} {e : Nat → AV} {st st' : List Row} {ty : TypeId} {ps : String} {ed : Array Edge} {t : Tmp} {T : TypeId} {x y : Operand} {m bytes size : Nat} {el : TypeId} {zz : List AV} {u : α} {j : Int} {kk kk' : IntKind}
end
end Go.Abs



namespace Go.Abs
open Go
variable {P : Program} {F : Nat → Prop} {os : List Own} {s : St} {a : Act} {w : World} {k : Nat}
variable {α β : Type} {l : List α} {enc : α → List AV}
end Go.Abs
namespace Go.Abs
open Go
section
variable {P : Program} {k : Nat} {α : Type} {l l' : List α} {enc : α → List AV} {c : α}
variable {ops : Array Oper} {Q : Exit → St → Prop} {ds : List (Option Tmp)} {r : List Oper} {n : Nat} {e : Nat → AV} {st st' : List Row} {ty : TypeId} {ps : String} {ed : Array Edge} {t : Tmp} {gd : Option (Nat × Bool)} {T : TypeId} {x y : Operand} {bytes size id g m q gq size' : Nat} {el el' : TypeId} {zz cs : List AV}
end
end Go.Abs



namespace Go.Abs
open Go
variable {P : Program} {F : Nat → Prop} {os : List Own} {s : St} {a : Act} {w : World} {k : Nat}
variable {α : Type} {l : List α} {enc enc' : α → List AV} {n id g m size : Nat} {e : Nat → AV} {st st' : List Row} {L : List (Nat × AV)} {el : TypeId} {xs : List (List AV)}
end Go.Abs



namespace Go.Abs
open Go
variable {P : Program} {F : Nat → Prop} {os : List Own} {s : St} {a : Act} {w : World} {k : Nat}
def YJ (x:AV):AV:=bif flat x then x else .D4
theorem V6 {F':Nat→Prop} {w':World} (hF :∀b,F b→F' b) (hw :∀b,F b→w'.heap[b]?=w.heap[b]?) (os':List Own) {x:AV} {v:Value} (h:Ak F w os x v):Ak F' w' os' (YJ x) v:=by
  unfold YJ
  cases hf:flat x with
  | false=>simp[Ak]
  | true=>exact HG hf os' (Da hF hw [] [] (by simp) x v (HG hf [] h))
def Xg (x:AV):AV:=bif flat x then x else match x with
  | .ptr (id+1) g i off=>.ptr (id+1) g i off
  | _=>.D4
theorem Wc {F':Nat→Prop} {w':World} (hF :∀b,F b→F' b) (hw :∀b,F b→w'.heap[b]?=w.heap[b]?) {o o':Own} {ros:List Own} {x:AV} {v:Value} (h:Ak F w (o :: ros) x v):Ak F' w' (o' :: ros) (Xg x) v:=by
  unfold Xg
  cases hf:flat x with
  | true=>exact HG hf _ (Da hF hw [] [] (by simp) x v (HG hf [] h))
  | false=>
    cases x <;> simp only[cond_false] <;> try simp[Ak]
    rename_i id g i off
    cases id with
    | zero=>simp[Ak]
    | succ id=>
      simp only[Ak,List.getElem?_cons_succ] at h ⊢
      exact h
theorem N9 {P:Program} {ops:Array Oper} {md:Region.Mode} {Q Q':Exit→Act→World→Prop} (hp :∀c a w,Q (.panic c) a w→Q' (.panic c) a w) (hlo:LetsOut Q→LetsOut Q') (hn :∀a w,Q .normal a w→Q' .normal a w) :
    ∀(fuel:Nat) {listed:Array Bool} {a:Act} {w:World},wpAny P md ops Q fuel listed a w→wpAny P md ops Q' fuel listed a w
  | 0,_,_,_,h=>⟨h.1,hn _ _ h.2⟩
  | fuel+1,listed,a,w,h=>by
    refine⟨fun h0=>hn _ _ (h.1 h0),fun i hi=>?_⟩
    have:=h.2 i hi
    unfold wpOp at this ⊢
    split
    · rename_i ho;simp only[ho] at this;exact N9 hp hlo hn fuel this
    · rename_i o ho
      simp only[ho] at this
      split
      · rename_i hw
        rw[if_pos hw] at this
        exact this.imp (fun h=>OD hp hlo (Oper.wp_mono (fun a w h=>N9 hp hlo hn fuel h) h)) fun h=>⟨h.1,hlo h.2⟩
      · rename_i hw
        rw[if_neg hw] at this
        exact N9 hp hlo hn fuel this
def U3 (row row':Row) (Q:Exit→St→Prop):Exit→St→Prop:=fun ex s'=>(∃r,s'.st=row' :: r)∧Q ex ⟨s'.n,fun t=>YJ (s'.env t),[row]⟩
theorem NR {xs:List (List AV)} (hp:DA xs) {o:Own} (hok:J0 F w os o) (hx:o.row.xs=xs) :∀x∈xs,∀c∈x,c.leaf=true:=fun x hm c hc=>by
  have h1:=hp x hm c hc
  have h2:=(hok.lens x (by rw[hx];exact hm)).2 c hc
  cases c <;> simp_all [simple,AV.leaf,AV.kept]
theorem Vd {Q:Exit→St→Prop} {o:Own} {ros:List Own} {g:Nat} {el:TypeId} {size b0:Nat} {xs ys:List (List AV)} (hp:DA (xs ++ ys)) (hrow:o.row=⟨g,el,size,xs⟩) (hb0:o.Ex=some b0) (hnF:¬ F b0) {w1:World} (ht:E8 w w1 (some b0))
    {e:Exit} {a':Act} {w':World} (h:IG 1 (U3 ⟨g,el,size,xs⟩ ⟨g,el,size,xs ++ ys⟩ Q) F (⟨⟨g,el,size,xs ++ ys⟩,some b0,o.cap,o.more⟩ :: ros) w1 e a' w') (hold :∀b,F b→b < w.heap.size):IG 1 Q F (o :: ros) w e a' w':=by
  obtain⟨s',F',os',⟨⟨rst',hst⟩,hQ⟩,hR,hE⟩:=h
  have hos :∃o' ros',os'=o' :: ros'∧o'.row=⟨g,el,size,xs ++ ys⟩:=by
    have:=hR.st
    rw[hst] at this
    cases os' with
    | nil=>cases this
    | cons o' ros'=>
      simp only[List.map_cons,List.cons.injEq] at this
      exact⟨o',ros',rfl,this.1⟩
  obtain⟨o',ros',rfl,hrow'⟩:=hos
  obtain⟨o2,e2,_,_,e3⟩:=hE.Tf 0 _ (by omega) rfl
  simp only[List.getElem?_cons_zero,Option.some.injEq] at e2
  subst e2
  obtain⟨e4,e5,_⟩:=e3 (by rw[hrow'])
  dsimp only at e4 e5
  have hok':=hR.rows 0 o' rfl
  have hlf:=NR hp hok' (by rw[hrow'])
  have hF :∀b,F b→w1.heap[b]?=w.heap[b]?:=fun b hb=>ht.E6 b (hold b hb) (fun e=>hnF (by cases e;exact hb))
  refine⟨_,F',[{ o' with row:=⟨g,el,size,xs⟩ }],hQ,⟨rfl,fun t=>V6 (fun _ h=>h) (fun _ _=>rfl) _ (hR.env t),hR.size,fun i oi hi=>?_,fun i j oi oj b hi hj hbi hbj=>?_,hR.E6,hR.defers⟩,?_⟩
  · match i,hi with
    | 0,hi=>
      simp only[List.getElem?_cons_zero,Option.some.injEq] at hi
      subst hi
      refine⟨by have:=hok'.pos;rw[hrow'] at this;exact this,fun x hx=>?_,fun hn=>(by rw[e4] at hn;cases hn),fun b hb=>?_,fun b hb=>hok'.mo b hb,EU fun x hx c hc=>hlf x (List.mem_append_left _ hx) c hc⟩
      · have:=hok'.lens x (by rw[hrow'];exact List.mem_append_left _ hx);rw[hrow'] at this;exact this
      · obtain⟨h1,cur,h2,h3,h4,h5,h6⟩:=hok'.some b hb
        rw[hrow'] at h2 h3 h4 h6
        refine⟨h1,cur,h2,h3,by simp only[List.length_append] at h4 ⊢;omega,h5,fun i x hx j c hc=>?_⟩
        obtain⟨u,f1,f2⟩:=h6 i x (by simp only at hx ⊢;rw[List.getElem?_append_left (List.getElem?_eq_some_iff.1 hx).1];exact hx) j c hc
        exact⟨u,f1,EM (hp x (List.mem_append_left _ (List.mem_of_getElem? hx)) c (List.mem_of_getElem? hc)) _ f2⟩
  · match i,j,hi,hj with
    | 0,0,_,_=>rfl
  · refine⟨hE.sys.trans ht.sys,hE.tape.trans ht.tape,hE.output.trans ht.output,Nat.le_trans ht.size hE.size,hE.Kv,fun b hb=>(hE.H3 b hb).trans (hF b hb),fun b hb h1 h2=>?_,fun i oi hi hoi=>?_⟩
    · have hne:b≠b0:=fun e=>h2 o (by simp) (.inl (by rw[e];exact hb0))
      have hnm:¬ o.more b:=fun hm=>h2 o (by simp) (.inr hm)
      obtain⟨f1,f2,f3⟩:=hE.other b (Nat.lt_of_lt_of_le hb ht.size) h1 (fun q hq hob=>by
        rcases List.mem_cons.1 hq with rfl | hq
        · rcases hob with hob | hob
          · simp only[Option.some.injEq] at hob;exact hne hob.symm
          · exact hnm hob
        · exact h2 q (by simp[hq]) hob)
      refine⟨f1.trans (ht.E6 b hb (fun e=>hne (by cases e;rfl))),f2,fun q hq hob=>?_⟩
      simp only[List.mem_singleton] at hq
      subst hq
      exact f3 o' (by simp) hob
    · match i,hoi with
      | 0,hoi=>
        simp only[List.getElem?_cons_zero,Option.some.injEq] at hoi
        subst hoi
        exact⟨_,rfl,by rw[hrow];exact Nat.le_refl _,by rw[hrow],fun _=>⟨by rw[hb0];exact e4,e5,by rw[hrow]⟩⟩
      | _+1,_=>omega
theorem Sg {t ty:TypeId} {ei:UQ} {g:Nat} {xs:List (List AV)} {ys:List (List AV)} {y:AV} {ux ud:Value} (hr:Rel F os s a w) {rst:List Row} (hst:s.st=⟨g,ei.e,ei.size,xs⟩ :: rst) (hrst :∀row∈rst,DA row.xs) (he:Ct P t=some ei)
    (hd:Ak F w os (.own 0 g xs.length) ud) (hx:Ak F w os y ux) (hel:EL s.st y ys) (hys :∀z∈ys,z.length=ei.size) (hp:DA (xs ++ ys)) (hne:ys≠[]) (hb:(xs.length+ys.length) * ei.bytes≤140737488355328) (hm:xs.length+ys.length≤9223372036854775807) :
    ∃o ros u w',os=o :: ros∧o.row=⟨g,ei.e,ei.size,xs⟩∧(Builtin.append_ #[t,t] ty #[ud,ux]).run P w=.ok u w'∧
      ((∃b0,o.Ex=some b0∧¬ F b0∧E8 w w' (some b0)∧Rel F (⟨⟨g,ei.e,ei.size,xs ++ ys⟩,some b0,o.cap,o.more⟩ :: ros) ⟨s.n,fun t=>Xg (s.env t),⟨g,ei.e,ei.size,xs ++ ys⟩ :: rst⟩ a w'∧
          u=.slice (some ⟨b0,0,none⟩) (xs.length+ys.length) o.cap)∨
       (∃cap,Rel F (os ++ [⟨⟨0,ei.e,ei.size,xs ++ ys⟩,some w.heap.size,cap,Fj⟩]) { s with st:=s.st ++ [⟨0,ei.e,ei.size,xs ++ ys⟩] } a w'∧Ext F os w F (os ++ [⟨⟨0,ei.e,ei.size,xs ++ ys⟩,some w.heap.size,cap,Fj⟩]) w' k∧
          u=.slice (some ⟨w.heap.size,0,none⟩) (xs.length+ys.length) cap)):=by
  obtain⟨inf,z,hu,hi,hz,hzs,hpos,hsz,hby,_,_⟩:=FE he
  obtain⟨ys',h,hys',hylf,⟨ad,c,rfl,hsrc⟩⟩:=QI (size:=ei.size) (K:=fun z=>z=ys) hr (hel _ ⟨hys,rfl⟩) hx
  subst h
  have hos :∃o ros,os=o :: ros∧o.row=⟨g,ei.e,ei.size,xs⟩∧ros.map Own.row=rst:=by
    have:=hr.st
    rw[hst] at this
    cases os with
    | nil=>cases this
    | cons o ros=>
      simp only[List.map_cons,List.cons.injEq] at this
      exact⟨o,ros,rfl,this.1,this.2⟩
  obtain⟨o,ros,rfl,hrow,hros⟩:=hos
  have hylf :∀y∈ys',∀c∈y,c.leaf=true:=by
    rcases hylf with e | h
    · exact absurd e hne
    · exact h
  have hylen:0 < ys'.length:=List.length_pos_iff.2 hne
  have hnews :∃b off,ad=some ⟨b,off,none⟩∧∃us:List Value,us.length=ys'.length * inf.size∧(∀(j:Nat) u,us[j]?=some u→w.cell? ((⟨b,off,none⟩:Addr).add j)=some u)∧(∀u∈us,u.oneCell'=true)∧E1 F w (o :: ros) ei.size us ys':=by
    rcases hsrc with e | ⟨b,off,rfl,hc⟩
    · exact absurd e hne
    · obtain⟨us,h1,h2,h3,h4⟩:=MG hys' hc
      exact⟨b,off,rfl,us,by rw[h1,hsz],h2,h3,h1,fun i y hy j c hc=>by obtain⟨u,e1,_,e2⟩:=h4 i y hy j c hc;exact⟨u,e1,e2⟩⟩
  obtain⟨b,off,rfl,us,hul,hcell,hone,hrep⟩:=hnews
  have hok:=hr.rows 0 o rfl
  have hxlf:=NR (xs:=xs) (fun x hx=>hp x (List.mem_append_left _ hx)) hok (by rw[hrow])
  have hlens :∀x∈xs ++ ys',x.length=ei.size∧∀c∈x,c.leaf=true:=fun x hx=>by
    rcases List.mem_append.1 hx with h | h
    · have:=(hok.lens x (by rw[hrow];exact h)).1;rw[hrow] at this;exact⟨this,hxlf x h⟩
    · exact⟨hys' x h,hylf x h⟩
  have hgrow :∀(cap:Nat) (olds:List Value),E1 F w (o :: ros) ei.size olds xs→xs.length+ys'.length≤cap→cap≤maxLen→
      Rel F ((o :: ros) ++ [⟨⟨0,ei.e,ei.size,xs ++ ys'⟩,some w.heap.size,cap,Fj⟩]) { s with st:=s.st ++ [⟨0,ei.e,ei.size,xs ++ ys'⟩] } a (w.drew.alloc (.cells (olds.toArray ++ us.toArray ++ Builtin.zeroCells z.cells (cap - (xs.length+ys'.length))) ei.e))∧
      Ext F (o :: ros) w F ((o :: ros) ++ [⟨⟨0,ei.e,ei.size,xs ++ ys'⟩,some w.heap.size,cap,Fj⟩]) (w.drew.alloc (.cells (olds.toArray ++ us.toArray ++ Builtin.zeroCells z.cells (cap - (xs.length+ys'.length))) ei.e)) k:=fun cap olds hold hcap hmax=>by
    obtain⟨e1,e2⟩:=Ko (F:=F) (w:=w) (os:=o :: ros) (z:=z) (size:=ei.size) (n:=xs.length) (m:=ys'.length) (cap:=cap) (by rw[hzs,hsz]) rfl rfl hold hrep hcap
    have:=hr.Km (k:=k) (.inr rfl) (cur:=_) (e:=ei.e) (size:=ei.size) (cap:=cap) (xs:=xs ++ ys') (by omega) hlens e1 (by simpa using hcap) hmax (fun i x hx j c hc=>e2 i x hx j c hc)
    exact⟨this.1,this.2.1⟩
  have hge:=grownCap_ge w (xs.length+ys'.length)
  have hlem:=grownCap_le_maxLen w (xs.length+ys'.length)
  simp only[Ak] at hd
  obtain⟨o',ho',_,_,hd⟩:=hd
  simp only[List.getElem?_cons_zero,Option.some.injEq] at ho'
  subst ho'
  obtain⟨_,hd⟩:=hd (by rw[hrow])
  rw[hrow] at hd
  simp only[Nat.sub_self,Nat.zero_mul,Nat.sub_zero] at hd
  rcases hd with ⟨hbn,a0,rfl⟩ | ⟨b0,hbs,rfl⟩
  · have hn0:=(hok.none hbn).1
    rw[hrow] at hn0
    dsimp only at hn0
    subst hn0
    have hrun:(Builtin.append_ #[t,t] ty #[.slice a0 0 0,.slice (some ⟨b,off,none⟩) ys'.length c]).run P w=.ok (.slice (some ⟨w.heap.size,0,none⟩) (0+ys'.length) (grownCap w (0+ys'.length) 0 ei.e))
        (w.drew.alloc (.cells (([]:List Value).toArray ++ us.toArray ++ Builtin.zeroCells z.cells (grownCap w (0+ys'.length) 0 ei.e - (0+ys'.length))) ei.e)):=by
      cases a0 with
      | none=>
        have:=run_append_nil (P:=P) w t ty ei.e inf z hu hi hz ⟨b,off,none⟩ ys'.length c us hul hcell (by omega) (by simp at hm;omega) (by rw[← hby];simp at hb;omega)
        simpa using this
      | some a0=>
        have:=run_append_grow (P:=P) w t ty ei.e inf z hu hi hz a0 0 0 [] (by simp) (by simp) ⟨b,off,none⟩ ys'.length c us hul hcell (by omega) (by omega) (growslice_fits (by simp at hm;omega) (by rw[← hby];simpa using hb))
        simpa using this
    have hgg:=hgrow (grownCap w (0+ys'.length) 0 ei.e) [] (by simp[E1]) (by simpa using hge 0 ei.e) (by simpa using hlem 0 ei.e (by simp[maxLen] at hm ⊢;omega))
    exact⟨o,ros,_,_,rfl,hrow,hrun,.inr ⟨_,hgg.1,hgg.2,rfl⟩⟩
  · obtain⟨hnF,cur,hcur,hcs,hlc,hmaxc,hcells⟩:=hok.some b0 hbs
    rw[hrow] at hcur hcs hlc hcells
    dsimp only at hcur hcs hlc hcells
    by_cases hroom:xs.length+ys'.length≤o.cap
    · have hfit:xs.length * inf.size+us.length≤cur.size:=by rw[hul,hcs,hsz,← Nat.add_mul];exact Nat.mul_le_mul_right _ hroom
      have hrun:=run_append_room (P:=P) w t ty ei.e inf hu hi b0 xs.length o.cap cur hcur ⟨b,off,none⟩ ys'.length c us hul hcell hone hroom hfit
      have hT:=E8.setRow w b0 (cur.toList.take (xs.length * inf.size) ++ us ++ cur.toList.drop (xs.length * inf.size+us.length)).toArray
      have hF :∀g,F g→(w.setRow b0 (cur.toList.take (xs.length * inf.size) ++ us ++ cur.toList.drop (xs.length * inf.size+us.length)).toArray).heap[g]?=w.heap[g]?:=fun g hg=>hT.E6 g (hr.E6 g hg) (fun e=>hnF (by cases e;exact hg))
      refine⟨o,ros,_,_,rfl,hrow,hrun,.inl ⟨b0,hbs,hnF,hT,⟨by simp only[List.map_cons,hros],fun t=>Wc (fun _ h=>h) hF (hr.env t),hr.size,fun i oi hi=>?_,fun i j oi oj b hi hj hbi hbj=>?_,fun g hg=>Nat.lt_of_lt_of_le (hr.E6 g hg) hT.size,hr.defers⟩,rfl⟩⟩
      · match i,hi with
        | 0,hi=>
          simp only[List.getElem?_cons_zero,Option.some.injEq] at hi
          subst hi
          have hcm :∀c u,simple c=true→Ak F w (o :: ros) c u→∀os',Ak F (w.setRow b0 (cur.toList.take (xs.length * inf.size) ++ us ++ cur.toList.drop (xs.length * inf.size+us.length)).toArray) os' c u:=fun c u hc h os'=>
            EM hc os' (Da (fun _ h=>h) hF [] [] (by simp) c u (EM hc [] h))
          refine⟨by have:=hok.pos;rw[hrow] at this;exact this,fun x hx=>⟨(hlens x hx).1,fun c hc=>CP ((hlens x hx).2 c hc)⟩,fun hn=>(by cases hn),fun b' hb'=>?_,fun g hg=>⟨(hok.mo g hg).1,by simpa using (hok.mo g hg).2.1,by rw[← hbs];exact (hok.mo g hg).2.2⟩,EU fun x hx c hc=>(hlens x hx).2 c hc⟩
          simp only[Option.some.injEq] at hb'
          subst hb'
          refine⟨hnF,_,setRow_heap w b0 cur _ _ _ hcur,?_,by simpa using hroom,hmaxc,fun i y hy j c hc=>?_⟩
          · simp only[List.size_toArray,List.length_append,List.length_take,List.length_drop,Array.length_toList] at hfit ⊢
            rw[← hcs];omega
          · simp only at hy ⊢
            rw[Hl hfit]
            by_cases hin:i < xs.length
            · rw[List.getElem?_append_left hin] at hy
              obtain⟨u,f1,f2⟩:=hcells i y hy j c hc
              have hjl:j < ei.size:=by rw[← (hlens y (List.mem_append_left _ (List.mem_of_getElem? hy))).1];exact (List.getElem?_eq_some_iff.1 hc).1
              have:(i+1) * ei.size≤xs.length * ei.size:=Nat.mul_le_mul_right _ hin
              rw[Nat.add_mul] at this
              refine⟨u,?_,hcm c u (hp y (List.mem_append_left _ (List.mem_of_getElem? hy)) c (List.mem_of_getElem? hc)) f2 _⟩
              rw[if_pos (by rw[← hsz];omega)];exact f1
            · rw[List.getElem?_append_right (by omega)] at hy
              obtain⟨u,f1,f2⟩:=hrep.2 _ y hy j c hc
              refine⟨u,?_,hcm c u (hp y (List.mem_append_right _ (List.mem_of_getElem? hy)) c (List.mem_of_getElem? hc)) f2 _⟩
              have hlt:=(List.getElem?_eq_some_iff.1 f1).1
              have h3:xs.length * ei.size≤i * ei.size:=Nat.mul_le_mul_right _ (by omega)
              rw[Nat.sub_mul] at f1 hlt
              rw[if_neg (by rw[← hsz];omega),if_pos (by rw[← hsz];omega),← f1]
              congr 1
              rw[← hsz];omega
        | i+1,hi=>
          simp only[List.getElem?_cons_succ] at hi
          have hoi:=hr.rows (i+1) oi (by simpa using hi)
          have hpi:DA oi.row.xs:=hrst oi.row (by rw[← hros];exact List.mem_map_of_mem (List.mem_of_getElem? hi))
          have hlfi:=NR hpi hoi rfl
          have hni :∀b,oi.owns b→b≠b0:=fun b hb e=>by
            have:=hr.inj (i+1) 0 oi o b (by simpa using hi) rfl hb (.inl (by rw[e];exact hbs))
            omega
          refine⟨hoi.pos,hoi.lens,hoi.none,fun b hb=>?_,fun b hb=>⟨(hoi.mo b hb).1,Nat.lt_of_lt_of_le (hoi.mo b hb).2.1 hT.size,(hoi.mo b hb).2.2⟩,EU hlfi⟩
          obtain⟨f1,cur',f2,f3,f4,f5,f6⟩:=hoi.some b hb
          refine⟨f1,cur',?_,f3,f4,f5,fun i' x hx j c hc=>?_⟩
          · rw[hT.E6 b (hoi.lt (.inl hb)) (fun e=>hni b (.inl hb) (by cases e;rfl))];exact f2
          · obtain⟨u,g1,g2⟩:=f6 i' x hx j c hc
            have hc':=hpi x (List.mem_of_getElem? hx) c (List.mem_of_getElem? hc)
            exact⟨u,g1,EM hc' _ (Da (fun _ h=>h) hF [] [] (by simp) c u (EM hc' [] g2))⟩
      · have key :∀(i:Nat) oi b,((⟨⟨g,ei.e,ei.size,xs ++ ys'⟩,some b0,o.cap,o.more⟩:Own) :: ros)[i]?=some oi→oi.owns b→∃oi',(o :: ros)[i]?=some oi'∧oi'.owns b:=fun i oi b hi hb=>by
          cases i with
          | zero=>
            simp only[List.getElem?_cons_zero,Option.some.injEq] at hi
            subst hi
            exact⟨o,rfl,hb.imp (fun hb=>by rw[hbs];exact hb) id⟩
          | succ i=>exact⟨oi,hi,hb⟩
        obtain⟨oi',q1,q2⟩:=key i oi b hi hbi
        obtain⟨oj',q3,q4⟩:=key j oj b hj hbj
        exact hr.inj i j oi' oj' b q1 q3 q2 q4
    · have hold :∀(i:Nat) y,xs[i]?=some y→Jc F w (o :: ros) b0 (0+i * ei.size) y:=fun i y hy=>by
        have:=hr.MI (id:=0) (o:=o) rfl hbs (i:=i) (x:=y) (by rw[hrow];exact hy)
        rw[hrow] at this;simpa using this
      obtain⟨olds,h1,h2,_,h4⟩:=MG (fun x hx=>(hlens x (List.mem_append_left _ hx)).1) hold
      have hrun:=run_append_grow (P:=P) w t ty ei.e inf z hu hi hz ⟨b0,0,none⟩ xs.length o.cap olds (by rw[h1,hsz]) h2 ⟨b,off,none⟩ ys'.length c us hul hcell (by omega) (by omega) (growslice_fits (by omega) (by rw[← hby];exact hb))
      have hgg:=hgrow (grownCap w (xs.length+ys'.length) o.cap ei.e) olds ⟨h1,fun i y hy j c hc=>by obtain⟨u,f1,_,f2⟩:=h4 i y hy j c hc;exact⟨u,f1,f2⟩⟩ (hge o.cap ei.e) (hlem o.cap ei.e (by simp[maxLen];omega))
      exact⟨o,ros,_,_,rfl,hrow,hrun,.inr ⟨_,hgg.1,hgg.2,rfl⟩⟩
section
variable {P : Program} {ops : Array Oper} {Q : Exit → St → Prop} {n N f i : Nat} {listed listed' : Array Bool} {e : Nat → AV} {ty : TypeId} {p : String} {ed : Array Edge} {t : Tmp} {α : Type} {l l2 l' : List α} {enc : α → List AV} {x y : Operand} {g m size bytes : Nat} {el : TypeId} {zz : List AV} {T : TypeId} {rst : List Row} {k : Nat}
theorem AK (h:listed=listed') {s:St} (ha:AX P k ops Q N f listed s):AX P k ops Q N f listed' s:=h ▸ ha
theorem AX.two (row row':Row) {s:St} (h :∀A A':Nat→Array Bool→St→Prop,(∀f l s,A f l s↔AX P k ops Q N f l s)→(∀f l s,A' f l s↔AX P k ops (U3 row row' Q) N f l s)→A f listed s):AX P k ops Q N f listed s:=
  h (AX P k ops Q N) (AX P k ops (U3 row row' Q) N) (fun _ _ _=>Iff.rfl) (fun _ _ _=>Iff.rfl)
theorem MQ {s:St} (h :∀A:Nat→Array Bool→St→Prop,(∀f l s,A f l s↔AX P k ops Q N f l s)→A f listed s):AX P k ops Q N f listed s:=
  h (AX P k ops Q N) (fun _ _ _=>Iff.rfl)
theorem FD {ys:AV} (ho:ops[i]?=some ⟨some t,.call ⟨.builtin .append,#[x,y],#[T,T]⟩,ty,p,ed,none⟩) (hod:De n (some t)=true) (he:Ct P T=some ⟨el,size,bytes,zz⟩) (hrst :∀row∈rst,DA row.xs) (hx:St.ev ⟨n,e,⟨g,el,size,l.map enc⟩ :: rst⟩ x=.own 0 g m) (hm:m=l.length) (hy:St.ev ⟨n,e,⟨g,el,size,l.map enc⟩ :: rst⟩ y=ys) (hel:EL (⟨g,el,size,l.map enc⟩ :: rst) ys (l2.map enc))
    (hl2:l2.isEmpty=false) (hs :∀a,(enc a).length=size) (hp :∀l:List α,DA (l.map enc)) (ha:Sh.app l l2 bytes=some l')
    (h1:AX P 1 ops (U3 ⟨g,el,size,l.map enc⟩ ⟨g,el,size,l'.map enc⟩ Q) N f (listed.setIfInBounds i true) ⟨n,Ds (fun t=>Xg (e t)) t (.own 0 g l'.length),⟨g,el,size,l'.map enc⟩ :: rst⟩)
    (h2:AX P 1 ops Q N f (listed.setIfInBounds i true) ⟨n,Ds e t (.own (rst.length+1) 0 l'.length),⟨g,el,size,l.map enc⟩ :: (rst ++ [⟨0,el,size,l'.map enc⟩])⟩) :
    Au P 1 ops Q N f listed ⟨n,e,⟨g,el,size,l.map enc⟩ :: rst⟩ i:=by
  subst hm
  unfold Sh.app at ha
  split at ha
  case isFalse=>cases ha
  rename_i hbd
  simp only[Option.some.injEq] at ha
  subst ha
  intro F0 os0 w0 F os a w hr he0
  have hxr:=hr.ev x
  rw[hx] at hxr
  have hyr:=hr.ev y
  rw[hy] at hyr
  have hpp:=hp (l ++ l2)
  rw[List.map_append] at hpp h1 h2
  obtain⟨o,ros,u,w',rfl,hrow,hrun,hA⟩:=Sg (k:=1) (ty:=ty) (ei:=⟨el,size,bytes,zz⟩) (g:=g) (xs:=l.map enc) (ys:=l2.map enc) hr rfl hrst he (by simpa using hxr) hyr hel
    (fun z hz=>by obtain⟨q,_,rfl⟩:=List.mem_map.1 hz;exact hs q) hpp (by intro e;rw[List.map_eq_nil_iff] at e;rw[e] at hl2;cases hl2) (by simpa using hbd.1) (by simpa using hbd.2)
  unfold wpOp
  simp only[ho]
  rw[if_pos (by rfl)]
  refine .inl ?_
  unfold Oper.wp
  simp only[execOp,resolve,invoke,builtin,Sem.run_bind,Sem.run_pure,Result.andThen_ok,List.map_toArray,List.map_cons,List.map_nil,hrun,Oper.upon]
  rcases hA with ⟨b0,hbs,hnF,hT,hR,rfl⟩ | ⟨cap,hR,hE,rfl⟩
  · have h3:=h1.2 F _ w' F _ _ w' (hR.put (d:=some t) hod (v:=.own 0 g (l ++ l2).length) (u:=.slice (some ⟨b0,0,none⟩) ((l.map enc).length+(l2.map enc).length) o.cap) (by
      simp only[Ak]
      exact⟨_,rfl,Nat.le_refl _,⟨_,_,_,rfl⟩,fun _=>⟨by simp,.inr ⟨b0,rfl,by simp⟩⟩⟩)) (Ext.refl _ _ _ _)
    refine N9 (fun c a'' w'' hp=>?_) (fun hl=>?_) (fun a'' w'' hp=>?_) _ h3
    · obtain⟨_,_,_,h4,_⟩:=hp;exact nomatch h4.1
    · obtain⟨_,_,h4,_⟩:=hl;exact nomatch h4
    obtain⟨s',F',os',⟨h4,h5⟩,h6,h7⟩:=hp
    obtain⟨s2,F2,os2,h8,h9,h10⟩:=Vd (Q:=fun e s=>e=.normal∧Q e s) hpp hrow hbs hnF hT ⟨s',F',os',⟨h5.1,h4,h5.2⟩,h6,h7⟩ hr.E6
    exact⟨s2,F2,os2,h8,h9,he0.trans h10⟩
  · refine h2.2 F0 os0 w0 F _ _ w' ?_ (he0.trans hE)
    have hlen:ros.length=rst.length:=by
      have:=hr.st
      simp only[List.map_cons,List.cons.injEq] at this
      rw[← this.2,List.length_map]
    refine hR.put (d:=some t) hod (v:=.own (rst.length+1) 0 (l ++ l2).length) ?_
    simp only[Ak]
    exact⟨⟨⟨0,el,size,l.map enc ++ l2.map enc⟩,some w.heap.size,cap,Fj⟩,by rw[← hlen];simp,Nat.le_refl _,⟨_,_,_,rfl⟩,fun _=>⟨by simp,.inr ⟨_,rfl,by simp⟩⟩⟩
end
section
variable {P : Program} {ds : List (Option Tmp)} {r : List Oper} {KS : St → Prop} {n : Nat} {e : Nat → AV} {st : List Row} {ty : TypeId} {ps : String} {ed : Array Edge} {t : Tmp} {gd : Option (Nat × Bool)} {α : Type} {l l' : List α} {enc : α → List AV} {x : Operand} {size bytes : Nat} {el T : TypeId} {zz : List AV}
theorem T4 {lo hi:Option Operand} {i j:Int} (hg:GO ds gd e) (he:Ct P T=some ⟨el,size,bytes,zz⟩) (hx:St.ev ⟨n,e,st⟩ x=.sl (l.map enc)) (h1:Oz (lo.map (St.ev ⟨n,e,st⟩)) 0=some i) (h2:Oz (hi.map (St.ev ⟨n,e,st⟩)) l.length=some j) (hs :∀a,(enc a).length=size) (hl:Sh.sl l i j=some l')
    (hk:Cw P (ds ++ [some t]) r KS ⟨n,Ds e t (.sl (l'.map enc)),st⟩):Cw P ds (⟨some t,.slice T x lo hi none,ty,ps,ed,gd⟩ :: r) KS ⟨n,e,st⟩:=by
  refine Vh hg rfl (fun s0 e1 e2 hd k F os a w hr next Q hn=>?_) hk
  refine IQ (k:=k) (K:=(·=s0.put (some t) (.sl (l'.map enc)))) hr hd ?_ hn
  show Pu P s0.st T (s0.ev x) (lo.map s0.ev) (hi.map s0.ev) (Option.map s0.ev none) (fun v st=>({ s0 with st:=st }:St).put (some t) v=s0.put (some t) (.sl (l'.map enc)))
  have ex:s0.ev x=St.ev ⟨n,e,st⟩ x:=e2 x (by simp[Op.operands])
  have elo:lo.map s0.ev=lo.map (St.ev ⟨n,e,st⟩):=by
    cases lo with
    | none=>rfl
    | some y=>simp only[Option.map_some];rw[e2 y (by simp[Op.operands])]
  have ehi:hi.map s0.ev=hi.map (St.ev ⟨n,e,st⟩):=by
    cases hi with
    | none=>rfl
    | some y=>simp only[Option.map_some];rw[e2 y (by simp[Op.operands])]
  rw[ex,elo,ehi,hx]
  unfold Sh.sl at hl
  split at hl
  · rename_i h
    simp only[Option.some.injEq] at hl
    subst hl
    refine Ao _ he (Ao _ h1 (Ao _ (by rw[List.length_map];exact h2) ⟨h.1,h.2.1,by simpa using h.2.2,fun z hz=>?_,?_⟩))
    · obtain⟨q,_,rfl⟩:=List.mem_map.1 hz;exact hs q
    · rw[List.map_drop,List.map_take]
  · cases hl
theorem Qo {f:FuncId} {ars:Array Operand} {ts:Array TypeId} {args args':List AV} {rowsP rows0 rows1 rows1':List Row} {v v':AV} (An:List Nat) (hg:GO ds gd e) (hb:Aq P f=true) (hc:Ai P f args' rows0 fun r st=>r=v∧st=rows1) (ha:ars.toList.map (St.ev ⟨n,e,st⟩) ++ []=args) (hnd:An.Nodup) (hlt:An.all (· < st.length)=true)
    (hp:Bv st An=rowsP) (hs:SR An rowsP rows0) (hf:args.map (IC An)=args') (hlen:rows1.length=An.length) (h1:UN An st.length rows1 rows1') (hv:O2 An st.length v=v') (hst':Eg An rows1' 0 st=st)
    (hk:Cw P (ds ++ [some t]) r KS ⟨n,Ds e t v',st⟩):Cw P ds (⟨some t,.call ⟨.value (.func f),ars,ts⟩,ty,ps,ed,gd⟩ :: r) KS ⟨n,e,st⟩:=by
  subst ha;subst hv;subst hp
  refine Vh hg rfl (fun s0 e1 e2 hd k F os a w hr next Q hn=>?_) hk
  refine IQ (k:=k) (K:=(·=s0.put (some t) (O2 An st.length v))) hr hd ?_ hn
  show Aq P f=true∧callThen P k s0 f (ars.toList.map s0.ev ++ []) (some t) _
  rw[Nc e2]
  refine⟨hb,IA fun hle=>?_⟩
  subst e1
  obtain⟨e1,e3⟩:=hs.spec (st0:=s0.st) hle (fun row hrow=>by
    obtain⟨i,_,hi⟩:=List.mem_filterMap.1 hrow
    exact List.mem_of_getElem? hi)
  refine Ib (rows2:=[]) An (by simpa using hc) hnd (fun i hi=>by simpa using List.all_eq_true.1 hlt i hi) e1 e3 hf hlen (fun row hrow=>by
    rw[List.append_nil] at hrow
    exact h1.leaf row hrow) fun _=>?_
  simp only[h1.spec,List.map_nil,List.append_nil,hst']
end
end Go.Abs



namespace Go.Abs
open Go
section
variable {P : Program} {k : Nat} {ops : Array Oper} {Q : Exit → St → Prop} {ds : List (Option Tmp)} {r : List Oper} {n : Nat} {e : Nat → AV} {st st' : List Row} {ty : TypeId} {p : String} {ed : Array Edge} {t : Tmp} {x y : Operand} {size bytes m : Nat} {el T Tn : TypeId} {zz : List AV} {α : Type} {enc : α → List AV} {u : α} {l' : List α} {kk : IntKind} {j : Int} {v : AV} {o : Oper}
theorem UX (hn:o.guard=none) (h :∀F os a w,Rel F os ⟨n,e,st⟩ a w→∃z w' F' os',(execOp a.eval o).run P w=.ok (.value z) w'∧Rel F' os' ⟨n,e,st'⟩ a w'∧Ak F' w' os' v z∧Ext F os w F' os' w' k)
  (hk:AO P k ops Q (ds ++ [o.dst]) r (St.put ⟨n,e,st'⟩ o.dst v)):AO P k ops Q ds (o :: r) ⟨n,e,st⟩:=by
 intro hl hds hdst F os a w hr Q' hQ
 have ho:ops[ds.length]?=some o:=by have:=hl 0;simpa using this.symm
 have hod:De n o.dst=true:=hdst o (by have:=List.mem_of_getElem? (l:=ops.toList) (i:=ds.length) (by simpa using ho);exact this)
 have hl' :∀(j:Nat),r[j]?=ops[(ds ++ [o.dst]).length+j]?:=fun j=>by
  have:=hl (j+1)
  simp only[List.getElem?_cons_succ] at this
  rw[this];congr 1;simp;omega
 have hds' :∀(j:Nat) d,(ds ++ [o.dst])[j]?=some d→(ops[j]?).map (·.dst)=some d:=fun j d hj=>by
  rcases Nat.lt_trichotomy j ds.length with h1 | h1 | h1
  ·rw[List.getElem?_append_left h1] at hj;exact hds j d hj
  ·subst h1;rw[Gs,Option.some.injEq] at hj;rw[ho];simp[hj]
  ·rw[List.getElem?_eq_none (by simp;omega)] at hj;cases hj
 obtain⟨z,w',F',os',h1,h2,h3,h4⟩:=h F os a w hr
 unfold wpList
 rw[if_pos (by unfold Region.wanted;rw[hn])]
 refine .inl ?_
 unfold Oper.wp
 rw[h1]
 simp only[Oper.upon]
 refine hk hl' hds' (by cases o.dst <;> exact hdst) F' os' _ w' (h2.put hod h3) Q' fun _ _ _ hp=>hQ _ _ _ (hp.trans h4)
theorem TL (hs:DG P T=true) (hx:St.ev ⟨n,e,st⟩ x=.zc) (hk:AO P k ops Q (ds ++ [some t]) r ⟨n,Ds e t (i64 0),st⟩) :
  AO P k ops Q ds (⟨some t,.call ⟨.builtin .cap,#[x],#[T]⟩,ty,p,ed,none⟩ :: r) ⟨n,e,st⟩:=by
 refine UX rfl (st':=st) (v:=i64 0) (fun F os a w hr=>?_) hk
 have h1:=hr.ev x
 rw[hx] at h1
 simp only[Ak] at h1
 obtain⟨ad,h1⟩:=h1
 unfold DG at hs
 split at hs
 case h_2=>cases hs
 rename_i el hu
 refine⟨.int .i64 0,w,F,os,?_,hr,by simp[Ak],Ext.refl _ _ _ _⟩
 simp only[execOp,resolve,invoke,builtin,Sem.run_bind,Sem.run_pure,Result.andThen_ok,List.map_toArray,List.map_cons,List.map_nil,h1,Builtin.cap_]
 simp[run_underlying hu,goInt]
theorem XO {hi:Option Operand} (he:Ct P T=some ⟨el,size,bytes,zz⟩) (hx:St.ev ⟨n,e,st⟩ x=.zc) (h2:Oz (hi.map (St.ev ⟨n,e,st⟩)) 0=some 0)
  (hk:AO P k ops Q (ds ++ [some t]) r ⟨n,Ds e t .zc,st⟩):AO P k ops Q ds (⟨some t,.slice T x none hi none,ty,p,ed,none⟩ :: r) ⟨n,e,st⟩:=by
 refine Jt AM ?_
 rw[O4]
 simp only[Option.map_none]
 rw[hx]
 exact Ao _ he (Ao _ rfl (Ao _ h2 ⟨rfl,rfl,hk⟩))
theorem Wz {kn:IntKind} (he:Ct P T=some ⟨el,size,bytes,zz⟩) (hn:P.underlying Tn=some (.int kn)) (hx:St.ev ⟨n,e,st⟩ x=.zc) (hy:St.ev ⟨n,e,st⟩ y=.int kk j) (h0:decide (0 < j)=true) (hz:enc u=zz) (hj:Sh.mk u j bytes=some l') (hm:st.length=m) (hst:st ++ [⟨0,el,size,l'.map enc⟩]=st')
  (hk:AO P k ops Q (ds ++ [some t]) r ⟨n,Ds e t (.own m 0 l'.length),st'⟩):AO P k ops Q ds (⟨some t,.call ⟨.builtin .append,#[x,y],#[T,Tn]⟩,ty,p,ed,none⟩ :: r) ⟨n,e,st⟩:=by
 subst hm;subst hst;subst hz
 unfold Sh.mk at hj
 split at hj
 case isFalse=>cases hj
 rename_i hbd
 simp only[Option.some.injEq] at hj
 subst hj
 refine UX rfl (st':=st ++ [(⟨0,el,size,(List.replicate j.toNat u).map enc⟩:Row)]) (v:=.own st.length 0 (List.replicate j.toNat u).length) (fun F os a w hr=>?_) hk
 have h1:=hr.ev x
 rw[hx] at h1
 simp only[Ak] at h1
 obtain⟨ad,h1⟩:=h1
 have h2:=hr.ev y
 rw[hy] at h2
 simp only[Ak] at h2
 obtain⟨inf,z,hu,hi,hz,hzs,hpos,hsz,hby,hzz,hlf⟩:=FE he
 dsimp only at hu hi hzs hpos hsz hby hzz hlf
 have hj0:0 < j:=of_decide_eq_true h0
 obtain⟨q,rfl⟩:=Int.eq_ofNat_of_zero_le (Int.le_of_lt hj0)
 rw[Int.toNat_natCast]
 have hq0:0 < q:=by omega
 have hq48:q * inf.bytes≤281474976710656:=by
  have h9:((q * bytes:Nat):Int)≤281474976710656:=by rw[Int.natCast_mul];exact hbd.2.1
  rw[← hby];omega
 have hold:(Builtin.firstCells inf.size 0 (.slice ad 0 0)).run P w.drew=.ok ([]:List Value).toArray w.drew:=by
  cases ad with
  | none=>exact run_firstCells_none w.drew inf.size 0 0 0
  | some ad=>exact run_firstCells_some w.drew inf.size 0 ad 0 0 [] (by simp) (by simp)
 have hfit:Builtin.nextslicecap (0+q) 0 * inf.bytes≤281474976710656:=by rw[Nat.zero_add,nextslicecap_zero hq0];exact hq48
 have hrun:=Lib.run_append_grow_zeros (P:=P) w T Tn ty el inf z kk kn hu hn hi hz ad 0 0 [] hold q hq0 (by omega) (by omega) (by omega) hq48 hfit
 rw[Nat.zero_add] at hrun
 have hge:=grownCap_ge w q 0 el
 have hle:=grownCap_le_maxLen w q 0 el (by unfold maxLen;omega)
 have hzc :∀i,i < z.cells.size→∃c',z.cells[i]?=some c':=fun i hi=>⟨_,Array.getElem?_eq_getElem hi⟩
 have hadd:=hr.Km (k:=k) (.inr rfl) (cur:=([]:List Value).toArray ++ Builtin.zeroCells z.cells q ++ Builtin.zeroCells z.cells (grownCap w q 0 el - q)) (e:=el) (size:=size) (cap:=grownCap w q 0 el) (xs:=(List.replicate q u).map enc)
  (by omega) (fun x hx=>by
   rw[List.map_replicate] at hx
   rw[List.eq_of_mem_replicate hx,hzz]
   refine⟨by simp[hzs,hsz],fun c hc=>hlf c (by rw[hzz];exact hc)⟩)
  (by
   simp only[Array.size_append,List.size_toArray,List.length_nil,size_zeroCells,hzs,hsz,Nat.zero_add,← Nat.add_mul]
   congr 1;omega)
  (by rw[List.length_map,List.length_replicate];omega) hle (fun i x hx jj c hc=>by
   rw[List.map_replicate] at hx
   have hi:i < q:=by
    have:=(List.getElem?_eq_some_iff.1 hx).1
    simpa using this
   have hx':x=enc u:=List.eq_of_mem_replicate (List.mem_of_getElem? hx)
   subst hx'
   rw[hzz] at hc
   simp only[List.getElem?_map,Option.map_eq_some_iff,Array.getElem?_toList] at hc
   obtain⟨c',hc1,rfl⟩:=hc
   have hjl:jj < z.cells.size:=(Array.getElem?_eq_some_iff.1 hc1).1
   refine⟨c',?_,I3 F w os c'⟩
   have hlt:i * size+jj < q * size:=by
    have:(i+1) * size≤q * size:=Nat.mul_le_mul_right _ hi
    rw[Nat.add_mul] at this
    omega
   rw[Array.append_assoc,show (([]:List Value).toArray ++ (Builtin.zeroCells z.cells q ++ Builtin.zeroCells z.cells (grownCap w q 0 el - q)))=(Builtin.zeroCells z.cells q ++ Builtin.zeroCells z.cells (grownCap w q 0 el - q)) by simp]
   rw[Array.getElem?_append_left (by rw[size_zeroCells,hzs,← hsz];exact hlt)]
   unfold Builtin.zeroCells
   rw[Array.getElem?_map,Array.getElem?_range]
   rw[if_pos (by rw[hzs,← hsz];exact hlt)]
   simp only[Option.map_some,Option.some.injEq]
   have hmod:(i * size+jj) % z.cells.size=jj:=by
    rw[hzs,← hsz,Nat.mul_comm,Nat.mul_add_mod]
    exact Nat.mod_eq_of_lt (by omega)
   rw[hmod]
   simp[Array.getElem!_eq_getD,Array.getD,hjl,(Array.getElem?_eq_some_iff.1 hc1).2])
 refine⟨.slice (some ⟨w.heap.size,0,none⟩) q (grownCap w q 0 el),_,F,_,?_,hadd.1,?_,hadd.2.1⟩
 ·simp only[execOp,resolve,invoke,builtin,Sem.run_bind,Sem.run_pure,Result.andThen_ok,List.map_toArray,List.map_cons,List.map_nil,h1,h2]
  rw[hrun]
  simp
 ·simp only[Ak]
  have hlen:st.length=os.length:=hr.len
  exact⟨_,by rw[hlen];exact Gs _ _,Nat.le_refl _,⟨_,_,_,rfl⟩,fun _=>⟨by simp,.inr ⟨_,rfl,by simp⟩⟩⟩
end
section
variable {P : Program} {ds : List (Option Tmp)} {r : List Oper} {KS : St → Prop} {n : Nat} {e : Nat → AV} {st : List Row} {ty : TypeId} {ps : String} {ed : Array Edge} {t : Tmp} {gd : Option (Nat × Bool)} {α : Type} {l : List α} {enc : α → List AV} {u : α} {x y : Operand} {size bytes : Nat} {el T : TypeId} {zz : List AV} {kk kk' : IntKind} {j : Int}
theorem ZQ (hg:GO ds gd e) (he:Ct P T=some ⟨el,size,bytes,zz⟩) (hx:St.ev ⟨n,e,st⟩ x=.int kk j) (hy:St.ev ⟨n,e,st⟩ y=.int kk' j) (hz:enc u=zz) (hl:Sh.mk u j bytes=some l) (hpu:DA (l.map enc))
  (hk:Cw P (ds ++ [some t]) r KS ⟨n,Ds e t (.sl (l.map enc)),st⟩):Cw P ds (⟨some t,.makeSlice T x y,ty,ps,ed,gd⟩ :: r) KS ⟨n,e,st⟩:=by
 subst hz
 refine Vh hg rfl (fun s0 e1 e2 hd k F os a w hr next Q hn=>?_) hk
 have ex:s0.ev x=.int kk j:=(e2 x (by simp[Op.operands])).trans hx
 have ey:s0.ev y=.int kk' j:=(e2 y (by simp[Op.operands])).trans hy
 have hxr:=hr.ev x
 have hyr:=hr.ev y
 rw[ex] at hxr
 rw[ey] at hyr
 unfold Sh.mk at hl
 split at hl
 case isFalse=>cases hl
 rename_i h
 simp only[Option.some.injEq] at hl
 subst hl
 have h9:Fv P 0 F [] ⟨s0.n,fun _=>.D4,[]⟩ a w (Instr.makeSlice T (a.eval x) (a.eval y)) (fun z st=>z=.own 0 0 (List.replicate j.toNat u).length∧st=[⟨0,el,size,(List.replicate j.toNat u).map enc⟩]):=by
  refine Rp (l:=.int kk j) (c:=.int kk' j) hr.bare (Ao _ he ⟨rfl,h.1,h.2.1,h.2.2,?_⟩) (EM (x:=.int kk j) rfl [] hxr) (EM (x:=.int kk' j) rfl [] hyr)
  simp
 obtain⟨u',w',F',g1,g2,g3,g4⟩:=KU (k:=k) hr h9 (Qa hpu) rfl
 unfold Oper.wp
 simp only[execOp,Sem.run_bind,g1,Result.andThen_ok,Sem.run_pure,Oper.upon]
 exact hn _ _ (L5 (st':=s0.st) hd rfl g2 g3 g4)
end
theorem Dp {row:Row} {rst:List Row} (h:DA row.xs) (g :∀q∈rst,DA q.xs) :∀q∈row :: rst,DA q.xs:=fun q hq=>by
 rcases List.mem_cons.1 hq with rfl | hq
 ·exact h
 ·exact g q hq
section
variable {P : Program} {k : Nat} {ops : Array Oper} {Q : Exit → St → Prop} {ds : List (Option Tmp)} {r : List Oper} {n : Nat} {e : Nat → AV} {st st' : List Row} {ty : TypeId} {p : String} {ed : Array Edge} {t : Tmp} {x y : Operand} {size bytes m : Nat} {el T : TypeId} {zz : List AV} {kk kk' : IntKind} {c : Nat}
theorem VI (he:Ct P T=some ⟨el,size,bytes,zz⟩) (hx:St.ev ⟨n,e,st⟩ x=.int kk 0) (hy:St.ev ⟨n,e,st⟩ y=.int kk' (c:Int)) (hc:decide (c * bytes≤281474976710656∧c≤9223372036854775807)=true) (hm:st.length=m) (hst:st ++ [⟨0,el,size,[]⟩]=st')
  (hk:AO P k ops Q (ds ++ [some t]) r ⟨n,Ds e t (.own m 0 0),st'⟩):AO P k ops Q ds (⟨some t,.makeSlice T x y,ty,p,ed,none⟩ :: r) ⟨n,e,st⟩:=by
 subst hm;subst hst
 have hbd:=of_decide_eq_true hc
 refine UX rfl (st':=st ++ [(⟨0,el,size,[]⟩:Row)]) (v:=.own st.length 0 0) (fun F os a w hr=>?_) hk
 have h1:=hr.ev x
 rw[hx] at h1
 simp only[Ak] at h1
 have h2:=hr.ev y
 rw[hy] at h2
 simp only[Ak] at h2
 obtain⟨inf,z,hu,hi,hz,hzs,hpos,hsz,hby,hzz,hlf⟩:=FE he
 dsimp only at hu hi hzs hpos hsz hby hzz hlf
 have hrun:=run_make (P:=P) w T el inf z hu hi hz kk kk' 0 (c:Int) (by omega) (by omega) (by rw[← hby,← Int.natCast_mul,Nat.mul_comm];omega) (by omega)
 have hadd:=hr.Km (k:=k) (.inl rfl) (cur:=madeCells z.cells (c * inf.size)) (e:=el) (size:=size) (cap:=c) (xs:=[]) (by omega) (by simp) (by rw[size_madeCells,hsz]) (by simp) (by simp[maxLen];omega) (by simp)
 refine⟨.slice (some ⟨w.heap.size,0,none⟩) 0 c,_,F,_,?_,hadd.1,?_,hadd.2.1⟩
 ·simp only[execOp,Sem.run_bind,Sem.run_pure,Result.andThen_ok,h1,h2]
  rw[hrun]
  simp
 ·simp only[Ak]
  have hlen:st.length=os.length:=hr.len
  exact⟨_,by rw[hlen];exact Gs _ _,Nat.le_refl _,⟨_,_,_,rfl⟩,fun _=>⟨by simp,.inr ⟨_,rfl,by simp⟩⟩⟩
end
end Go.Abs



namespace Go.Abs
open Go
variable {P : Program} {n : Nat} {e : Nat → AV} {st : List Row} {t : Tmp} {ty : TypeId} {ps : String} {ed : Array Edge} {x : Operand}
end Go.Abs



namespace Go.Abs
open Go
section
variable {P : Program} {k : Nat} {ops : Array Oper} {Q : Exit → St → Prop} {N f i : Nat} {listed listed' : Array Bool} {s s' : St} {o : Oper}
end
section
variable {P : Program} {n : Nat} {e : Nat → AV} {st : List Row} {t : Tmp} {ty : TypeId} {ps : String} {ed : Array Edge} {x : Operand}
end
section
variable {P : Program} {k : Nat} {α : Type} {l : List α} {enc : α → List AV}
variable {ops : Array Oper} {Q : Exit → St → Prop} {ds : List (Option Tmp)} {r : List Oper} {n : Nat} {e : Nat → AV} {st st' : List Row} {ty : TypeId} {ps : String} {ed : Array Edge} {v : AV} {gd : Option (Nat × Bool)} {T : TypeId} {x y : Operand} {ag : Bool} {sz id g size off : Nat} {el : TypeId} {cs cs' : List AV} {c : α} {i : Int}
end
end Go.Abs



namespace Go.Abs
open Go
end Go.Abs



namespace Go.Abs
open Go
def Oo (size:Nat):Nat→List (Nat×AV)→List (List AV)→Prop
 | _,[],[]=>True
 | k,(i,v) :: r,c :: cs=>i=k∧IZ v=some c∧c.length=size∧Oo size (k+1) r cs
 | _,_,_=>False
theorem Oo.len {size:Nat} :∀{k:Nat} {pv:List (Nat×AV)} {css:List (List AV)},Oo size k pv css→pv.length=css.length∧∀c∈css,c.length=size
 | _,[],[],_=>⟨rfl,by simp⟩
 | k,(i,v) :: r,c :: cs,h=>by
  obtain⟨h1,h2⟩:=Oo.len h.2.2.2
  refine⟨by simp[h1],fun x hx=>?_⟩
  rcases List.mem_cons.1 hx with rfl | hx
  ·exact h.2.2.1
  ·exact h2 x hx
theorem PC {size:Nat} :∀(pv:List (Nat×AV)) (css:List (List AV)) (k:Nat) (pre rest:List AV),pre.length=k * size→rest.length=pv.length * size→Oo size k pv css→JJ (fun i=>some (i * size,size)) (pre ++ rest) pv=some (pre ++ css.flatten)
 | [],[],k,pre,rest,_,h2,_=>by
  have:rest=[]:=List.eq_nil_of_length_eq_zero (by simpa using h2)
  subst this;rfl
 | (i,v) :: r,c :: cs,k,pre,rest,h1,h2,h=>by
  obtain⟨rfl,hv,hc,hr⟩:=h
  rw[List.length_cons,Nat.add_mul,Nat.one_mul] at h2
  have hlt:size≤rest.length:=by omega
  unfold JJ
  simp only[hv]
  rw[if_pos ⟨hc,by rw[List.length_append];omega⟩]
  have hs:FW (pre ++ rest) (i * size) c=(pre ++ c) ++ rest.drop size:=by
   unfold FW
   rw[← h1,List.take_left,hc,List.drop_append,List.drop_eq_nil_of_le (by omega),List.nil_append,show pre.length+size - pre.length=size by omega]
  rw[hs,PC r cs (i+1) (pre ++ c) (rest.drop size) (by rw[List.length_append,Nat.add_mul];omega) (by rw[List.length_drop];omega) hr]
  simp
theorem PK {size:Nat} :∀(css:List (List AV)),(∀c∈css,c.length=size)→chunk size css.length css.flatten=css
 | [],_=>rfl
 | c :: cs,h=>by
  have hc:=h c (by simp)
  show (c ++ cs.flatten).take size :: chunk size cs.length ((c ++ cs.flatten).drop size)=_
  rw[← hc,List.take_left,List.drop_left,hc,PK cs fun x hx=>h x (by simp[hx])]
theorem AS {k n:Nat} {e:Nat→AV} {st st':List Row} {L:List (Nat×AV)} (An:List Nat) (hk:An.take k=List.range k) (hnd:An.Nodup) (hlt:An.all (· < st.length)=true) (hp:Bv st An=st') (hs:SR An st' st') (h:ME (fun t=>IC An (e t)) L) :
  Wk k ⟨n,e,st⟩ ⟨n,Aa L,st'⟩:=PN An hk hnd hlt hp hs h
section
variable {P : Program} {k : Nat} {α : Type} {l : List α} {enc : α → List AV} {ops : Array Oper} {Q : Exit → St → Prop} {ds : List (Option Tmp)} {r : List Oper} {n : Nat} {e : Nat → AV} {st st' : List Row} {ty : TypeId} {ps : String} {ed : Array Edge} {t : Tmp} {gd : Option (Nat × Bool)} {T : TypeId} {bytes size m : Nat} {el : TypeId} {zz : List AV}
theorem XD {len:Nat} {parts:Array (Nat×Operand)} {pv:List (Nat×AV)} (hg:GO ds gd e) (he:Ct P T=some ⟨el,size,bytes,zz⟩) (hle:len * size≤16777216) (hp:(parts.toList.map fun p=>(p.1,St.ev ⟨n,e,st⟩ p.2))=pv)
  (hz:zz.length=size) (hf:Oo size 0 pv (l.map enc)) (hln:len=l.length) (hm:st.length=m) (hst:st ++ [⟨0,el,size,l.map enc⟩]=st') (hk:AO P k ops Q (ds ++ [some t]) r ⟨n,Ds e t (.own m 0 l.length),st'⟩) :
  AO P k ops Q ds (⟨some t,.buildSlice T len parts,ty,ps,ed,gd⟩ :: r) ⟨n,e,st⟩:=by
 obtain⟨h1,h2⟩:=hf.len
 have hl:(l.map enc).length=len:=by rw[List.length_map,hln]
 have ha:=PC pv (l.map enc) 0 [] (List.replicate len zz).flatten (by simp) (by rw[h1,hl];simp[hz]) hf
 rw[List.nil_append,List.nil_append] at ha
 refine A3 (cs:=(l.map enc).flatten) hg he hle hp ha ?_ hln hm hst hk
 rw[← hl];exact PK _ h2
end
end Go.Abs



namespace Go.Abs
open Go
section
variable {P : Program} {k : Nat} {ops : Array Oper} {Q : Exit → St → Prop} {ds : List (Option Tmp)} {r : List Oper} {n : Nat} {e : Nat → AV} {st st' : List Row} {ty : TypeId} {ps : String} {ed : Array Edge} {gd : Option (Nat × Bool)} {T : TypeId} {x y : Operand} {size id g sz : Nat} {el : TypeId} {α : Type} {l : List α} {enc : α → List AV} {c : α} {i : Int} {v : AV} {cs x0 : List AV} {ag : Bool}
end
end Go.Abs



namespace Go.Abs
open Go
structure MS where
 n:Nat
 e:Nat→AV
 x:Row
 z:List Row
def MS.st (R:List Row) (m:MS):St:=⟨m.n,m.e,m.x :: (R ++ m.z)⟩
def MS.put (m:MS) (d:Option Tmp) (v:AV):MS:=match d with
 | some d=>{ m with e:=Ds m.e d v }
 | none=>m
theorem Kn (R:List Row) (m:MS) (d:Option Tmp) (v:AV):(m.put d v).st R=(m.st R).put d v:=by cases d <;> rfl
theorem Jq (m:MS) (d:Option Tmp) (v:AV):(m.put d v).x=m.x:=by cases d <;> rfl
theorem Ju (m:MS) (d:Option Tmp) (v:AV):(m.put d v).z=m.z:=by cases d <;> rfl
theorem Jo (m:MS) (d:Option Tmp) (v:AV):(m.put d v).n=m.n:=by cases d <;> rfl
def MS.ev (m:MS) (x:Operand):AV:=St.ev ⟨m.n,m.e,[]⟩ x
theorem PE (R:List Row) (m:MS) (x:Operand):(m.st R).ev x=m.ev x:=by cases x <;> rfl
inductive Kind where
 | q
 | l (x y:Row)
 | a (row:Row)
def Kind.D:Kind→Row→List Row→Prop
 | .q,_,_=>True
 | .l x0 _,x,_=>x=x0
 | .a _,_,z=>z=[]
def Kind.fx:Kind→Row→Row
 | .l _ y,_=>y
 | _,x=>x
def Kind.fz:Kind→List Row→List Row
 | .a row,_=>[row]
 | _,z=>z
def PM (o:Oper):Bool:=match o.op with
 | .call ⟨.value _,_,_⟩=>true
 | _=>false
def O7 (o:Oper):Bool:=match o.op with
 | .alloc _=>true
 | _=>false
def Kind.fits:Kind→Oper→Prop
 | .q,_=>True
 | .l ..,o=>PM o=true
 | .a _,o=>O7 o=true
def MS.go (m:MS) (kd:Kind):MS:=⟨m.n,m.e,kd.fx m.x,kd.fz m.z⟩
section
variable {P : Program} {k : Nat} {ops : Array Oper} {md : Region.Mode} {R : List Row}
def Z9 (P:Program) (k:Nat) (o:Oper) (s s':St):Prop:=
 ∀(F:Nat→Prop) (os:List Own) (a:Act) (w:World),Rel F os s a w→∀(next:Act→World→Prop) (Q:Exit→Act→World→Prop),
  (∀a' w',Step k s.n F os w (·=s') a' w'→next a' w')→o.wp P a w next Q
def U9 (P:Program) (k:Nat) (R:List Row) (o:Oper) (n:Nat) (ev:Operand→AV) (kd:Kind) (v:AV):Prop:=
 ∀x z e,kd.D x z→(∀y∈o.op.operands,MS.ev ⟨n,e,x,z⟩ y=ev y)→De n o.dst=true→Z9 P k o (MS.st R ⟨n,e,x,z⟩) (MS.st R ((MS.go ⟨n,e,x,z⟩ kd).put o.dst v))
def Z1 (P:Program) (k:Nat) (R:List Row) (o:Oper) (m m':MS):Prop:=
 ∃kd v,Kind.fits kd o∧kd.D m.x m.z∧m'=(m.go kd).put o.dst v∧U9 P k R o m.n m.ev kd v
def MT (P:Program) (k:Nat) (R:List Row) (ops:Array Oper) (o:Oper) (m m':MS):Prop:=
 (EJ ops o (m.st R)=some true∧Z1 P k R o m m')∨(EJ ops o (m.st R)=some false∧m'=m.put o.dst .un)
def Q1 (P:Program) (k:Nat) (R:List Row) (ops:Array Oper) (i:Nat) (K:MS→Prop) (m:MS):Prop:=
 match ops[i]? with
 | none=>K m
 | some o=>∃m',MT P k R ops o m m'∧K m'
theorem P9 {m:MS} {d:Option Tmp} {v:AV} {x:Operand} (h :∀t,d=some t→x≠.tmp t):(m.put d v).ev x=m.ev x:=by
 cases d with
 | none=>rfl
 | some d=>
  cases x with
  | tmp t=>
   have hne:t≠d:=fun e=>h d rfl (e ▸ rfl)
   simp[MS.ev,MS.put,St.ev,Ds,hne]
  | _=>rfl
theorem I5 (m:MS) {x y:Option Tmp} (v u:AV) (h :∀d,x=some d→y≠some d):(m.put x v).put y u=(m.put y u).put x v:=by
 cases x with
 | none=>rfl
 | some d=>
  cases y with
  | none=>rfl
  | some e=>
   have hne:d≠e:=fun he=>h d rfl (he ▸ rfl)
   simp only[MS.put,MS.mk.injEq,true_and,and_true]
   funext t
   simp only[Ds]
   by_cases h1:t=d
   ·subst h1;simp[hne]
   ·by_cases h2:t=e
    ·subst h2;simp[h1]
    ·simp[h1,h2]
theorem P2 (m:MS) (kd:Kind) (d:Option Tmp) (v:AV):(m.put d v).go kd=(m.go kd).put d v:=by cases d <;> rfl
theorem QY {o:Oper} {m:MS}:EJ ops o (m.st R)=EJ ops o ⟨m.n,m.e,[]⟩:=rfl
theorem Fb {oi:Oper} {m:MS} {d:Option Tmp} {u:AV} {kd:Kind} (hd :∀t,d=some t→t ∉ oi.looksAt ops):EJ ops oi (((m.go kd).put d u).st R)=EJ ops oi (m.st R):=by
 rw[QY,QY]
 unfold EJ
 cases hg:oi.guard with
 | none=>rfl
 | some p=>
  obtain⟨j,want⟩:=p
  dsimp only
  cases ht:(ops[j]?).bind (·.dst) with
  | none=>rfl
  | some t=>
   dsimp only
   have:((m.go kd).put d u).e t=m.e t:=P9 (m:=m.go kd) (x:=.tmp t) fun t' ht' e=>hd t' ht' (by
    cases e
    exact List.mem_append_right _ (by simp[hg,ht]))
   rw[this]
theorem IX {oi:Oper} {m:MS} {d:Option Tmp} {u:AV} (hd :∀t,d=some t→t ∉ oi.looksAt ops) :∀x∈oi.op.operands,(m.put d u).ev x=m.ev x:=fun x hx=>
 P9 fun t ht hxt=>hd t ht (by
  subst hxt
  exact List.mem_append_left _ (List.mem_filterMap.2 ⟨.tmp t,by simpa using hx,rfl⟩))
theorem U9.congr {o:Oper} {n:Nat} {ev ev':Operand→AV} {kd:Kind} {v:AV} (h:U9 P k R o n ev kd v) (he :∀y∈o.op.operands,ev' y=ev y):U9 P k R o n ev' kd v:=
 fun x z e hD ho hd=>h x z e hD (fun y hy=>(ho y hy).trans (he y hy)) hd
theorem T0 {ki kj:Kind} {oi oj:Oper} (hi:ki.fits oi) (hj:kj.fits oj) (hf:¬ (PM oi=true∧PM oj=true)) (ha:¬ (O7 oi=true∧O7 oj=true)) {x:Row} {z:List Row} (h1:ki.D x z) (h2:kj.D (ki.fx x) (ki.fz z)) :
  kj.D x z∧ki.D (kj.fx x) (kj.fz z)∧ki.fx (kj.fx x)=kj.fx (ki.fx x)∧ki.fz (kj.fz z)=kj.fz (ki.fz z):=by
 cases ki with
 | q=>exact⟨h2,trivial,rfl,rfl⟩
 | l x0 y=>
  cases kj with
  | q=>exact⟨trivial,h1,rfl,rfl⟩
  | l x1 y1=>exact absurd ⟨hi,hj⟩ hf
  | a row=>exact⟨h2,h1,rfl,rfl⟩
 | a row=>
  cases kj with
  | q=>exact⟨trivial,h1,rfl,rfl⟩
  | l x1 y1=>exact⟨h2,h1,rfl,rfl⟩
  | a row1=>exact absurd ⟨hi,hj⟩ ha
theorem WG {oi oj:Oper} {m mi mij:MS} (hap:oi.apart ops oj=true) (hf:¬ (PM oi=true∧PM oj=true)) (ha:¬ (O7 oi=true∧O7 oj=true)) (hi:MT P k R ops oi m mi) (hj:MT P k R ops oj mi mij) :
  ∃mj,MT P k R ops oj m mj∧MT P k R ops oi mj mij:=by
 obtain⟨h1,h2,h3⟩:=Oper.apart_spec hap
 have hq :∀(m:MS),m.go .q=m:=fun m=>rfl
 rcases hi with ⟨wi,ki,vi,fi,di,rfl,gi⟩ | ⟨wi,rfl⟩ <;> rcases hj with ⟨wj,kj,vj,fj,dj,rfl,gj⟩ | ⟨wj,rfl⟩
 ·rw[Fb h1] at wj
  rw[Jq,Ju] at dj
  obtain⟨e1,e2,e3,e4⟩:=T0 fi fj hf ha di dj
  refine⟨(m.go kj).put oj.dst vj,.inl ⟨wj,kj,vj,fj,e1,rfl,?_⟩,.inl ⟨by rw[Fb h3];exact wi,ki,vi,fi,by rw[Jq,Ju];exact e2,?_,?_⟩⟩
  ·rw[Jo] at gj
   exact gj.congr fun y hy=>(IX (m:=m.go ki) (u:=vi) h1 y hy).symm
  ·rw[P2,P2,← I5 _ vi vj h2]
   congr 2
   simp only[MS.go,e3,e4]
  ·rw[Jo]
   exact gi.congr fun y hy=>IX (m:=m.go kj) h3 y hy
 ·rw[Fb h1] at wj
  refine⟨m.put oj.dst .un,.inr ⟨wj,rfl⟩,.inl ⟨by have:=Fb (R:=R) (m:=m) (kd:=.q) (u:=.un) h3;rw[hq] at this;rw[this];exact wi,ki,vi,fi,by rw[Jq,Ju];exact di,?_,?_⟩⟩
  ·rw[P2,← I5 _ vi .un h2]
  ·rw[Jo]
   exact gi.congr fun y hy=>IX h3 y hy
 ·have h5:=Fb (R:=R) (m:=m) (kd:=.q) (u:=.un) h1
  rw[hq] at h5
  rw[h5] at wj
  rw[Jq,Ju] at dj
  refine⟨(m.go kj).put oj.dst vj,.inl ⟨wj,kj,vj,fj,dj,rfl,?_⟩,.inr ⟨by rw[Fb h3];exact wi,?_⟩⟩
  ·rw[Jo] at gj
   exact gj.congr fun y hy=>(IX h1 y hy).symm
  ·rw[P2,← I5 _ .un vj h2]
 ·have h5:=Fb (R:=R) (m:=m) (kd:=.q) (u:=.un) h1
  have h6:=Fb (R:=R) (m:=m) (kd:=.q) (u:=.un) h3
  rw[hq] at h5 h6
  rw[h5] at wj
  exact⟨m.put oj.dst .un,.inr ⟨wj,rfl⟩,.inr ⟨by rw[h6];exact wi,by rw[← I5 _ .un .un h2]⟩⟩
def anyM (P:Program) (k:Nat) (R:List Row) (md:Region.Mode) (ops:Array Oper) (n:Nat) (L:Array Bool→MS→Prop):Nat→Array Bool→MS→Prop
 | 0,listed,s=>L listed s
 | f+1,listed,s=>Region.ready md ops listed≠[]∧∀i∈Region.ready md ops listed,i < n∧Q1 P k R ops i (anyM P k R md ops n L f (listed.setIfInBounds i true)) s
theorem RW {F:Nat→Prop} {os:List Own} {a:Act} {w:World} {i:Nat} {K:MS→Prop} {m:MS} (hdst :∀o∈ops.toList,De m.n o.dst=true) (hr:Rel F os (m.st R) a w) (h:Q1 P k R ops i K m) {next:Act→World→Prop} {Q:Exit→Act→World→Prop}
  (hn :∀a' w',Step k m.n F os w (fun s=>∃m',s=m'.st R∧K m') a' w'→next a' w'):wpOp P ops Q i next a w:=by
 unfold Q1 at h
 unfold wpOp
 split
 ·rename_i ho;simp only[ho] at h;exact hn a w ⟨m.st R,F,os,rfl,⟨m,rfl,h⟩,hr,Ext.refl _ _ _ _⟩
 ·rename_i o ho
  simp only[ho] at h
  obtain⟨m',hy,hK⟩:=h
  have hod:=hdst o (by have:=List.mem_of_getElem? (l:=ops.toList) (i:=i) (by simpa using ho);exact this)
  rcases hy with ⟨hw,kd,v,_,hD,rfl,hg⟩ | ⟨hw,rfl⟩
  ·rw[if_pos (Jm hr hdst hw)]
   refine .inl (hg m.x m.z m.e hD (fun _ _=>rfl) hod F os a w hr next Q ?_)
   rintro a' w' ⟨s',F',os',h1,rfl,h3,h4⟩
   exact hn a' w' ⟨_,F',os',h1,⟨_,rfl,hK⟩,h3,h4⟩
  ·rw[if_neg (by rw[Jm hr hdst hw];simp)]
   exact hn _ w ⟨_,F,os,by rw[Kn];cases o.dst <;> rfl,⟨_,rfl,hK⟩,by rw[Kn];exact hr.un hod,Ext.refl _ _ _ _⟩
theorem Lg {n g:Nat} {N:Nat} {L:Array Bool→MS→Prop} {Q':Exit→Act→World→Prop} {F0:Nat→Prop} {os0:List Own} {w0:World} (hdst :∀o∈ops.toList,De N o.dst=true)
  (hL :∀listed (m:MS) F os a w,m.n=N→L listed m→Rel F os (m.st R) a w→Ext F0 os0 w0 F os w k→wpAny P md ops Q' g listed a w) :
  ∀(f:Nat) (listed:Array Bool) (m:MS) F os a w,m.n=N→anyM P k R md ops n L f listed m→Rel F os (m.st R) a w→Ext F0 os0 w0 F os w k→wpAny P md ops Q' (f+g) listed a w
 | 0,listed,s,F,os,a,w,hn,h,hr,he=>by rw[Nat.zero_add];exact hL _ _ _ _ _ _ hn h hr he
 | f+1,listed,s,F,os,a,w,hn,h,hr,he=>by
  rw[show f+1+g=(f+g) + 1 by omega]
  refine⟨fun h0=>absurd h0 h.1,fun i hi=>?_⟩
  refine RW (k:=k) (by rw[hn];exact hdst) hr (h.2 i hi).2 ?_
  rintro a' w' ⟨s',F',os',h1,⟨m',rfl,h2⟩,h3,h4⟩
  exact Lg hdst hL f _ m' F' os' a' w' (by rw[← hn];exact h1) h2 h3 (he.trans h4)
def Gn (ops:Array Oper) (i:Nat):Bool:=match ops[i]? with | some o=>PM o | none=>false
def MO (ops:Array Oper) (i:Nat):Bool:=match ops[i]? with | some o=>O7 o | none=>false
def Vp (md:Region.Mode) (ops:Array Oper) (j i:Nat):Bool:=match ops[j]? with | some o=>o.after.any fun e=>Region.binds md e && e.on == i | none=>false
def Mr (md:Region.Mode) (ops:Array Oper) (n:Nat):Bool:=
 (List.range n).all fun j=>(List.range j).all fun i=>(!(MO ops i && MO ops j)) && (!(Gn ops i && Gn ops j) || ((List.range j).any fun m=>decide (i < m) && Gn ops m) || Vp md ops j i)
theorem Ly {n:Nat} (h:Mr md ops n=true) {i j:Nat} (hij:i < j) (hj:j < n):¬ (MO ops i=true∧MO ops j=true)∧
  (Gn ops i=true→Gn ops j=true→(∃m,i < m∧m < j∧Gn ops m=true)∨∀oj,ops[j]?=some oj→∃e∈oj.after,Region.binds md e=true∧e.on=i):=by
 unfold Mr at h
 have h1:=List.all_eq_true.1 (List.all_eq_true.1 h j (List.mem_range.2 hj)) i (List.mem_range.2 hij)
 rw[Bool.and_eq_true] at h1
 refine⟨fun⟨a,b⟩=>?_,fun a b=>?_⟩
 ·simp[a,b] at h1
 ·have h2:=h1.2
  simp only[a,b,Bool.and_self,Bool.not_true,Bool.false_or,Bool.or_eq_true,List.any_eq_true,List.mem_range,Bool.and_eq_true,decide_eq_true_eq] at h2
  rcases h2 with ⟨m,hm,h3,h4⟩ | h2
  ·exact .inl ⟨m,h3,hm,h4⟩
  ·refine .inr fun oj hoj=>?_
   simp only[Vp,hoj,Array.any_eq_true'] at h2
   obtain⟨e,he,hb⟩:=h2
   simp only[Bool.and_eq_true,beq_iff_eq] at hb
   exact⟨e,he,hb⟩
theorem SW {n:Nat} (h:Mr md ops n=true) {listed:Array Bool} (inv:HeadInv md ops n listed) :∀(d i j:Nat),j - i=d→i < j→j < n→Gn ops i=true→Gn ops j=true→
  listed.getD j false=true→listed.getD i false=true:=by
 intro d
 induction d using Nat.strongRecOn with
 | _ d ih=>
  intro i j hd hij hj hi hfj hl
  rcases (Ly h hij hj).2 hi hfj with ⟨m,h1,h2,h3⟩ | h1
  ·have hm:=ih (j - m) (by omega) m j rfl h2 hj h3 hfj hl
   exact ih (m - i) (by omega) i m rfl h1 (by omega) hi h3 hm
  ·obtain⟨oj,hoj⟩ :∃oj,ops[j]?=some oj:=by
    unfold Gn at hfj
    split at hfj
    ·rename_i o ho;exact⟨o,ho⟩
    ·cases hfj
   obtain⟨e,he,hb,rfl⟩:=h1 oj hoj
   exact inv.closed j oj hoj hl e he hb
theorem S9 {n:Nat} (h:Mr md ops n=true) {listed:Array Bool} (inv:HeadInv md ops n listed) {i j:Nat} (hij:i < j) (hj:j < n) (hi:Gn ops i=true) (hfj:Gn ops j=true)
  (hr:j∈Region.ready md ops listed):listed.getD i false=true:=by
 obtain⟨_,oj,hoj,hall⟩:=mem_ready.1 hr
 have key :∀(d i:Nat),j - i=d→i < j→Gn ops i=true→listed.getD i false=true:=by
  intro d
  induction d using Nat.strongRecOn with
  | _ d ih=>
   intro i hd hij hi
   rcases (Ly h hij hj).2 hi hfj with ⟨m,h1,h2,h3⟩ | h1
   ·exact SW h inv _ i m rfl h1 (by omega) hi h3 (ih (j - m) (by omega) m rfl h2 h3)
   ·obtain⟨e,he,hb,rfl⟩:=h1 oj hoj
    exact hall e he hb
 exact key _ i rfl hij hi
theorem TC {n i:Nat} {oi:Oper} {L:Array Bool→MS→Prop} (hwt:Mr md ops n=true) (hi:ops[i]?=some oi)
  (htail :∀listed,HeadInv md ops n listed→∀i,i < n→listed.getD i true=false→∀t,n≤t→t ∉ Region.ready md ops listed) (hin:i < n)
  (hdone :∀listed s,L listed s→∀j∈Region.ready md ops listed,n≤j) :
  ∀(f:Nat) (listed:Array Bool) (m mi:MS),HeadInv md ops n listed→(∀j,j < i→listed.getD j true=true)→
   (∀j oj,ops[j]?=some oj→j≠i→listed.getD j true=false→(∀e∈oj.after,Region.binds md e=true→e.on≠i)→oi.apart ops oj=true)→
   i∈Region.ready md ops listed→MT P k R ops oi m mi→
   anyM P k R md ops n L f (listed.setIfInBounds i true) mi→anyM P k R md ops n L (f+1) listed m:=by
 have hstep :∀{K:MS→Prop} {m mi:MS},MT P k R ops oi m mi→K mi→Q1 P k R ops i K m:=fun {K m mi} hy h=>by
  unfold Q1;simp only[hi];exact⟨mi,hy,h⟩
 intro f
 induction f with
 | zero=>
  intro listed m mi inv hlow _ hr hy H
  have hun:=(mem_ready.1 hr).1
  refine⟨fun h=>(by rw[h] at hr;cases hr),fun j hj=>?_⟩
  have hjn:j < n:=by
   rcases Nat.lt_or_ge j n with h | h
   ·exact h
   ·exact absurd hj (htail _ inv i hin hun j h)
  refine⟨hjn,?_⟩
  by_cases hji:j=i
  ·subst hji;exact hstep hy H
  ·have:=hdone _ _ H j (ready_mono hj hji)
   omega
 | succ f ih=>
  intro listed m mi inv hlow hfree hr hy H
  have hun:=(mem_ready.1 hr).1
  refine⟨fun h=>(by rw[h] at hr;cases hr),fun j hj=>?_⟩
  have hjn:j < n:=by
   rcases Nat.lt_or_ge j n with h | h
   ·exact h
   ·exact absurd hj (htail _ inv i hin hun j h)
  refine⟨hjn,?_⟩
  by_cases hji:j=i
  ·subst hji;exact hstep hy H
  ·have h1:=(H.2 j (ready_mono hj hji)).2
   obtain⟨hjun,oj,hoj,hall⟩:=mem_ready.1 hj
   have hnot :∀e∈oj.after,Region.binds md e=true→e.on≠i:=fun e he hb heq=>by
    have h1:=hall e he hb
    rw[heq,getD_both hun] at h1
    cases h1
   have hlt:i < j:=by
    rcases Nat.lt_trichotomy i j with h | h | h
    ·exact h
    ·exact absurd h.symm hji
    ·have:=hlow j h;rw[hjun] at this;cases this
   have hfn:¬ (PM oi=true∧PM oj=true):=fun⟨h1,h2⟩=>by
    have:=S9 hwt inv hlt hjn (by simp[Gn,hi,h1]) (by simp[Gn,hoj,h2]) hj
    rw[getD_both hun] at this;cases this
   have hal:¬ (O7 oi=true∧O7 oj=true):=fun⟨h1,h2⟩=>
    (Ly hwt hlt hjn).1 ⟨by simp[MO,hi,h1],by simp[MO,hoj,h2]⟩
   unfold Q1 at h1
   simp only[hoj] at h1
   obtain⟨mij,hmt,hK⟩:=h1
   obtain⟨mj,g1,g2⟩:=WG (hfree j oj hoj hji hjun hnot) hfn hal hy hmt
   unfold Q1
   simp only[hoj]
   refine⟨mj,g1,ih (listed.setIfInBounds j true) mj mij (inv.set hj hjn) (fun q hq=>?_) ?_ (ready_mono hr (Ne.symm hji)) g2 ?_⟩
   ·rw[getD_set_ne true (by omega)];exact hlow q hq
   ·intro k ok hk hki hun hno
    refine hfree k ok hk hki ?_ hno
    by_cases hjk:j=k
    ·subst hjk;exact hjun
    ·rw[getD_set_ne true hjk] at hun;exact hun
   ·rw[Array.setIfInBounds_comm _ _ hji]
    exact hK
def IE (P:Program) (k:Nat) (R:List Row):List (Option Tmp)→List Oper→(MS→Prop)→MS→Prop
 | _,[],K,m=>K m
 | ds,o :: r,K,m=>Gb ds o (m.st R) (∃m',Z1 P k R o m m'∧IE P k R (ds ++ [o.dst]) r K m') (IE P k R (ds ++ [o.dst]) r K (m.put o.dst .un))
theorem Rj {n g:Nat} {K:MS→Prop} (hwt:Mr md ops n=true) (htail :∀listed,HeadInv md ops n listed→∀i,i < n→listed.getD i true=false→∀t,n≤t→t ∉ Region.ready md ops listed) :
  ∀(l:List Oper) (ds:List (Option Tmp)) (listed:Array Bool) (m:MS),(∀(j:Nat),j < l.length→l[j]?=ops[ds.length+j]?)→(∀(j:Nat) d,ds[j]?=some d→(ops[j]?).map (·.dst)=some d)→ds.length+l.length=n→HeadInv md ops n listed→
  (∀j,j < ds.length→listed.getD j true=true)→
  Region.lexHead md ops g l.length ds.length listed=true→IE P k R ds l K m→
  anyM P k R md ops n (fun listed' s'=>Region.seqB md ops g n listed'=true∧K s') l.length listed m
 | [],ds,listed,s,_,_,hk,_,_,hB,h=>by
  have:ds.length=n:=by simpa using hk
  subst this
  exact⟨by simpa [Region.lexHead] using hB,h⟩
 | o :: l,ds,listed,s,hl,hds,hk,inv,hlow,hB,h=>by
  have h0:ops[ds.length]?=some o:=by simpa using (hl 0 (by simp)).symm
  simp only[List.length_cons,Region.lexHead,Bool.and_eq_true] at hB
  obtain⟨⟨hr,hf⟩,hB'⟩:=hB
  have hkn:ds.length < n:=by simp only[List.length_cons] at hk;omega
  have hr':ds.length∈Region.ready md ops listed:=by simpa using hr
  have hds' :∀(j:Nat) d,(ds ++ [o.dst])[j]?=some d→(ops[j]?).map (·.dst)=some d:=fun j d hj=>by
   rcases Nat.lt_trichotomy j ds.length with h1 | h1 | h1
   ·rw[List.getElem?_append_left h1] at hj;exact hds j d hj
   ·subst h1;rw[Gs,Option.some.injEq] at hj;rw[h0];simp[hj]
   ·rw[List.getElem?_eq_none (by simp;omega)] at hj;cases hj
  have hlow' :∀j,j < (ds ++ [o.dst]).length→(listed.setIfInBounds ds.length true).getD j true=true:=fun j hj=>by
   simp only[List.length_append,List.length_cons,List.length_nil] at hj
   by_cases hjd:ds.length=j
   ·subst hjd
    rcases Nat.lt_or_ge ds.length listed.size with h5 | h5
    ·simp[h5]
    ·simp[Array.getElem?_eq_none h5]
   ·rw[getD_set_ne true hjd];exact hlow j (by omega)
  have hrec :∀s',IE P k R (ds ++ [o.dst]) l K s'→anyM P k R md ops n (fun listed' s'=>Region.seqB md ops g n listed'=true∧K s') l.length (listed.setIfInBounds ds.length true) s':=fun s' hs'=>
   Rj hwt htail l (ds ++ [o.dst]) _ s' (fun j hj=>by
    have:=hl (j+1) (by simp;omega)
    simp only[List.getElem?_cons_succ] at this
    rw[this];congr 1;simp;omega) hds' (by simp only[List.length_cons,List.length_append,List.length_nil] at hk ⊢;omega) (inv.set hr' hkn) hlow' (by simpa using hB') hs'
  have hfirst :∀m',MT P k R ops o s m'→IE P k R (ds ++ [o.dst]) l K m'→anyM P k R md ops n (fun listed' s'=>Region.seqB md ops g n listed'=true∧K s') (l.length+1) listed s:=fun m' hy hK=>
   TC hwt h0 htail hkn (fun listed' s' hL=>seqB_ready hL.1) l.length listed s m' inv hlow (Region.free_spec h0 hf) hr' hy (hrec _ hK)
  simp only[IE] at h
  rcases QJ hds h with ⟨hw,m',h1,h2⟩ | ⟨hw,h1⟩
  ·exact hfirst m' (.inl ⟨hw,h1⟩) h2
  ·exact hfirst _ (.inr ⟨hw,rfl⟩) h1
theorem BO {id n:Nat} {e:Nat→AV} {x:Row} {Q:Exit→St→Prop} (R:List Row) (m:Nat) (hm:P.follows .mixedOrders=true) (hB:Region.lexTailB .any ops m=true) (hw:Mr .any ops m=true) (hd:(ops.toList.all fun o=>De n o.dst)=true)
  (h:IE P k R [] (ops.toList.take m) (fun s'=>AO P k ops Q ((ops.toList.take m).map (·.dst)) (ops.toList.drop m) (s'.st R)) ⟨n,e,x,[]⟩):AW P k (.region id ops true) Q ⟨n,e,x :: R⟩:=by
 simp only[Region.lexTailB,Bool.and_eq_true,decide_eq_true_eq] at hB
 obtain⟨⟨⟨⟨_,hn⟩,hs⟩,hc⟩,hlex⟩:=hB
 intro F os a w hr
 have hr0:Rel F os (MS.st R ⟨n,e,x,[]⟩) a w:=by simpa [MS.st] using hr
 obtain⟨hr1,he1⟩:=hr0.drew (k:=k)
 refine wp_region_any hm ?_
 have htl:(ops.toList.take m).length=m:=by simp;omega
 have hdl:(ops.toList.drop m).length=ops.size - m:=by simp
 have H:=Rj (md:=.any) (ops:=ops) (n:=m) (g:=ops.size - m) (k:=k) (R:=R) (P:=P) (K:=fun s'=>AO P k ops Q ((ops.toList.take m).map (·.dst)) (ops.toList.drop m) (s'.st R)) hw
  (fun listed inv i hi hun t ht=>tail_waits hs hc hn inv _ i rfl hi hun t ht) (ops.toList.take m) [] _ _ (fun j hj=>by
   rw[htl] at hj;rw[List.getElem?_take,if_pos hj];simp) (by simp) (by simpa using htl) (OZ _) (by simp) (by rw[htl];exact hlex) h
 have:=Lg (k:=k) (g:=ops.size - m) (N:=n) (R:=R) (Q':=IG k Q F os w) (F0:=F) (os0:=os) (w0:=w) (fun o ho=>List.all_eq_true.1 hd o ho) (fun listed s' F' os' a' w' hn' hL hr' he=>by
  have h1:=hL.2 (fun j=>by
    rw[List.length_map,htl,List.getElem?_drop];simp) (fun j d hj=>by
    simp only[List.getElem?_map,List.getElem?_take] at hj
    split at hj
    ·simpa using hj
    ·cases hj) (by show∀o∈ops.toList,De s'.n o.dst=true;rw[hn'];exact fun o ho=>List.all_eq_true.1 hd o ho) F' os' a' w' hr' (IG k Q F os w) fun _ _ _ hp=>IG.trans he hp
  have h2:=wpAny_of_seq (md:=.any) (Q':=IG k Q F os w) (ops.toList.drop m) m listed a' w' (fun j=>by simp[List.getElem?_drop]) (by rw[hdl];exact hL.1) h1
  rwa [hdl] at h2) _ _ _ F os a w.drew rfl H hr1 he1
 rw[htl,show m+(ops.size - m)=ops.size by omega] at this
 exact this
end
section
variable {P : Program} {k : Nat} {R : List Row} {ds : List (Option Tmp)} {r : List Oper} {K : MS → Prop} {n : Nat} {e : Nat → AV} {x0 : Row} {z0 : List Row} {t : Tmp} {op : Op} {ty : TypeId} {ps : String} {ed : Array Edge} {gd : Option (Nat × Bool)} {v : AV}
theorem GO.elim {o:Oper} {A B:Prop} {s:St} (hg:GO ds gd s.env) (ho:o.guard=gd) (h:Gb ds o s A B):A:=by
 unfold Gb at h
 rw[ho] at h
 cases gd with
 | none=>exact h
 | some q=>
  obtain⟨jj,want⟩:=q
  obtain⟨tg,hj,ht⟩:=hg
  simp only[hj,ht,TJ] at h
  exact h.1 rfl
theorem D9 (hg:GO ds gd e) (h :∀x z,Cw P ds [⟨some t,op,ty,ps,ed,gd⟩] (fun s'=>s'.env t=v) ⟨n,e,x :: (R ++ z)⟩) (hk:IE P k R (ds ++ [some t]) r K ⟨n,Ds e t v,x0,z0⟩) :
  IE P k R ds (⟨some t,op,ty,ps,ed,gd⟩ :: r) K ⟨n,e,x0,z0⟩:=by
 refine GO.guard (e:=e) hg ⟨_,⟨.q,v,trivial,trivial,rfl,?_⟩,hk⟩
 intro x z e' _ ho hd F os a w hr next Q hn
 have h1:=h x z
 unfold Cw at h1
 have h2:=GO.elim (s:=⟨n,e,x :: (R ++ z)⟩) hg rfl h1
 obtain⟨v',hv,h3⟩:=Qf h2
 have hvv:v'=v:=by simpa [Cw,St.put,Ds] using hv
 subst hvv
 have h4:IM P ⟨some t,op,ty,ps,ed,gd⟩ (MS.st R ⟨n,e',x,z⟩) (·=v'):=Kk (s:=⟨n,e,x :: (R ++ z)⟩) rfl (fun y hy=>by
  have:=ho y hy
  rw[PE,this];cases y <;> rfl) h3
 exact Rn (k:=k) hr hd h4 (by rw[Kn] at hn;exact hn)
theorem Di {K':St→Prop} {st:List Row} (hst:x0 :: (R ++ z0)=st) (h:K' ⟨n,e,st⟩):IE P k R ds [] (fun m=>K' (m.st R)) ⟨n,e,x0,z0⟩:=by
 subst hst;exact h
theorem Ta {T:TypeId} {zz:List AV} {m:Nat} (hz:Gr P T=some zz) (hm:R.length+1=m) (hk:IE P k R (ds ++ [some t]) r K ⟨n,Ds e t (.ptr m 0 0 0),x0,[⟨0,T,zz.length,[zz]⟩]⟩) :
  IE P k R ds (⟨some t,.alloc T,ty,ps,ed,none⟩ :: r) K ⟨n,e,x0,[]⟩:=by
 subst hm
 refine⟨_,⟨.a ⟨0,T,zz.length,[zz]⟩,.ptr (R.length+1) 0 0 0,rfl,rfl,rfl,?_⟩,hk⟩
 intro x z e' hz0 ho hd F os a w hr next Q hn
 have hz0:z=[]:=hz0
 subst hz0
 refine IQ (k:=k) (K:=(·=MS.st R ((MS.go ⟨n,e',x,[]⟩ (.a ⟨0,T,zz.length,[zz]⟩)).put (some t) (.ptr (R.length+1) 0 0 0)))) hr hd ?_ hn
 refine Ao _ hz ?_
 simp[MS.st,MS.go,MS.put,St.put,Kind.fx,Kind.fz]
theorem Oh {An:List Nat} {A z:List Row} (h:An.all (· < A.length)=true):Bv (A ++ z) An=Bv A An:=by
 unfold Bv
 induction An with
 | nil=>rfl
 | cons i l ih=>
  simp only[List.all_cons,Bool.and_eq_true,decide_eq_true_eq] at h
  rw[List.filterMap_cons,List.filterMap_cons,List.getElem?_append_left h.1,ih h.2]
theorem PW {An:List Nat} {rs A z:List Row} (h:An.all (· < A.length)=true):Eg An rs 0 (A ++ z)=Eg An rs 0 A ++ z:=by
 apply List.ext_getElem?
 intro i
 rw[JA,Nat.zero_add]
 by_cases hi:i < A.length
 ·rw[List.getElem?_append_left hi,List.getElem?_append_left (by rw[Hb];exact hi),JA,Nat.zero_add]
 ·rw[List.getElem?_append_right (by omega),List.getElem?_append_right (by rw[Hb];omega),Hb]
  have hx:idx An i=none:=by
   cases hx:idx An i with
   | none=>rfl
   | some p=>
    have:=List.mem_of_getElem? (KB hx)
    have:=List.all_eq_true.1 h i this
    simp at this;omega
  rw[hx]
  cases z[i - A.length]? <;> rfl
theorem Ww {f:FuncId} {ars:Array Operand} {ts:Array TypeId} {args args':List AV} {rowsP rows0 rows1 rows1':List Row} {v v':AV} {y0:Row} (An:List Nat) (hg:GO ds gd e) (hb:Aq P f=true) (hc:Ai P f args' rows0 fun r st=>r=v∧st=rows1) (ha:ars.toList.map (St.ev ⟨n,e,[]⟩) ++ []=args) (hnd:An.Nodup) (hlt:An.all (· < R.length+1)=true)
  (hp:Bv (x0 :: R) An=rowsP) (hs:SR An rowsP rows0) (hf:args.map (IC An)=args') (hlen:rows1.length=An.length) (h1 :∀N,UN An N rows1 rows1') (hv :∀N,O2 An N v=v') (hst':Eg An rows1' 0 (x0 :: R)=y0 :: R)
  (hk:IE P k R (ds ++ [some t]) r K ⟨n,Ds e t v',y0,z0⟩):IE P k R ds (⟨some t,.call ⟨.value (.func f),ars,ts⟩,ty,ps,ed,gd⟩ :: r) K ⟨n,e,x0,z0⟩:=by
 subst ha;subst hp
 refine GO.guard (e:=e) hg ⟨_,⟨.l x0 y0,v',rfl,rfl,rfl,?_⟩,hk⟩
 intro x z e' hx ho hd F os a w hr next Q hn
 have hx:x=x0:=hx
 subst hx
 refine IQ (k:=k) (K:=(·=MS.st R ((MS.go ⟨n,e',x,z⟩ (.l x y0)).put (some t) v'))) hr hd ?_ hn
 show Aq P f=true∧callThen P k (MS.st R ⟨n,e',x,z⟩) f (ars.toList.map (MS.st R ⟨n,e',x,z⟩).ev ++ []) (some t) _
 have hev:ars.toList.map (MS.st R ⟨n,e',x,z⟩).ev=ars.toList.map (St.ev ⟨n,e,[]⟩):=Nc (f:=f) (ts:=ts) (s0:=MS.st R ⟨n,e',x,z⟩) (s1:=⟨n,e,[]⟩) fun y hy=>by rw[PE];exact ho y hy
 rw[hev]
 refine⟨hb,IA fun hle=>?_⟩
 have hsplit:(MS.st R ⟨n,e',x,z⟩).st=(x :: R) ++ z:=rfl
 have hlt':An.all (· < (x :: R).length)=true:=by simpa using hlt
 have hpick:Bv (MS.st R ⟨n,e',x,z⟩).st An=Bv (x :: R) An:=by rw[hsplit];exact Oh hlt'
 obtain⟨e1,e3⟩:=hs.spec (st0:=(MS.st R ⟨n,e',x,z⟩).st) hle (fun row hrow=>by
  rw[← hpick] at hrow
  obtain⟨i,_,hi⟩:=List.mem_filterMap.1 hrow
  exact List.mem_of_getElem? hi)
 refine Ib (rows2:=[]) An (by simpa using hc) hnd (fun i hi=>by
   have:=List.all_eq_true.1 hlt' i hi
   rw[hsplit,List.length_append];simp only[decide_eq_true_eq] at this;omega) (by rw[hpick];exact e1) e3 hf hlen (fun row hrow=>by
  rw[List.append_nil] at hrow
  exact (h1 _).leaf row hrow) fun _=>?_
 rw[(h1 _).spec,hv,hsplit,PW hlt',hst']
 simp[MS.st,MS.go,MS.put,St.put,Kind.fx,Kind.fz]
end
end Go.Abs



namespace Go.Abs
open Go
def Ya (e:Nat→AV):List (Nat×AV)→List AV
 | []=>[]
 | (t,_) :: r=>e t :: Ya e r
def YK:List (Nat×AV)→List AV
 | []=>[]
 | (_,v) :: r=>v :: YK r
theorem ME.same {e:Nat→AV} :∀{L:List (Nat×AV)},Ya e L=YK L→ME e L
 | [],_=>trivial
 | (t,v) :: r,h=>by
  simp only[Ya,YK,List.cons.injEq] at h
  obtain⟨h1,h2⟩:=h
  subst h1
  exact⟨.rfl,ME.same h2⟩
section
variable {P : Program} {k : Nat} {R : List Row} {ds : List (Option Tmp)} {r : List Oper} {K : MS → Prop} {n : Nat} {e : Nat → AV} {x0 : Row} {z0 : List Row} {t : Tmp} {op : Op} {ty : TypeId} {ps : String} {ed : Array Edge} {gd : Option (Nat × Bool)}
theorem BD (v:AV) (hg:GO ds gd e) (hl:HZ op=false) (hq :∀x z,AQ P ⟨n,e,x :: (R ++ z)⟩ op v) (hk:IE P k R (ds ++ [some t]) r K ⟨n,Ds e t v,x0,z0⟩) :
  IE P k R ds (⟨some t,op,ty,ps,ed,gd⟩ :: r) K ⟨n,e,x0,z0⟩:=
 D9 hg (fun x z=>HN hg hl (hq x z) (Ax (by simp[Ds]))) hk
theorem E2 {f:FuncId} {ars:Array Operand} {ts:Array TypeId} {args args':List AV} {rows0 rows1:List Row} {v v':AV} {y0:Row} (An:List Nat) (hg:GO ds gd e) (hb:Aq P f=true) (hc:Ai P f args' rows0 fun r st=>r=v∧st=rows1) (ha:ars.toList.map (St.ev ⟨n,e,[]⟩) ++ []=args) (hnd:An.Nodup) (hlt:An.all (· < R.length+1)=true)
  (hp:Bv (x0 :: R) An=rows0) (hs:SR An rows0 rows0) (hf:args.map (IC An)=args') (hlen:rows1.length=An.length) (h1 :∀N,UN An N rows1 rows1) (hv :∀N,O2 An N v=v') (hst':Eg An rows1 0 (x0 :: R)=y0 :: R)
  (hk:IE P k R (ds ++ [some t]) r K ⟨n,Ds e t v',y0,z0⟩):IE P k R ds (⟨some t,.call ⟨.value (.func f),ars,ts⟩,ty,ps,ed,gd⟩ :: r) K ⟨n,e,x0,z0⟩:=
 Ww An hg hb hc ha hnd hlt hp hs hf hlen h1 hv hst' hk
end
section
variable {P : Program} {k : Nat} {s : St} {ops : Array Oper} {Q : Exit → St → Prop} {ds : List (Option Tmp)} {r : List Oper} {n : Nat} {e : Nat → AV} {st st' : List Row} {ty : TypeId} {ps : String} {ed : Array Edge} {d : Option Tmp} {v v' : AV} {gd : Option (Nat × Bool)}
variable {f : FuncId} {ars : Array Operand} {ts : Array TypeId} {args args' : List AV} {rows0 rows1 : List Row}
theorem Bc (An:List Nat) (hg:GO ds gd e) (hb:Aq P f=true) (hc:Ai P f args' rows0 fun r st=>r=v∧st=rows1) (ha:ars.toList.map (St.ev ⟨n,e,st⟩) ++ []=args) (hnd:An.Nodup) (hlt:An.all (· < st.length)=true)
  (hp:Bv st An=rows0) (hs:SR An rows0 rows0) (hf:args.map (IC An)=args') (hlen:rows1.length=An.length) (h1:UN An st.length rows1 rows1) (h2:UN An st.length [] []) (hv:O2 An st.length v=v') (hst':Eg An rows1 0 st=st')
  (hk:AO P k ops Q (ds ++ [d]) r (St.put ⟨n,e,st'⟩ d v')):AO P k ops Q ds (⟨d,.call ⟨.value (.func f),ars,ts⟩,ty,ps,ed,gd⟩ :: r) ⟨n,e,st⟩:=
 Hk (rows2:=[]) (rows2':=[]) An hg hb (by simpa using hc) ha hnd hlt hp hs hf hlen h1 h2 hv (by simpa using hst') hk
end
end Go.Abs



namespace RC
open Go Go.Abs
structure Cell where
 count:Int
 tag:Int
 fields:List Int
def eI (n:Int):List AV:=[.int .i64 n]
def Dk (n:Int):List AV:=[.int .u8 n]
def eB (b:Bool):List AV:=[.bool b]
def eS {α:Type} (e:α→List AV) (l:List α):List AV:=[.sl (l.map e)]
def I6 (n:Int):Prop:=-9223372036854775808≤n∧n≤9223372036854775807
def U8 (n:Int):Prop:=0≤n∧n≤255
def Hy {α:Type} (Qm:α→Prop) (l:List α):Prop:=(∀x∈l,Qm x)∧l.length≤9223372036854775807
end RC



namespace RC
open Go Go.Abs
structure Il (S:Type) where
 steps:List S
 result:Int
inductive Step where
 | mk (op num X9:Int) (args:List Int) (kids:List (Il Step))
abbrev Block:=Il Step
@[reducible] def Block.mk (steps:List Step) (result:Int):Block:=⟨steps,result⟩
def Step.op:Step→Int | .mk o _ _ _ _=>o
def Step.num:Step→Int | .mk _ n _ _ _=>n
def Step.X9:Step→Int | .mk _ _ i _ _=>i
def Step.args:Step→List Int | .mk _ _ _ a _=>a
def Step.kids:Step→List Block | .mk _ _ _ _ k=>k
end RC



namespace RC
open Go Go.Abs
structure Gl where
 fields:List Int
structure Ac where
 from_:Int
 to:Int
 cons:List Gl
structure U4 where
 op:Int
 dst:Int
 num:Int
 X9:Int
 args:List Int
 jumps:List Int
structure Wr where
 params:List Int
 Ee:List Int
 result:Int
 aH:Int
 code:List U4
structure W4 where
 decls:List Ac
 procs:List Wr
structure BW where
 params:List Int
 Ee:List Int
 result:Int
structure BF where
 decls:List Ac
 funcs:List BW
inductive AP where
 | mk (op num:Int) (kids:List AP)
def AP.op:AP→Int | .mk o _ _=>o
def AP.num:AP→Int | .mk _ n _=>n
def AP.kids:AP→List AP | .mk _ _ k=>k
structure Ar where
 params:List Int
 result:Int
 body:AP
structure Af where
 decls:List Ac
 funcs:List Ar
def BJ (c:Gl):List AV:=[.sl (c.fields.map eI)]
def AI (d:Ac):List AV:=[.int .i64 d.from_,.int .i64 d.to,.sl (d.cons.map BJ)]
def Ba (p:BW):List AV:=[.sl (p.params.map eI),.sl (p.Ee.map eI),.int .i64 p.result]
def AZ (x:BF):List AV:=[.sl (x.decls.map AI),.sl (x.funcs.map Ba)]
noncomputable def AD (s:AP):List AV:=
 AP.rec (motive_1:=fun _=>List AV) (motive_2:=fun _=>List (List AV)) (fun o n _ ks=>[.int .i64 o,.int .i64 n,.sl ks]) [] (fun _ _ b bs=>b :: bs) s
theorem Sq (ks:List AP) :
  AP.rec_1 (motive_1:=fun _=>List AV) (motive_2:=fun _=>List (List AV)) (fun o n _ ks=>[.int .i64 o,.int .i64 n,.sl ks]) [] (fun _ _ b bs=>b :: bs) ks=ks.map AD:=by
 induction ks with
 | nil=>rfl
 | cons b ks ih=>exact congrArg (AD b :: ·) ih
theorem Ap (s:AP):AD s=[.int .i64 s.op,.int .i64 s.num,.sl (s.kids.map AD)]:=by
 obtain⟨o,n,k⟩:=s
 exact congrArg (fun x=>[AV.int .i64 o,.int .i64 n,.sl x]) (Sq k)
theorem Ag (s:AP):(AD s).all simple=true:=by rw[Ap];rfl
theorem B8 (s:AP):(AD s).length=3:=by rw[Ap];rfl
noncomputable def AJ (f:Ar):List AV:=[.sl (f.params.map eI),.int .i64 f.result,.int .i64 f.body.op,.int .i64 f.body.num,.sl (f.body.kids.map AD)]
noncomputable def Yz (x:Af):List AV:=[.sl (x.decls.map AI),.sl (x.funcs.map AJ)]
structure XL (c:Gl):Prop where
 fields:Hy I6 c.fields
structure JO (d:Ac):Prop where
 from_:I6 d.from_
 to:I6 d.to
 cons:Hy XL d.cons
end RC



namespace RC
open Go Go.Abs
inductive A2:AP→Prop where
 | mk {e:AP}:I6 e.op→I6 e.num→e.kids.length≤9223372036854775807→(∀k∈e.kids,A2 k)→A2 e
theorem A2.op {e:AP} (h:A2 e):I6 e.op:=by cases h;assumption
theorem A2.num {e:AP} (h:A2 e):I6 e.num:=by cases h;assumption
theorem A2.kids {e:AP} (h:A2 e) :∀k∈e.kids,A2 k:=by cases h;assumption
theorem Xw (a0:List Int) (a1:Int) (a2:AP):AJ ⟨a0,a1,a2⟩=eS eI a0 ++ (eI a1 ++ AD a2):=by rw[Ap];rfl
structure QM (f:Ar):Prop where
 params:Hy I6 f.params
 result:I6 f.result
 body:A2 f.body
structure Td (p:Af):Prop where
 decls:Hy JO p.decls
 funcs:Hy QM p.funcs
structure VP where
 params:List Int
 Ee:List Int
 result:Int
 body:Block
structure GF where
 decls:List Ac
 Y3:List VP
end RC



namespace RC
open Go Go.Abs
end RC



namespace RC
open Go Go.Abs
end RC



namespace RC
open Go Go.Abs
end RC



namespace RC
open Go Go.Abs
end RC


namespace RC
end RC

