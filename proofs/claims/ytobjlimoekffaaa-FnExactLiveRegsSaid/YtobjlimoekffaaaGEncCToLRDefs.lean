import Derived.Test.YtobjlimoekffaaaGEncToEncB
import Derived.Test.YtobjlimoekffaaaAbsW
import Derived.Lib.AppendZerosOnto
import Derived.OrdersHeld

namespace RC
open Go Go.Abs
structure RCon where
 fields : List Int
structure RDecl where
 from_ : Int
 to : Int
 cons : List RCon
structure RInstr where
 op : Int
 dst : Int
 num : Int
 into : Int
 args : List Int
 jumps : List Int
structure RProc where
 params : List Int
 lent : List Int
 result : Int
 regs : Int
 code : List RInstr
structure RImage where
 decls : List RDecl
 procs : List RProc
structure RSignature where
 params : List Int
 lent : List Int
 result : Int
structure RSignatures where
 decls : List RDecl
 funcs : List RSignature
inductive RExpr where
 | mk (op num : Int) (kids : List RExpr)
def RExpr.op : RExpr → Int | .mk o _ _ => o
def RExpr.num : RExpr → Int | .mk _ n _ => n
def RExpr.kids : RExpr → List RExpr | .mk _ _ k => k
structure RFunc where
 params : List Int
 result : Int
 body : RExpr
structure RProgram where
 decls : List RDecl
 funcs : List RFunc
def eRCon (c : RCon) : List AV := [.sl (c.fields.map eI)]
def eRDecl (d : RDecl) : List AV := [.int .i64 d.from_, .int .i64 d.to, .sl (d.cons.map eRCon)]
def eRInstr (i : RInstr) : List AV := [.int .i64 i.op, .int .i64 i.dst, .int .i64 i.num, .int .i64 i.into, .sl (i.args.map eI), .sl (i.jumps.map eI)]
def eRProc (p : RProc) : List AV := [.sl (p.params.map eI), .sl (p.lent.map eI), .int .i64 p.result, .int .i64 p.regs, .sl (p.code.map eRInstr)]
def eRImage (x : RImage) : List AV := [.sl (x.decls.map eRDecl), .sl (x.procs.map eRProc)]
def eRSignature (p : RSignature) : List AV := [.sl (p.params.map eI), .sl (p.lent.map eI), .int .i64 p.result]
def eRSignatures (x : RSignatures) : List AV := [.sl (x.decls.map eRDecl), .sl (x.funcs.map eRSignature)]
noncomputable def eRExpr (s : RExpr) : List AV :=
 RExpr.rec (motive_1 := fun _ => List AV) (motive_2 := fun _ => List (List AV)) (fun o n _ ks => [.int .i64 o, .int .i64 n, .sl ks]) [] (fun _ _ b bs => b :: bs) s
noncomputable def eRFunc (f : RFunc) : List AV := [.sl (f.params.map eI), .int .i64 f.result, .int .i64 f.body.op, .int .i64 f.body.num, .sl (f.body.kids.map eRExpr)]
structure RConIn (c : RCon) : Prop where
 fields : ListIn I64 c.fields
structure RDeclIn (d : RDecl) : Prop where
 from_ : I64 d.from_
 to : I64 d.to
 cons : ListIn RConIn d.cons
structure RInstrIn (i : RInstr) : Prop where
 op : I64 i.op
 dst : I64 i.dst
 num : I64 i.num
 into : I64 i.into
 args : ListIn I64 i.args
 jumps : ListIn I64 i.jumps
structure RProcIn (p : RProc) : Prop where
 params : ListIn I64 p.params
 lent : ListIn I64 p.lent
 result : I64 p.result
 regs : I64 p.regs
 code : ListIn RInstrIn p.code
structure RImageIn (x : RImage) : Prop where
 decls : ListIn RDeclIn x.decls
 procs : ListIn RProcIn x.procs
end RC



namespace Go.Abs
open Go
def deepC : AV → Bool
 | .int .. | .bool _ | .str _ | .zc | .nilp | .nilf | .dv .. => true
 | _ => false
def deepR (xs : List (List AV)) : Prop := ∀ x ∈ xs, ∀ c ∈ x, deepC c = true
theorem repD_of_rep {F S : Nat → Prop} {w : World} {os : List Own} {c : AV} {u : Value} (hc : deepC c = true) (hd : ∀ e s ys, c ≠ .dv e s ys) (h : Rep F w os c u) : RepD S w c u := by
 cases c <;> simp only [deepC, Bool.false_eq_true] at hc <;> simp only [Rep] at h <;> simp only [RepD] <;> first | exact h | exact absurd rfl (hd _ _ _)
theorem rep_of_repD {F S : Nat → Prop} {w : World} {os : List Own} {c : AV} {u : Value} (h : RepD S w c u) : Rep F w os c u ∧ c.kept = true ∧ deepC c = true := by
 cases c <;> simp only [RepD] at h
 case dv =>
  refine ⟨?_, rfl, rfl⟩
  simp only [Rep]
  rcases h.2 with ⟨_, a, rfl⟩ | ⟨b, cap, cur, rfl, _⟩ <;> exact ⟨_, _, _, rfl⟩
 all_goals first | exact h.elim | exact ⟨by simp only [Rep]; exact h, rfl, rfl⟩
theorem repDC_mk {w : World} {cur : Array Value} {D : Nat → Nat → Prop} (hdis : ∀ j j' b, D j b → D j' b → j = j') : ∀ (x : List AV) (o j0 : Nat), (∀ (j : Nat) c, x[j]? = some c → ∃ u, cur[o + j]? = some u ∧ RepD (D (j0 + j)) w c u) →
  RepDC (fun b => ∃ j, j0 ≤ j ∧ D j b) w x cur o
 | [], _, _, _ => by simp [RepDC]
 | c :: r, o, j0, h => by
  simp only [RepDC]
  obtain ⟨u, h1, h2⟩ := h 0 c rfl
  refine ⟨D j0, fun b => ∃ j, j0 + 1 ≤ j ∧ D j b, fun b hb => ⟨j0, Nat.le_refl _, hb⟩, fun b ⟨j, hj, hb⟩ => ⟨j, by omega, hb⟩, fun b hb ⟨j, hj, hb'⟩ => by have := hdis _ _ _ hb hb'; omega, ⟨u, h1, h2⟩, ?_⟩
  exact repDC_mk hdis r (o + 1) (j0 + 1) fun j c hc => by
   obtain ⟨u, h1, h2⟩ := h (j + 1) c (by simpa using hc)
   exact ⟨u, by rw [← h1]; congr 1; omega, by rw [show j0 + 1 + j = j0 + (j + 1) by omega]; exact h2⟩
theorem repDR_mk {w : World} {cur : Array Value} {size : Nat} {D : Nat → Nat → Nat → Prop} (hdis : ∀ i j i' j' b, D i j b → D i' j' b → i = i' ∧ j = j') : ∀ (xs : List (List AV)) (o i0 : Nat), (∀ x ∈ xs, x.length = size) →
  (∀ (i : Nat) x, xs[i]? = some x → ∀ (j : Nat) c, x[j]? = some c → ∃ u, cur[o + i * size + j]? = some u ∧ RepD (D (i0 + i) j) w c u) → RepDR (fun b => ∃ i j, i0 ≤ i ∧ D i j b) w xs cur o
 | [], _, _, _, _ => by simp [RepDR]
 | x :: r, o, i0, hs, h => by
  simp only [RepDR]
  refine ⟨fun b => ∃ j, 0 ≤ j ∧ D i0 j b, fun b => ∃ i j, i0 + 1 ≤ i ∧ D i j b, fun b ⟨j, _, hb⟩ => ⟨i0, j, Nat.le_refl _, hb⟩, fun b ⟨i, j, hi, hb⟩ => ⟨i, j, by omega, hb⟩, fun b ⟨j, _, hb⟩ ⟨i, j', hi, hb'⟩ => by have := (hdis _ _ _ _ _ hb hb').1; omega, ?_, ?_⟩
  ·exact repDC_mk (D := D i0) (fun j j' b h1 h2 => (hdis _ _ _ _ _ h1 h2).2) x o 0 fun j c hc => by
    obtain ⟨u, h1, h2⟩ := h 0 x rfl j c hc
    exact ⟨u, by rw [← h1]; congr 1; omega, by simpa using h2⟩
  ·rw [hs x (by simp)]
   exact repDR_mk hdis r (o + size) (i0 + 1) (fun x hx => hs x (by simp [hx])) fun i y hy j c hc => by
    obtain ⟨u, h1, h2⟩ := h (i + 1) y (by simpa using hy) j c hc
    exact ⟨u, by rw [← h1]; congr 1; rw [Nat.add_mul]; omega, by rw [show i0 + 1 + i = i0 + (i + 1) by omega]; exact h2⟩
theorem repDC_get {w : World} {cur : Array Value} : ∀ {x : List AV} {S : Nat → Prop} {o : Nat}, RepDC S w x cur o → ∃ D : Nat → Nat → Prop, (∀ j b, D j b → S b) ∧ (∀ j j' b, D j b → D j' b → j = j') ∧
  ∀ (j : Nat) c, x[j]? = some c → ∃ u, cur[o + j]? = some u ∧ RepD (D j) w c u
 | [], _, _, _ => ⟨fun _ _ => False, fun _ _ h => h.elim, fun _ _ _ h => h.elim, fun j c h => by simp at h⟩
 | c :: r, S, o, h => by
  simp only [RepDC] at h
  obtain ⟨S1, S2, h1, h2, h3, ⟨u, h4, h5⟩, h6⟩ := h
  obtain ⟨D, d1, d2, d3⟩ := repDC_get h6
  refine ⟨fun j => match j with | 0 => S1 | j + 1 => D j, fun j b hb => ?_, fun j j' b hb hb' => ?_, fun j c' hc => ?_⟩
  ·cases j with
   | zero => exact h1 b hb
   | succ j => exact h2 b (d1 j b hb)
  ·cases j with
   | zero =>
    cases j' with
    | zero => rfl
    | succ j' => exact absurd (d1 j' b hb') (h3 b hb)
   | succ j =>
    cases j' with
    | zero => exact absurd (d1 j b hb) (h3 b hb')
    | succ j' => rw [d2 j j' b hb hb']
  ·cases j with
   | zero => simp only [List.getElem?_cons_zero, Option.some.injEq] at hc; subst hc; exact ⟨u, h4, h5⟩
   | succ j =>
    obtain ⟨u', g1, g2⟩ := d3 j c' (by simpa using hc)
    exact ⟨u', by rw [← g1]; congr 1; omega, g2⟩
theorem repDR_get {w : World} {cur : Array Value} {size : Nat} : ∀ {xs : List (List AV)} {S : Nat → Prop} {o : Nat}, (∀ x ∈ xs, x.length = size) → RepDR S w xs cur o → ∃ D : Nat → Nat → Nat → Prop, (∀ i j b, D i j b → S b) ∧
  (∀ i j i' j' b, D i j b → D i' j' b → i = i' ∧ j = j') ∧ ∀ (i : Nat) x, xs[i]? = some x → ∀ (j : Nat) c, x[j]? = some c → ∃ u, cur[o + i * size + j]? = some u ∧ RepD (D i j) w c u
 | [], _, _, _, _ => ⟨fun _ _ _ => False, fun _ _ _ h => h.elim, fun _ _ _ _ _ h => h.elim, fun i x h => by simp at h⟩
 | x :: r, S, o, hs, h => by
  simp only [RepDR] at h
  obtain ⟨S1, S2, h1, h2, h3, h4, h5⟩ := h
  obtain ⟨E, e1, e2, e3⟩ := repDC_get h4
  obtain ⟨D, d1, d2, d3⟩ := repDR_get (fun x hx => hs x (by simp [hx])) h5
  refine ⟨fun i => match i with | 0 => E | i + 1 => D i, fun i j b hb => ?_, fun i j i' j' b hb hb' => ?_, fun i y hy j c hc => ?_⟩
  ·cases i with
   | zero => exact h1 b (e1 j b hb)
   | succ i => exact h2 b (d1 i j b hb)
  ·cases i with
   | zero =>
    cases i' with
    | zero => exact ⟨rfl, e2 j j' b hb hb'⟩
    | succ i' => exact absurd (d1 i' j' b hb') (h3 b (e1 j b hb))
   | succ i =>
    cases i' with
    | zero => exact absurd (d1 i j b hb) (h3 b (e1 j' b hb'))
    | succ i' =>
     obtain ⟨q1, q2⟩ := d2 i j i' j' b hb hb'
     exact ⟨by rw [q1], q2⟩
  ·cases i with
   | zero =>
    simp only [List.getElem?_cons_zero, Option.some.injEq] at hy; subst hy
    obtain ⟨u, g1, g2⟩ := e3 j c hc
    exact ⟨u, by rw [← g1]; congr 1; omega, g2⟩
   | succ i =>
    obtain ⟨u, g1, g2⟩ := d3 i y (by simpa using hy) j c hc
    rw [hs x (by simp)] at g1
    exact ⟨u, by rw [← g1]; congr 1; rw [Nat.add_mul]; omega, g2⟩
variable {P : Program} {F : Nat → Prop} {os : List Own} {s : St} {a : Act} {w : World} {k : Nat}
theorem ownOK_repD {p : Own} (h : OwnOK F w os p) (hd : deepR p.row.xs) {v : Value} (hv : (p.blk = none ∧ ∃ a, v = .slice a p.row.xs.length 0) ∨ ∃ b, p.blk = some b ∧ v = .slice (some ⟨b, 0, none⟩) p.row.xs.length p.cap) :
  RepD p.owns w (.dv p.row.elem p.row.size p.row.xs) v := by
 simp only [RepD]
 refine ⟨h.pos, ?_⟩
 rcases hv with ⟨hb, a, rfl⟩ | ⟨b, hb, rfl⟩
 ·have := (h.none hb).1
  exact .inl ⟨this, a, by rw [this]; rfl⟩
 ·obtain ⟨_, cur, hcur, hsz, hle, hmax, hcells⟩ := h.some b hb
  obtain ⟨D, d1, d2, d3⟩ := h.deep
  refine .inr ⟨b, p.cap, cur, rfl, hle, hmax, .inl hb, hcur, hsz, fun x hx => (h.lens x hx).1, ?_⟩
  have := repDR_mk (w := w) (cur := cur) (size := p.row.size) d2 p.row.xs 0 0 (fun x hx => (h.lens x hx).1) (fun i x hx j c hc => by
   simp only [Nat.zero_add]
   by_cases hdv : ∃ e s ys, c = .dv e s ys
   ·obtain ⟨e, s, ys, rfl⟩ := hdv
    exact d3 b hb cur _ _ hcur i x j e s ys hx hc
   ·obtain ⟨u, g1, g2⟩ := hcells i x hx j c hc
    exact ⟨u, g1, repD_of_rep (hd x (List.mem_of_getElem? hx) c (List.mem_of_getElem? hc)) (fun e s ys e' => hdv ⟨e, s, ys, e'⟩) g2⟩)
  exact repDR_mono (fun c ⟨i, j, _, hc⟩ => ⟨.inr (d1 i j c hc), fun e => (h.mo c (d1 i j c hc)).2.2 (by rw [hb, e])⟩) (fun _ _ => rfl) _ _ _ this
theorem Wk.adoptD {id m g gm size sz n i j nn : Nat} {el el' : TypeId} {xs ys : List (List AV)} {x : List AV} {e : Nat → AV} {st st' : List Row} (hrow : st[id]? = some ⟨g, el, size, xs⟩) (hx : xs[i]? = some x) (hc : x[j]? = some (.own m gm n))
  (hm : st[m]? = some ⟨gm, el', sz, ys⟩) (hn : n = ys.length) (hne : id ≠ m) (hkm : k ≤ m) (hd : deepR ys) (hst : (st.set id ⟨g, el, size, xs.set i (x.set j (.dv el' sz ys))⟩).set m ⟨gm + 1, el', sz, []⟩ = st') :
  Wk k ⟨nn, e, st⟩ ⟨nn, e, st'⟩ := fun F os a w hr => by
 subst hst; subst hn
 obtain ⟨o, ho, hor⟩ := hr.row hrow
 obtain ⟨p, hp, hpr⟩ := hr.row hm
 have hok := hr.rows id o ho
 have hpk := hr.rows m p hp
 have hst : os.map Own.row = st := hr.st
 have hxs : o.row.xs = xs := by rw [hor]
 have hpx : p.row.xs = ys := by rw [hpr]
 let o' : Own := { o with row := { o.row with xs := xs.set i (x.set j (.dv el' sz ys)) }, more := fun b => o.more b ∨ p.owns b }
 let p' : Own := ⟨{ p.row with gen := p.row.gen + 1, xs := [] }, none, 0, none'⟩
 have hil : i < xs.length := (List.getElem?_eq_some_iff.1 hx).1
 have hjl : j < x.length := (List.getElem?_eq_some_iff.1 hc).1
 have hidl := (List.getElem?_eq_some_iff.1 ho).1
 have hml := (List.getElem?_eq_some_iff.1 hp).1
 have hdis : ∀ b, o.owns b → ¬ p.owns b := fun b h1 h2 => hne (hr.inj id m o p b ho hp h1 h2)
 have hget : ∀ (q : Nat) (oq : Own), ((os.set id o').set m p')[q]? = some oq → (q ≠ id ∧ q ≠ m ∧ os[q]? = some oq) ∨ (q = id ∧ oq = o') ∨ (q = m ∧ oq = p') := fun q oq hq => by
  by_cases e : q = m
  ·subst e
   rw [List.getElem?_set_self (by simpa using hml), Option.some.injEq] at hq
   exact .inr (.inr ⟨rfl, hq.symm⟩)
  ·rw [List.getElem?_set_ne (Ne.symm e)] at hq
   by_cases e2 : q = id
   ·subst e2
    rw [List.getElem?_set_self hidl, Option.some.injEq] at hq
    exact .inr (.inl ⟨rfl, hq.symm⟩)
   ·rw [List.getElem?_set_ne (Ne.symm e2)] at hq
    exact .inl ⟨e2, e, hq⟩
 have hos : HosLe os ((os.set id o').set m p') := fun q oq hq => by
  by_cases e : q = m
  ·subst e
   rw [hp] at hq; cases hq
   exact ⟨p', List.getElem?_set_self (by simpa using hml), Nat.le_succ _, rfl, fun e => by simp [p'] at e⟩
  ·rw [List.getElem?_set_ne (Ne.symm e)]
   by_cases e2 : q = id
   ·subst e2
    rw [ho] at hq; cases hq
    exact ⟨o', List.getElem?_set_self hidl, Nat.le_refl _, rfl, fun _ => ⟨rfl, rfl, by simp [o', hxs]⟩⟩
   ·rw [List.getElem?_set_ne (Ne.symm e2)]
    exact ⟨oq, hq, Nat.le_refl _, rfl, fun _ => ⟨rfl, rfl, rfl⟩⟩
 have hmono : ∀ y v, Rep F w os y v → Rep F w ((os.set id o').set m p') y v := fun y v h => rep_mono (fun _ h => h) (fun _ _ => rfl) os _ hos y v h
 have howns : ∀ b, o'.owns b → o.owns b ∨ p.owns b := fun b hb => by
  rcases hb with hb | hb | hb
  ·exact .inl (.inl hb)
  ·exact .inl (.inr hb)
  ·exact .inr hb
 have hpn : ∀ b, ¬ p'.owns b := fun b hb => by
  rcases hb with hb | hb
  ·simp [p'] at hb
  ·exact hb
 obtain ⟨bo, hbo⟩ : ∃ b, o.blk = some b := by
  cases hb : o.blk with
  | none => have := (hok.none hb).1; rw [hxs] at this; rw [this] at hil; simp at hil
  | some b => exact ⟨b, rfl⟩
 obtain ⟨hnF, cur, hcur, hsz, hle, hmax, hcells⟩ := hok.some bo hbo
 obtain ⟨uv, hu1, hu2⟩ := hcells i x (by rw [hxs]; exact hx) j _ hc
 have huv : (p.blk = none ∧ ∃ a, uv = .slice a p.row.xs.length 0) ∨ ∃ b, p.blk = some b ∧ uv = .slice (some ⟨b, 0, none⟩) p.row.xs.length p.cap := by
  simp only [Rep] at hu2
  obtain ⟨q, hq, _, _, hv⟩ := hu2
  rw [hp] at hq; cases hq
  have := (hv (by rw [hpr])).2
  rw [hpx] at this ⊢; simpa only [Nat.sub_self, Nat.zero_mul, Nat.sub_zero] using this
 have hRD : RepD p.owns w (.dv el' sz ys) uv := by
  have := ownOK_repD hpk (by rw [hpx]; exact hd) huv
  rw [hpr] at this; exact this
 refine ⟨F, (os.set id o').set m p', ⟨?_, fun t => hmono _ _ (hr.env t), hr.size, fun q oq hq => ?_, fun q q' oq oq' b hq hq' hb hb' => ?_, hr.old, hr.defers⟩, ⟨rfl, rfl, rfl, Nat.le_refl _, fun _ h => h, fun _ _ => rfl, fun b _ h1 h2 => ⟨rfl, h1, fun oq hoq hb => ?_⟩, fun q oq _ hq => hos q oq hq⟩⟩
 ·rw [List.map_set, List.map_set, hst]
  simp only [o', p', hor, hpr]
 ·rcases hget q oq hq with ⟨_, _, h⟩ | ⟨_, rfl⟩ | ⟨_, rfl⟩
  ·have h0 := hr.rows q oq h
   refine ⟨h0.pos, h0.lens, h0.none, fun b hb => ?_, h0.mo, h0.deep⟩
   obtain ⟨e1, cur, e2, e3, e4, e5, e6⟩ := h0.some b hb
   exact ⟨e1, cur, e2, e3, e4, e5, fun i' y hy j' c hc => by obtain ⟨u, f1, f2⟩ := e6 i' y hy j' c hc; exact ⟨u, f1, hmono _ _ f2⟩⟩
  ·refine ⟨hok.pos, fun y hy => ?_, (fun hn => by simp only [o'] at hn; rw [hbo] at hn; cases hn), fun b hb => ?_, fun b hb => ?_, ?_⟩
   ·rcases List.mem_or_eq_of_mem_set hy with hy | rfl
    ·exact hok.lens y (by rw [hxs]; exact hy)
    ·have h0 := hok.lens x (by rw [hxs]; exact List.mem_of_getElem? hx)
     refine ⟨by rw [List.length_set]; exact h0.1, fun c hcm => ?_⟩
     rcases List.mem_or_eq_of_mem_set hcm with h | rfl
     ·exact h0.2 c h
     ·rfl
   ·simp only [o'] at hb
    rw [hbo] at hb; cases hb
    refine ⟨hnF, cur, hcur, hsz, by simpa [o', hxs] using hle, hmax, fun i' y hy j' c hcy => ?_⟩
    simp only [o'] at hy ⊢
    by_cases hi : i' = i
    ·subst hi
     rw [List.getElem?_set_self hil, Option.some.injEq] at hy
     subst hy
     by_cases hj : j' = j
     ·subst hj
      rw [List.getElem?_set_self hjl, Option.some.injEq] at hcy
      subst hcy
      exact ⟨uv, hu1, (rep_of_repD hRD).1⟩
     ·rw [List.getElem?_set_ne (Ne.symm hj)] at hcy
      obtain ⟨u, f1, f2⟩ := hcells i' x (by rw [hxs]; exact hx) j' c hcy
      exact ⟨u, f1, hmono _ _ f2⟩
    ·rw [List.getElem?_set_ne (Ne.symm hi)] at hy
     obtain ⟨u, f1, f2⟩ := hcells i' y (by rw [hxs]; exact hy) j' c hcy
     exact ⟨u, f1, hmono _ _ f2⟩
   ·rcases hb with hb | hb
    ·exact hok.mo b hb
    ·exact ⟨hpk.nF hb, hpk.lt hb, fun e => hdis b (.inl e) hb⟩
   ·obtain ⟨D, d1, d2, d3⟩ := hok.deep
    refine ⟨fun i' j' b => if i' = i ∧ j' = j then p.owns b else D i' j' b, fun i' j' b hb => ?_, fun i1 j1 i2 j2 b h1 h2 => ?_, fun b hb cur' el2 l hcur' i' y j' e2 s2 zs hy hcy => ?_⟩
    ·simp only at hb
     split at hb
     ·exact .inr hb
     ·exact .inl (d1 i' j' b hb)
    ·simp only at h1 h2
     split at h1 <;> split at h2
     ·rename_i q1 q2; exact ⟨q1.1.trans q2.1.symm, q1.2.trans q2.2.symm⟩
     ·exact absurd h1 (hdis b (.inr (d1 _ _ _ h2)))
     ·exact absurd h2 (hdis b (.inr (d1 _ _ _ h1)))
     ·exact d2 _ _ _ _ _ h1 h2
    ·simp only [o'] at hb hy ⊢
     rw [hbo] at hb; cases hb
     rw [hcur] at hcur'; cases hcur'
     by_cases hij : i' = i ∧ j' = j
     ·obtain ⟨rfl, rfl⟩ := hij
      rw [List.getElem?_set_self hil, Option.some.injEq] at hy
      subst hy
      rw [List.getElem?_set_self hjl, Option.some.injEq] at hcy
      cases hcy
      exact ⟨uv, hu1, by simpa using hRD⟩
     ·have hold : ∃ y0, o.row.xs[i']? = some y0 ∧ y0[j']? = some (.dv e2 s2 zs) := by
       rw [hxs]
       by_cases hi : i' = i
       ·subst hi
        rw [List.getElem?_set_self hil, Option.some.injEq] at hy
        subst hy
        have hj : j' ≠ j := fun e => hij ⟨rfl, e⟩
        rw [List.getElem?_set_ne (Ne.symm hj)] at hcy
        exact ⟨x, hx, hcy⟩
       ·rw [List.getElem?_set_ne (Ne.symm hi)] at hy
        exact ⟨y, hy, hcy⟩
      obtain ⟨y0, hy0, hc0⟩ := hold
      obtain ⟨u, f1, f2⟩ := d3 bo hbo cur _ _ hcur i' y0 j' e2 s2 zs hy0 hc0
      exact ⟨u, f1, by simpa only [hij, if_false] using f2⟩
  ·exact ⟨hpk.pos, by simp [p'], by simp [p'], by simp [p'], fun b hb => hb.elim, DeepOK.flat (by simp [p'])⟩
 ·rcases hget q oq hq with ⟨q1, q2, h⟩ | ⟨rfl, rfl⟩ | ⟨_, rfl⟩ <;> rcases hget q' oq' hq' with ⟨q1', q2', h'⟩ | ⟨rfl, rfl⟩ | ⟨_, rfl⟩
  ·exact hr.inj q q' oq oq' b h h' hb hb'
  ·rcases howns b hb' with e | e
   ·exact hr.inj q _ oq o b h ho hb e
   ·exact absurd (hr.inj q m oq p b h hp hb e) q2
  ·exact absurd hb' (hpn b)
  ·rcases howns b hb with e | e
   ·exact hr.inj _ q' o oq' b ho h' e hb'
   ·exact absurd (hr.inj m q' p oq' b hp h' e hb').symm q2'
  ·rfl
  ·exact absurd hb' (hpn b)
  ·exact absurd hb (hpn b)
  ·exact absurd hb (hpn b)
  ·exact absurd hb (hpn b)
 ·obtain ⟨q, hq⟩ := List.mem_iff_getElem?.1 hoq
  rcases hget q oq hq with ⟨_, _, h⟩ | ⟨_, rfl⟩ | ⟨_, rfl⟩
  ·exact h2 oq (List.mem_of_getElem? h) hb
  ·rcases howns b hb with e | e
   ·exact h2 o (List.mem_of_getElem? ho) e
   ·exact h2 p (List.mem_of_getElem? hp) e
  ·exact hpn b hb
end Go.Abs



namespace Go.Abs
open Go
variable {P : Program} {F : Nat → Prop} {os : List Own} {s : St} {a : Act} {w : World} {k : Nat}
theorem own_of_repD {S : Nat → Prop} {el sz : Nat} {ys : List (List AV)} {u : Value} (hS : ∀ b, S b → ¬ F b ∧ b < w.heap.size) (h : RepD S w (.dv el sz ys) u) :
  ∃ p : Own, p.row = ⟨0, el, sz, ys⟩ ∧ (∀ b, p.owns b → S b) ∧ (∀ os, OwnOK F w os p) ∧ ((p.blk = none ∧ ∃ a, u = .slice a ys.length 0) ∨ ∃ b, p.blk = some b ∧ u = .slice (some ⟨b, 0, none⟩) ys.length p.cap) := by
 simp only [RepD] at h
 obtain ⟨hp, h⟩ := h
 rcases h with ⟨rfl, a, rfl⟩ | ⟨b, cap, cur, rfl, h2, h3, h4, h5, h6, h7, h8⟩
 ·refine ⟨⟨⟨0, el, sz, []⟩, none, 0, none'⟩, rfl, fun b hb => ?_, fun os => ⟨hp, by simp, by simp, by simp, fun b hb => hb.elim, DeepOK.flat (by simp)⟩, .inl ⟨rfl, a, rfl⟩⟩
  rcases hb with hb | hb
  ·cases hb
  ·exact hb.elim
 ·obtain ⟨D, d1, d2, d3⟩ := repDR_get h7 h8
  refine ⟨⟨⟨0, el, sz, ys⟩, some b, cap, fun c => S c ∧ c ≠ b⟩, rfl, fun c hc => ?_, fun os => ⟨hp, fun x hx => ⟨h7 x hx, fun c hc => ?_⟩, by simp, fun b' hb' => ?_, fun c hc => ⟨(hS c hc.1).1, (hS c hc.1).2, fun e => hc.2 (by simpa using e.symm)⟩, ⟨D, d1, d2, fun b' hb' cur' el2 l hcur' i x j e s zs hx hc => ?_⟩⟩, .inr ⟨b, rfl, rfl⟩⟩
  ·rcases hc with hc | hc
   ·cases hc; exact h4
   ·exact hc.1
  ·obtain ⟨i, hi⟩ := List.mem_iff_getElem?.1 hx
   obtain ⟨j, hj⟩ := List.mem_iff_getElem?.1 hc
   obtain ⟨u, _, g2⟩ := d3 i x hi j c hj
   exact (rep_of_repD (F := F) (os := os) g2).2.1
  ·simp only [Option.some.injEq] at hb'
   subst hb'
   refine ⟨(hS _ h4).1, cur, h5, h6, h2, h3, fun i x hx j c hc => ?_⟩
   obtain ⟨u, g1, g2⟩ := d3 i x hx j c hc
   exact ⟨u, by simpa using g1, (rep_of_repD g2).1⟩
  ·simp only [Option.some.injEq] at hb'
   subst hb'
   rw [h5] at hcur'; cases hcur'
   obtain ⟨u, g1, g2⟩ := d3 i x hx j _ hc
   exact ⟨u, by simpa using g1, g2⟩
theorem Wk.expelD {id m g size sz n i j nn : Nat} {el el' : TypeId} {xs ys : List (List AV)} {x : List AV} {e : Nat → AV} {st st' : List Row} (hrow : st[id]? = some ⟨g, el, size, xs⟩) (hx : xs[i]? = some x) (hc : x[j]? = some (.dv el' sz ys))
  (hm : st.length = m) (hn : n = ys.length) (hst : st.set id ⟨g, el, size, xs.set i (x.set j (.own m 0 n))⟩ ++ [⟨0, el', sz, ys⟩] = st') : Wk k ⟨nn, e, st⟩ ⟨nn, e, st'⟩ := fun F os a w hr => by
 subst hst; subst hn; subst hm
 obtain ⟨o, ho, hor⟩ := hr.row hrow
 have hok := hr.rows id o ho
 have hst : os.map Own.row = st := hr.st
 have hol : os.length = st.length := by rw [← hst]; simp
 have hxs : o.row.xs = xs := by rw [hor]
 have hil : i < xs.length := (List.getElem?_eq_some_iff.1 hx).1
 have hjl : j < x.length := (List.getElem?_eq_some_iff.1 hc).1
 have hidl := (List.getElem?_eq_some_iff.1 ho).1
 obtain ⟨bo, hbo⟩ : ∃ b, o.blk = some b := by
  cases hb : o.blk with
  | none => have := (hok.none hb).1; rw [hxs] at this; rw [this] at hil; simp at hil
  | some b => exact ⟨b, rfl⟩
 obtain ⟨hnF, cur, hcur, hsz, hle, hmax, hcells⟩ := hok.some bo hbo
 obtain ⟨D, d1, d2, d3⟩ := hok.deep
 obtain ⟨uv, hu1, hu2⟩ := d3 bo hbo cur _ _ hcur i x j el' sz ys (by rw [hxs]; exact hx) hc
 obtain ⟨p, hpr, hpo, hpk, hpv⟩ := own_of_repD (F := F) (fun b hb => ⟨(hok.mo b (d1 _ _ _ hb)).1, (hok.mo b (d1 _ _ _ hb)).2.1⟩) hu2
 let o' : Own := { o with row := { o.row with xs := xs.set i (x.set j (.own st.length 0 ys.length)) }, more := fun b => o.more b ∧ ¬ D i j b }
 have hget : ∀ (q : Nat) (oq : Own), (os.set id o' ++ [p])[q]? = some oq → (q ≠ id ∧ q < os.length ∧ os[q]? = some oq) ∨ (q = id ∧ oq = o') ∨ (q = os.length ∧ oq = p) := fun q oq hq => by
  rcases Nat.lt_trichotomy q os.length with h | h | h
  ·rw [List.getElem?_append_left (by simpa using h)] at hq
   by_cases e2 : q = id
   ·subst e2
    rw [List.getElem?_set_self hidl, Option.some.injEq] at hq
    exact .inr (.inl ⟨rfl, hq.symm⟩)
   ·rw [List.getElem?_set_ne (Ne.symm e2)] at hq
    exact .inl ⟨e2, h, hq⟩
  ·subst h
   rw [List.getElem?_append_right (by simp)] at hq
   simp at hq
   exact .inr (.inr ⟨rfl, hq.symm⟩)
  ·rw [List.getElem?_eq_none (by simp; omega)] at hq; cases hq
 have hpget : (os.set id o' ++ [p])[st.length]? = some p := by
  rw [List.getElem?_append_right (by simp; omega)]
  simp [hol]
 have hos : HosLe os (os.set id o' ++ [p]) := fun q oq hq => by
  have hql := (List.getElem?_eq_some_iff.1 hq).1
  rw [List.getElem?_append_left (by simpa using hql)]
  by_cases e2 : q = id
  ·subst e2
   rw [ho] at hq; cases hq
   exact ⟨o', List.getElem?_set_self hidl, Nat.le_refl _, rfl, fun _ => ⟨rfl, rfl, by simp [o', hxs]⟩⟩
  ·rw [List.getElem?_set_ne (Ne.symm e2)]
   exact ⟨oq, hq, Nat.le_refl _, rfl, fun _ => ⟨rfl, rfl, rfl⟩⟩
 have hmono : ∀ y v, Rep F w os y v → Rep F w (os.set id o' ++ [p]) y v := fun y v h => rep_mono (fun _ h => h) (fun _ _ => rfl) os _ hos y v h
 have ho'o : ∀ b, o'.owns b → o.owns b := fun b hb => by
  rcases hb with hb | hb
  ·exact .inl hb
  ·exact .inr hb.1
 have hpoo : ∀ b, p.owns b → o.owns b := fun b hb => .inr (d1 _ _ _ (hpo b hb))
 have hdis : ∀ b, o'.owns b → ¬ p.owns b := fun b h1 h2 => by
  have h3 := hpo b h2
  rcases h1 with h1 | h1
  ·exact (hok.mo b (d1 _ _ _ h3)).2.2 h1
  ·exact h1.2 h3
 have hnew : Rep F w (os.set id o' ++ [p]) (.own st.length 0 ys.length) uv := by
  simp only [Rep]
  refine ⟨p, hpget, Nat.zero_le _, ?_, fun _ => ⟨by rw [hpr]; exact Nat.le_refl _, by rw [hpr]; simpa only [Nat.sub_self, Nat.zero_mul, Nat.sub_zero] using hpv⟩⟩
  rcases hpv with ⟨_, a, rfl⟩ | ⟨b, _, rfl⟩ <;> exact ⟨_, _, _, rfl⟩
 refine ⟨F, os.set id o' ++ [p], ⟨?_, fun t => hmono _ _ (hr.env t), hr.size, fun q oq hq => ?_, fun q q' oq oq' b hq hq' hb hb' => ?_, hr.old, hr.defers⟩, ⟨rfl, rfl, rfl, Nat.le_refl _, fun _ h => h, fun _ _ => rfl, fun b _ h1 h2 => ⟨rfl, h1, fun oq hoq hb => ?_⟩, fun q oq _ hq => hos q oq hq⟩⟩
 ·rw [List.map_append, List.map_set, hst]
  simp only [o', hor, List.map_cons, List.map_nil, hpr]
 ·rcases hget q oq hq with ⟨_, _, h⟩ | ⟨_, rfl⟩ | ⟨_, rfl⟩
  ·have h0 := hr.rows q oq h
   refine ⟨h0.pos, h0.lens, h0.none, fun b hb => ?_, h0.mo, h0.deep⟩
   obtain ⟨e1, cur, e2, e3, e4, e5, e6⟩ := h0.some b hb
   exact ⟨e1, cur, e2, e3, e4, e5, fun i' y hy j' c hc => by obtain ⟨u, f1, f2⟩ := e6 i' y hy j' c hc; exact ⟨u, f1, hmono _ _ f2⟩⟩
  ·refine ⟨hok.pos, fun y hy => ?_, (fun hn => by simp only [o'] at hn; rw [hbo] at hn; cases hn), fun b hb => ?_, fun b hb => hok.mo b hb.1, ?_⟩
   ·rcases List.mem_or_eq_of_mem_set hy with hy | rfl
    ·exact hok.lens y (by rw [hxs]; exact hy)
    ·have h0 := hok.lens x (by rw [hxs]; exact List.mem_of_getElem? hx)
     refine ⟨by rw [List.length_set]; exact h0.1, fun c hcm => ?_⟩
     rcases List.mem_or_eq_of_mem_set hcm with h | rfl
     ·exact h0.2 c h
     ·rfl
   ·simp only [o'] at hb
    rw [hbo] at hb; cases hb
    refine ⟨hnF, cur, hcur, hsz, by simpa [o', hxs] using hle, hmax, fun i' y hy j' c hcy => ?_⟩
    simp only [o'] at hy ⊢
    by_cases hi : i' = i
    ·subst hi
     rw [List.getElem?_set_self hil, Option.some.injEq] at hy
     subst hy
     by_cases hj : j' = j
     ·subst hj
      rw [List.getElem?_set_self hjl, Option.some.injEq] at hcy
      subst hcy
      exact ⟨uv, hu1, hnew⟩
     ·rw [List.getElem?_set_ne (Ne.symm hj)] at hcy
      obtain ⟨u, f1, f2⟩ := hcells i' x (by rw [hxs]; exact hx) j' c hcy
      exact ⟨u, f1, hmono _ _ f2⟩
    ·rw [List.getElem?_set_ne (Ne.symm hi)] at hy
     obtain ⟨u, f1, f2⟩ := hcells i' y (by rw [hxs]; exact hy) j' c hcy
     exact ⟨u, f1, hmono _ _ f2⟩
   ·refine ⟨fun i' j' b => if i' = i ∧ j' = j then False else D i' j' b, fun i' j' b hb => ?_, fun i1 j1 i2 j2 b h1 h2 => ?_, fun b hb cur' el2 l hcur' i' y j' e2 s2 zs hy hcy => ?_⟩
    ·simp only at hb
     split at hb
     ·exact hb.elim
     ·rename_i hij
      exact ⟨d1 i' j' b hb, fun h => hij (d2 _ _ _ _ _ hb h)⟩
    ·simp only at h1 h2
     split at h1 <;> split at h2 <;> first | exact h1.elim | exact h2.elim | exact d2 _ _ _ _ _ h1 h2
    ·simp only [o'] at hb hy ⊢
     rw [hbo] at hb; cases hb
     rw [hcur] at hcur'; cases hcur'
     have hold : (¬ (i' = i ∧ j' = j)) ∧ ∃ y0, o.row.xs[i']? = some y0 ∧ y0[j']? = some (.dv e2 s2 zs) := by
      rw [hxs]
      by_cases hi : i' = i
      ·subst hi
       rw [List.getElem?_set_self hil, Option.some.injEq] at hy
       subst hy
       by_cases hj : j' = j
       ·subst hj
        rw [List.getElem?_set_self hjl, Option.some.injEq] at hcy
        cases hcy
       ·rw [List.getElem?_set_ne (Ne.symm hj)] at hcy
        exact ⟨fun h => hj h.2, x, hx, hcy⟩
      ·rw [List.getElem?_set_ne (Ne.symm hi)] at hy
       exact ⟨fun h => hi h.1, y, hy, hcy⟩
     obtain ⟨hij, y0, hy0, hc0⟩ := hold
     obtain ⟨u, f1, f2⟩ := d3 bo hbo cur _ _ hcur i' y0 j' e2 s2 zs hy0 hc0
     exact ⟨u, f1, by simpa only [hij, if_false] using f2⟩
  ·exact hpk _
 ·rcases hget q oq hq with ⟨q1, q2, h⟩ | ⟨rfl, rfl⟩ | ⟨rfl, rfl⟩ <;> rcases hget q' oq' hq' with ⟨q1', q2', h'⟩ | ⟨rfl, rfl⟩ | ⟨rfl, rfl⟩
  ·exact hr.inj q q' oq oq' b h h' hb hb'
  ·exact hr.inj q _ oq o b h ho hb (ho'o b hb')
  ·exact absurd (hr.inj q id oq o b h ho hb (hpoo b hb')) q1
  ·exact hr.inj _ q' o oq' b ho h' (ho'o b hb) hb'
  ·rfl
  ·exact absurd hb' (hdis b hb)
  ·exact absurd (hr.inj id q' o oq' b ho h' (hpoo b hb) hb').symm q1'
  ·exact absurd hb (hdis b hb')
  ·rfl
 ·obtain ⟨q, hq⟩ := List.mem_iff_getElem?.1 hoq
  rcases hget q oq hq with ⟨_, _, h⟩ | ⟨_, rfl⟩ | ⟨_, rfl⟩
  ·exact h2 oq (List.mem_of_getElem? h) hb
  ·exact h2 o (List.mem_of_getElem? ho) (ho'o b hb)
  ·exact h2 o (List.mem_of_getElem? ho) (hpoo b hb)
variable {α β : Type} {l : List α} {enc : α → List AV}
def hole (l : List α) (enc : α → List AV) (i : Int) (x : List AV) : List (List AV) := (l.map enc).set i.toNat x
theorem hole_full {i : Int} {u : α} {x : List AV} (h : x = enc u) : hole l enc i x = (Sh.put l i u).map enc := by subst h; exact map_put
theorem hole_get {i : Int} {u : α} {x : List AV} (h : Sh.get l i = some u) : (hole l enc i x)[i.toNat]? = some x := by
 have := (Sh.get_some h).2.2
 have h0 := (Sh.get_some h).1
 exact List.getElem?_set_self (by simp; omega)
theorem hole_set {i : Int} {x y : List AV} : (hole l enc i x).set i.toNat y = hole l enc i y := by unfold hole; rw [List.set_set]
theorem Wk.expel {id m g size sz nn j : Nat} {el el' : TypeId} {i : Int} {c : α} {ys : List β} {encY : β → List AV} {x x' : List AV} {e : Nat → AV} {st st' : List Row} (hrow : st[id]? = some ⟨g, el, size, l.map enc⟩) (hi : Sh.get l i = some c) (hx : enc c = x) (hc : x[j]? = some (.dv el' sz (ys.map encY)))
  (hm : st.length = m) (hx' : x.set j (.own m 0 ys.length) = x') (hst : st.set id ⟨g, el, size, hole l enc i x'⟩ ++ [⟨0, el', sz, ys.map encY⟩] = st') : Wk k ⟨nn, e, st⟩ ⟨nn, e, st'⟩ := by
 subst hst; subst hx'; subst hx
 exact Wk.expelD hrow (map_get hi) hc hm (n := ys.length) (by simp) rfl
theorem Wk.take {id m g gm size sz nn j n : Nat} {el el' : TypeId} {i : Int} {c : α} {ys : List β} {encY : β → List AV} {x x' : List AV} {e : Nat → AV} {st st' : List Row} (hrow : st[id]? = some ⟨g, el, size, hole l enc i x⟩) (hi : Sh.get l i = some c) (hc : x[j]? = some (.own m gm n))
  (hm : st[m]? = some ⟨gm, el', sz, ys.map encY⟩) (hn : n = ys.length) (hne : id ≠ m) (hkm : k ≤ m) (hd : ∀ y, (encY y).all deepC = true) (hx' : x.set j (.dv el' sz (ys.map encY)) = x') (hst : (st.set id ⟨g, el, size, hole l enc i x'⟩).set m ⟨gm + 1, el', sz, []⟩ = st') :
  Wk k ⟨nn, e, st⟩ ⟨nn, e, st'⟩ := by
 subst hst; subst hx'
 refine Wk.adoptD hrow (hole_get hi) hc hm (by simpa using hn) hne hkm (fun y hy c hc => ?_) (by rw [hole_set])
 obtain ⟨z, _, rfl⟩ := List.mem_map.1 hy
 exact List.all_eq_true.1 (hd z) c hc
theorem Wk.filled {id g size nn : Nat} {el : TypeId} {i : Int} {u : α} {x : List AV} {e : Nat → AV} {st st' : List Row} (hrow : st[id]? = some ⟨g, el, size, hole l enc i x⟩) (hx : x = enc u) (hst : st.set id ⟨g, el, size, (Sh.put l i u).map enc⟩ = st') : Wk k ⟨nn, e, st⟩ ⟨nn, e, st'⟩ := by
 rw [hole_full hx] at hrow
 have : st.set id ⟨g, el, size, (Sh.put l i u).map enc⟩ = st := by
  obtain ⟨h1, h2⟩ := List.getElem?_eq_some_iff.1 hrow
  rw [← h2]; exact List.set_getElem_self h1
 rw [this] at hst
 exact Wk.steq hst
section
variable {ops : Array Oper} {Q : Exit → St → Prop} {ds : List (Option Tmp)} {r : List Oper} {n : Nat} {e : Nat → AV} {st st' : List Row} {ty : TypeId} {ps : String} {ed : Array Edge} {t : Tmp} {v : AV} {gd : Option (Nat × Bool)} {T : TypeId} {x y : Operand} {ag : Bool} {sz id g size : Nat} {el : TypeId} {cs : List AV} {c : α} {i : Int}
theorem ao_sth (hg : GO ds gd e) (ht : tinfo P T = some (ag, sz)) (hx : St.ev ⟨n, e, st⟩ x = .ptr id g i.toNat 0) (hr : st[id]? = some ⟨g, el, size, l.map enc⟩) (hi : Sh.get l i = some c) (hv : St.ev ⟨n, e, st⟩ y = v) (hc : cellsV v = some cs) (hn : cs.length = sz) (hle : cs.length ≤ size)
  (hlen : (enc c).length = cs.length) (hst : st.set id ⟨g, el, size, hole l enc i cs⟩ = st') (hk : AO P k ops Q (ds ++ [none]) r ⟨n, e, st'⟩) : AO P k ops Q ds (⟨none, .store T x y, ty, ps, ed, gd⟩ :: r) ⟨n, e, st⟩ := by
 refine ao_str hg ht hx hr (map_get hi) hv hc hn (by omega) ?_ hk
 rw [← hst]
 have : splice (enc c) 0 cs = cs := by
  unfold splice
  rw [List.take_zero, List.nil_append, Nat.zero_add, List.drop_eq_nil_of_le (by omega), List.append_nil]
 rw [this]; rfl
end
end Go.Abs



namespace Go.Abs
open Go
variable {P : Program} {F : Nat → Prop} {os : List Own} {s : St} {a : Act} {w : World} {k : Nat}
theorem Rel.addRowD (hr : Rel F os s a w) {cur : Array Value} {e : TypeId} {size cap : Nat} {xs : List (List AV)} (hpos : 0 < size) (hlens : ∀ x ∈ xs, x.length = size ∧ ∀ c ∈ x, c.kept = true)
  (hsz : cur.size = cap * size) (hle : xs.length ≤ cap) (hmax : cap ≤ maxLen)
  (hcells : ∀ (i : Nat) x, xs[i]? = some x → ∀ (j : Nat) c, x[j]? = some c → ∃ u, cur[i * size + j]? = some u ∧ Rep F w os c u ∧ ∀ e s ys, c = .dv e s ys → RepD none' w c u) :
  let o : Own := ⟨⟨0, e, size, xs⟩, some w.heap.size, cap, none'⟩
  Rel F (os ++ [o]) { s with st := s.st ++ [o.row] } a (w.alloc (.cells cur e)) ∧ Ext F os w F (os ++ [o]) (w.alloc (.cells cur e)) k := by
 intro o
 have ht : Turns w (w.alloc (.cells cur e)) none := Turns.alloc _ _ _
 have hlt : ∀ (i : Nat) (oi : Own) g, os[i]? = some oi → oi.owns g → g < w.heap.size := fun i oi g hi hg => (hr.rows i oi hi).lt hg
 have hget : ∀ (i : Nat) (oi : Own), (os ++ [o])[i]? = some oi → os[i]? = some oi ∨ (i = os.length ∧ oi = o) := fun i oi hi => by
  rcases Nat.lt_trichotomy i os.length with h | h | h
  ·rw [List.getElem?_append_left h] at hi; exact .inl hi
  ·subst h; simp at hi; exact .inr ⟨rfl, hi.symm⟩
  ·rw [List.getElem?_append_right (by omega), List.getElem?_eq_none (by simp; omega)] at hi; cases hi
 have hold : ∀ x v, Rep F w os x v → Rep F (w.alloc (.cells cur e)) (os ++ [o]) x v := fun x v h =>
  rep_mono (fun _ h => h) (fun g hg => ht.old g (hr.old g hg) (by simp)) os _ (HosLe.append os [o]) x v h
 have hown : ∀ g, o.owns g → g = w.heap.size := fun g hg => by
  simp only [Own.owns, o, none', or_false, Option.some.injEq] at hg; exact hg.symm
 have := hr.onto (k := k) ht (by simp) (os' := os ++ [o]) (HosLe.append os [o]) (fun i oi hi => by
   rcases hget i oi hi with h | ⟨_, rfl⟩
   ·exact .inl ⟨h, by simp⟩
   ·refine .inr ⟨hpos, hlens, by simp [o], fun g hg => ?_, fun g hg => hg.elim, ⟨fun _ _ _ => False, fun _ _ _ h => h.elim, fun _ _ _ _ _ h => h.elim, fun b hb cur' el l hcur' i x j e' s' ys hx hc => ?_⟩⟩
    ·simp only [o, Option.some.injEq] at hg
     subst hg
     refine ⟨fun hF => absurd (hr.old _ hF) (Nat.lt_irrefl _), cur, heap_alloc_new w _, hsz, hle, hmax, fun i' x hx j c hc => ?_⟩
     obtain ⟨u, h1, h2, _⟩ := hcells i' x hx j c hc
     exact ⟨u, h1, hold _ _ h2⟩
    ·simp only [o, Option.some.injEq] at hb
     subst hb
     rw [heap_alloc_new w _] at hcur'
     cases hcur'
     obtain ⟨u, h1, _, h3⟩ := hcells i x hx j _ hc
     exact ⟨u, h1, repD_mono (fun _ h => h.elim) (fun _ h => h.elim) _ u (h3 _ _ _ rfl)⟩)
  (fun i j oi oj g hi hj hgi hgj => by
   rcases hget i oi hi with h | ⟨h, rfl⟩ <;> rcases hget j oj hj with h' | ⟨h', rfl⟩
   ·exact hr.inj i j oi oj g h h' hgi hgj
   ·have := hlt i oi g h hgi; have := hown g hgj; omega
   ·have := hlt j oj g h' hgj; have := hown g hgi; omega
   ·omega)
  (fun o' ho' g hg => by
   rcases List.mem_append.1 ho' with h | h
   ·exact .inr ⟨o', h, hg⟩
   ·simp only [List.mem_singleton] at h; subst h; exact .inl (by have := hown g hg; omega))
  (by simp)
 refine ⟨?_, this.2.1⟩
 have h1 := this.1
 rw [List.map_append, hr.st] at h1
 simpa using h1
def ZD : List AV → List AV → Prop
 | [], [] => True
 | x :: r, y :: r' => ((x = y ∧ x.leaf = true) ∨ (x = .sl [] ∧ ∃ el s, y = .dv el s [] ∧ 0 < s)) ∧ ZD r r'
 | _, _ => False
theorem ZD.len : ∀ {xs ys : List AV}, ZD xs ys → xs.length = ys.length
 | [], [], _ => rfl
 | x :: r, y :: r', h => by simp [ZD.len h.2]
theorem ZD.get : ∀ {xs ys : List AV}, ZD xs ys → ∀ (j : Nat) y, ys[j]? = some y → ∃ x, xs[j]? = some x ∧ ((x = y ∧ x.leaf = true) ∨ (x = .sl [] ∧ ∃ el s, y = .dv el s [] ∧ 0 < s))
 | [], [], _, j, y, h => by simp at h
 | x :: r, y :: r', h, j, z, hz => by
  cases j with
  | zero => simp only [List.getElem?_cons_zero, Option.some.injEq] at hz; subst hz; exact ⟨x, rfl, h.1⟩
  | succ j => exact ZD.get h.2 j z (by simpa using hz)
theorem ofLeafZ_sl {v : Value} (h : ofLeafZ v = .sl []) : v = .slice none 0 0 := by
 unfold ofLeafZ at h
 split at h
 ·rfl
 ·unfold ofLeaf at h
  split at h <;> cases h
theorem aMakeD_ok {t : TypeId} {ei : EInfo} {l c : AV} {ul uc : Value} {zd : List AV} {kl kc : IntKind} {n : Int} (hr : Rel F os s a w) (he : einfo P t = some ei) (hzd : ZD ei.zero zd) (h0 : 0 ≤ n) (hb : n * (ei.bytes : Int) ≤ 281474976710656) (hm : n ≤ 9223372036854775807) (el : l = .int kl n) (ec : c = .int kc n) (hl : Rep F w os l ul) (hc : Rep F w os c uc) :
  Effects P k F os s a w (Instr.makeSlice t ul uc) (fun v st => v = .own s.st.length 0 n.toNat ∧ st = s.st ++ [⟨0, ei.e, ei.size, List.replicate n.toNat zd⟩]) := by
 obtain ⟨inf, z, hu, hi, hz, hzs, hpos, hsz, hby, hzero, hzl⟩ := einfo_some he
 subst el; subst ec
 simp only [Rep] at hl hc
 subst hl; subst hc
 obtain ⟨N, rfl⟩ := Int.eq_ofNat_of_zero_le h0
 simp only [Int.toNat_natCast]
 have hrun := run_make (P := P) w t ei.e inf z hu hi hz kl kc N N (by omega) (Int.le_refl _) (by rw [← hby, Int.mul_comm]; omega) (by omega)
 simp only [Int.toNat_natCast] at hrun
 have hzl' : zd.length = ei.size := by rw [← hzd.len, hzero, hsz, ← hzs]; simp
 have := hr.addRowD (k := k) (cur := madeCells z.cells (N * inf.size)) (e := ei.e) (size := ei.size) (cap := N) (xs := List.replicate N zd) (by omega)
  (fun x hx => by
   rw [List.mem_replicate] at hx; rw [hx.2]
   refine ⟨hzl', fun c hc => ?_⟩
   obtain ⟨j, hj⟩ := List.mem_iff_getElem?.1 hc
   obtain ⟨x, _, h⟩ := hzd.get j c hj
   rcases h with ⟨rfl, h⟩ | ⟨_, el, s, rfl, _⟩
   ·exact AV.kept_leaf h
   ·rfl) (by rw [size_madeCells, hsz]) (by simp) (by simp [maxLen]; omega) (fun i x hx j c hc => by
   rw [List.getElem?_replicate] at hx
   split at hx <;> simp only [Option.some.injEq, reduceCtorEq] at hx
   subst hx
   rename_i hiN
   have hjl : j < ei.size := by rw [← hzl']; exact (List.getElem?_eq_some_iff.1 hc).1
   have hj2 : j < z.cells.size := by omega
   obtain ⟨x0, hx0, hcase⟩ := hzd.get j c hc
   rw [hzero] at hx0
   simp only [List.getElem?_map, Array.getElem?_toList, Array.getElem?_eq_getElem hj2, Option.map_some, Option.some.injEq] at hx0
   refine ⟨z.cells[j], ?_, ?_⟩
   ·have hlt : i * ei.size + j < N * inf.size := by
     have : (i + 1) * ei.size ≤ N * ei.size := Nat.mul_le_mul_right _ hiN
     rw [Nat.add_mul] at this; rw [← hsz]; omega
    have hmod : (i * ei.size + j) % z.cells.size = j := by rw [hzs, ← hsz, Nat.mul_comm, Nat.mul_add_mod]; exact Nat.mod_eq_of_lt hjl
    simp [madeCells, hlt, hmod, hj2]
   ·rcases hcase with ⟨rfl, hlf⟩ | ⟨rfl, el, s, rfl, hs⟩
    ·rw [← hx0]
     refine ⟨rep_ofLeafZ F w os _, fun e s ys e' => ?_⟩
     rw [hx0] at e'; rw [e'] at hlf; simp [AV.leaf] at hlf
    ·have := ofLeafZ_sl hx0
     rw [this]
     refine ⟨by simp only [Rep]; exact ⟨_, _, _, rfl⟩, fun e s' ys e' => ?_⟩
     simp only [RepD]
     exact ⟨hs, .inl ⟨trivial, none, rfl⟩⟩)
 refine ⟨_, _, _, _, _, ⟨rfl, rfl⟩, hrun, this.1, ?_, this.2⟩
 simp only [Rep]
 refine ⟨⟨⟨0, ei.e, ei.size, List.replicate N zd⟩, some w.heap.size, N, none'⟩, by rw [hr.len]; simp, by simp, ⟨_, _, _, rfl⟩, fun _ => ⟨by simp, .inr ⟨_, rfl, by simp⟩⟩⟩
theorem AO.sem {ops : Array Oper} {Q : Exit → St → Prop} {ds : List (Option Tmp)} {r : List Oper} {o : Oper} {s s' : St} (hgd : o.guard = none)
  (h : ∀ F os a w, Rel F os s a w → dstOK s.n o.dst = true → ∀ (next : Act → World → Prop) (Q' : Exit → Act → World → Prop), (∀ a' w', Step k s.n F os w (· = s') a' w' → next a' w') → o.wp P a w next Q')
  (hk : AO P k ops Q (ds ++ [o.dst]) r s') : AO P k ops Q ds (o :: r) s := by
 intro hl hds hdst F os a w hr Q' hQ
 have ho : ops[ds.length]? = some o := by have := hl 0; simpa using this.symm
 have hod : dstOK s.n o.dst = true := hdst o (by have := List.mem_of_getElem? (l := ops.toList) (i := ds.length) (by simpa using ho); exact this)
 have hl' : ∀ (j : Nat), r[j]? = ops[(ds ++ [o.dst]).length + j]? := fun j => by
  have := hl (j + 1)
  simp only [List.getElem?_cons_succ] at this
  rw [this]; congr 1; simp; omega
 have hds' : ∀ (j : Nat) d, (ds ++ [o.dst])[j]? = some d → (ops[j]?).map (·.dst) = some d := fun j d hj => by
  rcases Nat.lt_trichotomy j ds.length with h1 | h1 | h1
  ·rw [List.getElem?_append_left h1] at hj; exact hds j d hj
  ·subst h1; rw [new_get, Option.some.injEq] at hj; rw [ho]; simp [hj]
  ·rw [List.getElem?_eq_none (by simp; omega)] at hj; cases hj
 unfold wpList
 have hw : Region.wanted o (yielded ops a.tmps) = true := by unfold Region.wanted; rw [hgd]
 rw [if_pos hw]
 refine .inl (h F os a w hr hod _ _ ?_)
 rintro a' w' ⟨s2, F2, os2, hn2, rfl, hR2, hE2⟩
 exact hk hl' hds' (by rw [hn2]; exact hdst) F2 os2 a' w' hR2 Q' fun _ _ _ hp => hQ _ _ _ (hp.trans hE2)
section
variable {α : Type} {l : List α} {enc : α → List AV}
variable {ops : Array Oper} {Q : Exit → St → Prop} {ds : List (Option Tmp)} {r : List Oper} {n : Nat} {e : Nat → AV} {st st' : List Row} {ty : TypeId} {ps : String} {ed : Array Edge} {t : Tmp} {T : TypeId} {x y : Operand} {m bytes size : Nat} {el : TypeId} {zz : List AV} {u : α} {j : Int} {kk kk' : IntKind}
theorem ao_maked (he : einfo P T = some ⟨el, size, bytes, zz⟩) (hx : St.ev ⟨n, e, st⟩ x = .int kk j) (hy : St.ev ⟨n, e, st⟩ y = .int kk' j) (hz : ZD zz (enc u)) (hl : Sh.mk u j bytes = some l) (hm : st.length = m) (hst : st ++ [⟨0, el, size, l.map enc⟩] = st')
  (hk : AO P k ops Q (ds ++ [some t]) r ⟨n, upd e t (.own m 0 l.length), st'⟩) : AO P k ops Q ds (⟨some t, .makeSlice T x y, ty, ps, ed, none⟩ :: r) ⟨n, e, st⟩ := by
 subst hm; subst hst
 unfold Sh.mk at hl
 split at hl
 case isFalse => cases hl
 rename_i h
 simp only [Option.some.injEq] at hl
 subst hl
 refine AO.sem rfl (fun F os a w hr hd next Q' hn => ?_) hk
 obtain ⟨v, st', u', w', os', ⟨rfl, rfl⟩, h2, h3, h4, h5⟩ := aMakeD_ok (k := k) (ei := ⟨el, size, bytes, zz⟩) hr he hz h.1 h.2.1 h.2.2 hx hy (hr.ev x) (hr.ev y)
 unfold Oper.wp
 simp only [execOp, Sem.run_bind, h2, Result.andThen_ok, Sem.run_pure, Oper.upon]
 refine hn _ _ (putStep hd ?_ h3 h4 h5)
 simp [St.put, List.map_replicate]
end
end Go.Abs



namespace Go.Abs
open Go
variable {P : Program} {F : Nat → Prop} {os : List Own} {s : St} {a : Act} {w : World} {k : Nat}
variable {α β : Type} {l : List α} {enc : α → List AV}
end Go.Abs
namespace Go.Abs
open Go
section
variable {P : Program} {k : Nat} {α : Type} {l l' : List α} {enc : α → List AV} {c : α}
variable {ops : Array Oper} {Q : Exit → St → Prop} {ds : List (Option Tmp)} {r : List Oper} {n : Nat} {e : Nat → AV} {st st' : List Row} {ty : TypeId} {ps : String} {ed : Array Edge} {t : Tmp} {gd : Option (Nat × Bool)} {T : TypeId} {x y : Operand} {bytes size id g m q gq size' : Nat} {el el' : TypeId} {zz cs : List AV}
end
end Go.Abs



namespace Go.Abs
open Go
variable {P : Program} {F : Nat → Prop} {os : List Own} {s : St} {a : Act} {w : World} {k : Nat}
variable {α : Type} {l : List α} {enc enc' : α → List AV} {n id g m size : Nat} {e : Nat → AV} {st st' : List Row} {L : List (Nat × AV)} {el : TypeId} {xs : List (List AV)}
end Go.Abs



namespace Go.Abs
open Go
variable {P : Program} {F : Nat → Prop} {os : List Own} {s : St} {a : Act} {w : World} {k : Nat}
section
variable {P : Program} {ops : Array Oper} {Q : Exit → St → Prop} {n N f i : Nat} {listed listed' : Array Bool} {e : Nat → AV} {ty : TypeId} {p : String} {ed : Array Edge} {t : Tmp} {α : Type} {l l2 l' : List α} {enc : α → List AV} {x y : Operand} {g m size bytes : Nat} {el : TypeId} {zz : List AV} {T : TypeId} {rst : List Row} {k : Nat}
end
section
variable {P : Program} {ds : List (Option Tmp)} {r : List Oper} {KS : St → Prop} {n : Nat} {e : Nat → AV} {st : List Row} {ty : TypeId} {ps : String} {ed : Array Edge} {t : Tmp} {gd : Option (Nat × Bool)} {α : Type} {l l' : List α} {enc : α → List AV} {x : Operand} {size bytes : Nat} {el T : TypeId} {zz : List AV}
end
end Go.Abs



namespace Go.Abs
open Go
section
variable {P : Program} {k : Nat} {ops : Array Oper} {Q : Exit → St → Prop} {ds : List (Option Tmp)} {r : List Oper} {n : Nat} {e : Nat → AV} {st st' : List Row} {ty : TypeId} {p : String} {ed : Array Edge} {t : Tmp} {x y : Operand} {size bytes m : Nat} {el T Tn : TypeId} {zz : List AV} {α : Type} {enc : α → List AV} {u : α} {l' : List α} {kk : IntKind} {j : Int} {v : AV} {o : Oper}
end
section
variable {P : Program} {ds : List (Option Tmp)} {r : List Oper} {KS : St → Prop} {n : Nat} {e : Nat → AV} {st : List Row} {ty : TypeId} {ps : String} {ed : Array Edge} {t : Tmp} {gd : Option (Nat × Bool)} {α : Type} {l : List α} {enc : α → List AV} {u : α} {x y : Operand} {size bytes : Nat} {el T : TypeId} {zz : List AV} {kk kk' : IntKind} {j : Int}
end
section
variable {P : Program} {k : Nat} {ops : Array Oper} {Q : Exit → St → Prop} {ds : List (Option Tmp)} {r : List Oper} {n : Nat} {e : Nat → AV} {st st' : List Row} {ty : TypeId} {p : String} {ed : Array Edge} {t : Tmp} {x y : Operand} {size bytes m : Nat} {el T : TypeId} {zz : List AV} {kk kk' : IntKind} {c : Nat}
end
end Go.Abs



namespace RC
open Go Go.Abs
end RC



namespace RC
open Go Go.Abs
theorem und_map {α : Type} {l : List α} {enc enc' : α → List AV} (h : ∀ x, undC (enc x) = enc' x) : undR (l.map enc) = l.map enc' := by
 rw [undR_eq, List.map_map]
 exact List.map_congr_left fun x _ => h x
theorem eI_und (n : Int) : undC (eI n) = eI n := rfl
end RC



namespace RC
open Go Go.Abs
end RC



namespace RC
open Go Go.Abs
def eRConD (a : Nat) (c : RCon) : List AV := [.dv a 1 (c.fields.map eI)]
theorem eRConD_und {a : Nat} (c : RCon) : undC (eRConD a c) = eRCon c := by
 simp only [eRConD, undC, und, und_map eI_und, eRCon]
def eRDeclD (a b : Nat) (d : RDecl) : List AV := [.int .i64 d.from_, .int .i64 d.to, .dv a 1 (d.cons.map (eRConD b))]
theorem eRDeclD_und {a b : Nat} (d : RDecl) : undC (eRDeclD a b d) = eRDecl d := by
 simp only [eRDeclD, undC, und, und_map eRConD_und, eRDecl]
def eRInstrD (a b : Nat) (i : RInstr) : List AV := [.int .i64 i.op, .int .i64 i.dst, .int .i64 i.num, .int .i64 i.into, .dv a 1 (i.args.map eI), .dv b 1 (i.jumps.map eI)]
theorem eRInstrD_und {a b : Nat} (i : RInstr) : undC (eRInstrD a b i) = eRInstr i := by
 simp only [eRInstrD, undC, und, und_map eI_und, eRInstr]
def eRProcD (a b c d e : Nat) (p : RProc) : List AV := [.dv a 1 (p.params.map eI), .dv b 1 (p.lent.map eI), .int .i64 p.result, .int .i64 p.regs, .dv c 6 (p.code.map (eRInstrD d e))]
theorem eRProcD_und {a b c d e : Nat} (p : RProc) : undC (eRProcD a b c d e p) = eRProc p := by
 simp only [eRProcD, undC, und, und_map eI_und, und_map eRInstrD_und, eRProc]
end RC



namespace Go.Abs
open Go
variable {P : Program} {n : Nat} {e : Nat → AV} {st : List Row} {t : Tmp} {ty : TypeId} {ps : String} {ed : Array Edge} {x : Operand}
end Go.Abs



namespace Go.Abs
open Go
section
variable {P : Program} {k : Nat} {ops : Array Oper} {Q : Exit → St → Prop} {N f i : Nat} {listed listed' : Array Bool} {s s' : St} {o : Oper}
end
section
variable {P : Program} {n : Nat} {e : Nat → AV} {st : List Row} {t : Tmp} {ty : TypeId} {ps : String} {ed : Array Edge} {x : Operand}
end
section
variable {P : Program} {k : Nat} {α : Type} {l : List α} {enc : α → List AV}
variable {ops : Array Oper} {Q : Exit → St → Prop} {ds : List (Option Tmp)} {r : List Oper} {n : Nat} {e : Nat → AV} {st st' : List Row} {ty : TypeId} {ps : String} {ed : Array Edge} {v : AV} {gd : Option (Nat × Bool)} {T : TypeId} {x y : Operand} {ag : Bool} {sz id g size off : Nat} {el : TypeId} {cs cs' : List AV} {c : α} {i : Int}
end
end Go.Abs



namespace Go.Abs
open Go
end Go.Abs



namespace RC
open Go Go.Abs
end RC



namespace Sh
def apart (i j : Int) : Option Unit := if i = j then none else some ()
theorem apart_some {i j : Int} {u : Unit} (h : apart i j = some u) : i ≠ j := fun e => by unfold apart at h; rw [if_pos e] at h; cases h
end Sh
namespace Go.Abs
open Go
section
variable {F : Nat → Prop} {os : List Own} {s : St} {a : Act} {w : World} {k : Nat}
theorem Wk.frzInD {id m g gm size sz n i j nn : Nat} {el el' : TypeId} {xs ys : List (List AV)} {x : List AV} {e : Nat → AV} {st st' : List Row} (hrow : st[id]? = some ⟨g, el, size, xs⟩) (hx : xs[i]? = some x) (hc : x[j]? = some (.own m gm n))
  (hm : st[m]? = some ⟨gm, el', sz, ys⟩) (hn : n = ys.length) (hne : id ≠ m) (hkm : k ≤ m) (hp : pureRow ys) (hst : (st.set id ⟨g, el, size, xs.set i (x.set j (.sl ys))⟩).set m ⟨gm + 1, el', sz, []⟩ = st') :
  Wk k ⟨nn, e, st⟩ ⟨nn, e, st'⟩ := fun F os a w hr => by
 subst hst; subst hn
 obtain ⟨o, ho, hor⟩ := hr.row hrow
 obtain ⟨p, hpp, hpr⟩ := hr.row hm
 have hok := hr.rows id o ho
 have hpk := hr.rows m p hpp
 have hst : os.map Own.row = st := hr.st
 have hxs : o.row.xs = xs := by rw [hor]
 have hpx : p.row.xs = ys := by rw [hpr]
 have hpl : ∀ x ∈ p.row.xs, ∀ c ∈ x, c.leaf = true := fun x hx c hc => by
  have h1 := hp x (by rw [← hpx]; exact hx) c hc
  have h2 := (hpk.lens x hx).2 c hc
  cases c <;> simp_all [simple, AV.leaf, AV.kept]
 let o' : Own := { o with row := { o.row with xs := xs.set i (x.set j (.sl ys)) } }
 let p' : Own := ⟨{ p.row with gen := p.row.gen + 1, xs := [] }, none, 0, p.more⟩
 let F' : Nat → Prop := fun b => F b ∨ p.blk = some b
 have hF : ∀ b, F b → F' b := fun _ h => .inl h
 have hil : i < xs.length := (List.getElem?_eq_some_iff.1 hx).1
 have hjl : j < x.length := (List.getElem?_eq_some_iff.1 hc).1
 have hidl := (List.getElem?_eq_some_iff.1 ho).1
 have hml := (List.getElem?_eq_some_iff.1 hpp).1
 have hget : ∀ (q : Nat) (oq : Own), ((os.set id o').set m p')[q]? = some oq → (q ≠ id ∧ q ≠ m ∧ os[q]? = some oq) ∨ (q = id ∧ oq = o') ∨ (q = m ∧ oq = p') := fun q oq hq => by
  by_cases e : q = m
  ·subst e
   rw [List.getElem?_set_self (by simpa using hml), Option.some.injEq] at hq
   exact .inr (.inr ⟨rfl, hq.symm⟩)
  ·rw [List.getElem?_set_ne (Ne.symm e)] at hq
   by_cases e2 : q = id
   ·subst e2
    rw [List.getElem?_set_self hidl, Option.some.injEq] at hq
    exact .inr (.inl ⟨rfl, hq.symm⟩)
   ·rw [List.getElem?_set_ne (Ne.symm e2)] at hq
    exact .inl ⟨e2, e, hq⟩
 have hos : HosLe os ((os.set id o').set m p') := fun q oq hq => by
  by_cases e : q = m
  ·subst e
   rw [hpp] at hq; cases hq
   exact ⟨p', List.getElem?_set_self (by simpa using hml), Nat.le_succ _, rfl, fun e => by simp [p'] at e⟩
  ·rw [List.getElem?_set_ne (Ne.symm e)]
   by_cases e2 : q = id
   ·subst e2
    rw [ho] at hq; cases hq
    exact ⟨o', List.getElem?_set_self hidl, Nat.le_refl _, rfl, fun _ => ⟨rfl, rfl, by simp [o', hxs]⟩⟩
   ·rw [List.getElem?_set_ne (Ne.symm e2)]
    exact ⟨oq, hq, Nat.le_refl _, rfl, fun _ => ⟨rfl, rfl, rfl⟩⟩
 have hmono : ∀ y v, Rep F w os y v → Rep F' w ((os.set id o').set m p') y v := fun y v h => rep_mono hF (fun _ _ => rfl) os _ hos y v h
 have hcell : ∀ x ∈ p.row.xs, ∀ c ∈ x, ∀ u, Rep F w os c u → Rep F' w [] c u := fun x hx c hc u hu =>
  rep_mono hF (fun _ _ => rfl) [] [] (by simp) c u (rep_simple (hp x (by rw [← hpx]; exact hx) c hc) [] hu)
 have hpn : ∀ b, p'.owns b → p.owns b := fun b hb => by
  rcases hb with hb | hb
  ·simp [p'] at hb
  ·exact .inr hb
 obtain ⟨bo, hbo⟩ : ∃ b, o.blk = some b := by
  cases hb : o.blk with
  | none => have := (hok.none hb).1; rw [hxs] at this; rw [this] at hil; simp at hil
  | some b => exact ⟨b, rfl⟩
 obtain ⟨hnF, cur, hcur, hsz, hle, hmax, hcells⟩ := hok.some bo hbo
 obtain ⟨uv, hu1, hu2⟩ := hcells i x (by rw [hxs]; exact hx) j _ hc
 have hnew : Rep F' w ((os.set id o').set m p') (.sl ys) uv := by
  simp only [Rep] at hu2 ⊢
  obtain ⟨q, hq, _, _, hv⟩ := hu2
  rw [hpp] at hq; cases hq
  have h2 := (hv (by rw [hpr])).2
  rw [hpx, Nat.sub_self, Nat.zero_mul, Nat.sub_zero] at h2
  rcases h2 with ⟨hb, ad, rfl⟩ | ⟨b, hb, rfl⟩
  ·have h0 := (hpk.none hb).1
   rw [hpx] at h0
   subst h0
   exact ⟨ad, 0, rfl, Nat.le_refl _, by simp⟩
  ·obtain ⟨_, cur2, hcur2, hsz2, hle2, _, hcells2⟩ := hpk.some b hb
   rw [hpx] at hle2
   refine ⟨_, p.cap, rfl, hle2, fun _ => ⟨b, 0, p.row.size, rfl, .inr hb, fun x hx => (hpk.lens x (by rw [hpx]; exact hx)).1, ?_⟩⟩
   refine repRows_mk (fun x hx => (hpk.lens x (by rw [hpx]; exact hx)).1) fun q z hz => repCells_mk fun r c hcz => ?_
   have hzm : z ∈ p.row.xs := by rw [hpx]; exact List.mem_of_getElem? hz
   obtain ⟨u, e1, e2⟩ := hcells2 q z (by rw [hpx]; exact hz) r c hcz
   refine ⟨u, ?_, hpl z hzm c (List.mem_of_getElem? hcz), hcell z hzm c (List.mem_of_getElem? hcz) u e2⟩
   rw [Nat.zero_add, cell_of_row w b _ cur2 _ _ hcur2]
   exact e1
 have hnP : ∀ (q : Nat) (oq : Own) b, q ≠ m → os[q]? = some oq → oq.owns b → ¬ F' b := fun q oq b hq hoq hb hFb =>
  hFb.elim ((hr.rows q oq hoq).nF hb) fun h => hq (hr.inj q m oq p b hoq hpp hb (.inl h))
 refine ⟨F', (os.set id o').set m p', ⟨?_, fun t => hmono _ _ (hr.env t), hr.size, fun q oq hq => ?_, fun q q' oq oq' b hq hq' hb hb' => ?_, fun b hb => ?_, hr.defers⟩, ⟨rfl, rfl, rfl, Nat.le_refl _, hF, fun _ _ => rfl, fun b _ h1 h2 => ⟨rfl, ?_, fun oq hoq hb => ?_⟩, fun q oq _ hq => hos q oq hq⟩⟩
 ·rw [List.map_set, List.map_set, hst]
  simp only [o', p', hor, hpr]
 ·rcases hget q oq hq with ⟨_, h2, h⟩ | ⟨_, rfl⟩ | ⟨_, rfl⟩
  ·have h0 := hr.rows q oq h
   refine ⟨h0.pos, h0.lens, h0.none, fun b hb => ?_, fun b hb => ⟨hnP q oq b h2 h (.inr hb), (h0.mo b hb).2⟩, h0.deep⟩
   obtain ⟨e1, cur, e2, e3, e4, e5, e6⟩ := h0.some b hb
   exact ⟨hnP q oq b h2 h (.inl hb), cur, e2, e3, e4, e5, fun i' y hy j' c hc => by obtain ⟨u, f1, f2⟩ := e6 i' y hy j' c hc; exact ⟨u, f1, hmono _ _ f2⟩⟩
  ·refine ⟨hok.pos, fun y hy => ?_, (fun hn => by simp only [o'] at hn; rw [hbo] at hn; cases hn), fun b hb => ?_, fun b hb => ⟨hnP id o b hne ho (.inr hb), (hok.mo b hb).2⟩, ?_⟩
   ·rcases List.mem_or_eq_of_mem_set hy with hy | rfl
    ·exact hok.lens y (by rw [hxs]; exact hy)
    ·have h0 := hok.lens x (by rw [hxs]; exact List.mem_of_getElem? hx)
     refine ⟨by rw [List.length_set]; exact h0.1, fun c hcm => ?_⟩
     rcases List.mem_or_eq_of_mem_set hcm with h | rfl
     ·exact h0.2 c h
     ·rfl
   ·simp only [o'] at hb
    rw [hbo] at hb; cases hb
    refine ⟨hnP id o bo hne ho (.inl hbo), cur, hcur, hsz, by simpa [o', hxs] using hle, hmax, fun i' y hy j' c hcy => ?_⟩
    simp only [o'] at hy ⊢
    by_cases hi : i' = i
    ·subst hi
     rw [List.getElem?_set_self hil, Option.some.injEq] at hy
     subst hy
     by_cases hj : j' = j
     ·subst hj
      rw [List.getElem?_set_self hjl, Option.some.injEq] at hcy
      subst hcy
      exact ⟨uv, hu1, hnew⟩
     ·rw [List.getElem?_set_ne (Ne.symm hj)] at hcy
      obtain ⟨u, f1, f2⟩ := hcells i' x (by rw [hxs]; exact hx) j' c hcy
      exact ⟨u, f1, hmono _ _ f2⟩
    ·rw [List.getElem?_set_ne (Ne.symm hi)] at hy
     obtain ⟨u, f1, f2⟩ := hcells i' y (by rw [hxs]; exact hy) j' c hcy
     exact ⟨u, f1, hmono _ _ f2⟩
   ·refine hok.deep.keep rfl (fun _ h => h) rfl (fun _ _ => rfl) fun i' y j' e2 s2 zs hy hcy => ?_
    simp only [o'] at hy
    rw [hxs]
    by_cases hi : i' = i
    ·subst hi
     rw [List.getElem?_set_self hil, Option.some.injEq] at hy
     subst hy
     by_cases hj : j' = j
     ·subst hj
      rw [List.getElem?_set_self hjl, Option.some.injEq] at hcy
      cases hcy
     ·rw [List.getElem?_set_ne (Ne.symm hj)] at hcy
      exact ⟨x, hx, hcy⟩
    ·rw [List.getElem?_set_ne (Ne.symm hi)] at hy
     exact ⟨y, hy, hcy⟩
  ·exact ⟨hpk.pos, by simp [p'], by simp [p'], by simp [p'], fun b hb => ⟨fun hFb => hFb.elim (hpk.mo b hb).1 (hpk.mo b hb).2.2, (hpk.mo b hb).2.1, by simp [p']⟩, DeepOK.flat (by simp [p'])⟩
 ·have hown : ∀ b, o'.owns b → o.owns b := fun b hb => hb
  rcases hget q oq hq with ⟨q1, q2, h⟩ | ⟨rfl, rfl⟩ | ⟨rfl, rfl⟩ <;> rcases hget q' oq' hq' with ⟨q1', q2', h'⟩ | ⟨rfl, rfl⟩ | ⟨rfl, rfl⟩
  ·exact hr.inj q q' oq oq' b h h' hb hb'
  ·exact hr.inj q _ oq o b h ho hb (hown b hb')
  ·exact hr.inj q _ oq p b h hpp hb (hpn b hb')
  ·exact hr.inj _ q' o oq' b ho h' (hown b hb) hb'
  ·rfl
  ·exact hr.inj _ _ o p b ho hpp (hown b hb) (hpn b hb')
  ·exact hr.inj _ q' p oq' b hpp h' (hpn b hb) hb'
  ·exact hr.inj _ _ p o b hpp ho (hpn b hb) (hown b hb')
  ·rfl
 ·exact hb.elim (hr.old b) fun h => hpk.lt (.inl h)
 ·exact fun hFb => hFb.elim h1 fun h => h2 p (List.mem_of_getElem? hpp) (.inl h)
 ·obtain ⟨q, hq⟩ := List.mem_iff_getElem?.1 hoq
  rcases hget q oq hq with ⟨_, _, h⟩ | ⟨_, rfl⟩ | ⟨_, rfl⟩
  ·exact h2 oq (List.mem_of_getElem? h) hb
  ·exact h2 o (List.mem_of_getElem? ho) hb
  ·exact h2 p (List.mem_of_getElem? hpp) (hpn b hb)
variable {α β : Type} {l : List α} {enc : α → List AV}
theorem kept_map (h : ∀ y, (enc y).all AV.kept = true) : ∀ z ∈ l.map enc, z.all AV.kept = true := fun z hz => by
 obtain ⟨y, _, rfl⟩ := List.mem_map.1 hz
 exact h y
theorem hole_len {i : Int} {x : List AV} : (hole l enc i x).length = l.length := by unfold hole; simp
theorem hole_ne {i j : Int} {u : Unit} {c c' : α} {x : List AV} (h : Sh.get l i = some c') (hn : Sh.apart i j = some u) (hg : Sh.get l j = some c) : (hole l enc i x)[j.toNat]? = some (enc c) := by
 unfold hole
 have h1 := (Sh.get_some h).1
 have h2 := (Sh.get_some hg).1
 have h3 := Sh.apart_some hn
 rw [List.getElem?_set_ne (by omega)]
 exact map_get hg
theorem Wk.frzIn {id m g gm size sz nn n : Nat} {el el' : TypeId} {i : Int} {c : α} {ys : List β} {encY : β → List AV} {u : α} {e : Nat → AV} {st st' : List Row} (hrow : st[id]? = some ⟨g, el, size, hole l enc i [.own m gm n]⟩) (hi : Sh.get l i = some c)
  (hm : st[m]? = some ⟨gm, el', sz, ys.map encY⟩) (hn : n = ys.length) (hne : id ≠ m) (hkm : k ≤ m) (hp : pureRow (ys.map encY)) (hu : enc u = [.sl (ys.map encY)]) (hst : (st.set id ⟨g, el, size, (Sh.put l i u).map enc⟩).set m ⟨gm + 1, el', sz, []⟩ = st') :
  Wk k ⟨nn, e, st⟩ ⟨nn, e, st'⟩ := by
 subst hst
 have hf : (Sh.put l i u).map enc = (hole l enc i [.own m gm n]).set i.toNat ([AV.own m gm n].set 0 (.sl (ys.map encY))) := by
  rw [hole_set]; show _ = hole l enc i [.sl (ys.map encY)]; exact (hole_full hu.symm).symm
 rw [hf]
 exact Wk.frzInD hrow (hole_get hi) (j := 0) rfl hm (by simpa using hn) hne hkm hp rfl
section
variable {P : Program} {s : St} {x y : Operand} {t el : TypeId} {size bytes id g m : Nat} {zz : List AV} {n i : Int} {kk : IntKind} {u : α} {z : List AV}
theorem aq_ixh (he : einfo P t = some ⟨el, size, bytes, zz⟩) (hx : s.ev x = .own id g m) (hy : s.ev y = .int kk n) (hr : s.st[id]? = some ⟨g, el, size, hole l enc i z⟩) (hm : m = l.length) (hg : Sh.get l n = some u) :
  AQ P s (.indexAddr t x y) (.ptr id g n.toNat 0) := fun K hk => by
 show aIndexAddr P s.st t (s.ev x) (s.ev y) K
 rw [hx, hy]; subst hm; exact optK_intro _ he ⟨(Sh.get_some hg).1, (Sh.get_some hg).2.2, optK_intro _ hr ⟨rfl, rfl, by simpa [hole_len] using hk⟩⟩
end
end
end Go.Abs




namespace RC
def laws_szIntS (p0 : (List Int)) (p1 : Int) : Option (Int) :=
 if (decide ((Sh.w (p1 - (Sh.len p0))) < 0)) = true then
  some (-1)
 else
  some (Sh.w (p1 - (Sh.len p0)))
def laws_toIntS_L1 (p0 : (List Int)) : Nat → Int → (List Int) → Option ((List Int))
 | 0, _, _ => none
 | n + 1, i6, l7 =>
  if (decide (i6 < (Sh.len p0))) = true then
   Option.bind (Sh.get p0 i6) fun c15 =>
   Option.bind (Sh.get l7 i6) fun c16 =>
   laws_toIntS_L1 p0 n (Sh.w (i6 + 1)) (Sh.put l7 i6 c15)
  else
   some l7
def laws_toIntS (N : Nat) (p0 : (List Int)) : Option ((List Int)) :=
 Option.bind (Sh.mk 0 (Sh.len p0) 8) fun l3 =>
 Option.bind (laws_toIntS_L1 p0 N 0 l3) fun l8 =>
 some l8
def spec_inRange (p0 : Int) (p1 : Int) (p2 : Int) : Option (Bool) :=
 Option.bind (
  if (decide (p1 ≤ p0)) = true then
   some (decide (p0 ≤ p2))
  else
   some false
 ) fun t3 =>
 some t3
def spec_allZero_L1 (p0 : (List Int)) : Nat → Int → Option ((Bool) ⊕ (Unit))
 | 0, _ => none
 | n + 1, i4 =>
  if (decide (i4 < (Sh.len p0))) = true then
   Option.bind (Sh.get p0 i4) fun c12 =>
   if (!decide (c12 = 0)) = true then
    some (Sum.inl false)
   else
    spec_allZero_L1 p0 n (Sh.w (i4 + 1))
  else
   some (Sum.inr ())
def laws_eqIntS_L1 (p0 : (List Int)) (p1 : (List Int)) : Nat → Int → Option ((Bool) ⊕ (Unit))
 | 0, _ => none
 | n + 1, i10 =>
  if (decide (i10 < (Sh.len p0))) = true then
   Option.bind (Sh.get p0 i10) fun c18 =>
   Option.bind (Sh.get p1 i10) fun c19 =>
   if (!decide (c18 = c19)) = true then
    some (Sum.inl false)
   else
    laws_eqIntS_L1 p0 p1 n (Sh.w (i10 + 1))
  else
   some (Sum.inr ())
def laws_eqIntS (N : Nat) (p0 : (List Int)) (p1 : (List Int)) : Option (Bool) :=
 if (!decide ((Sh.len p0) = (Sh.len p1))) = true then
  some false
 else
  Sh.cont (laws_eqIntS_L1 p0 p1 N 0) (id) fun () =>
  some true
end RC


namespace RC
def laws_szCon (p0 : RCon) (p1 : Int) : Option (Int) :=
 Option.bind (laws_szIntS p0.fields p1) fun q3 =>
 if (decide (q3 < 0)) = true then
  some (-1)
 else
  some q3
def laws_szConS_L1 (p0 : (List RCon)) : Nat → Int → Int → Option ((Int) ⊕ (Int))
 | 0, _, _ => none
 | n + 1, left9, i10 =>
  if (decide (i10 < (Sh.len p0))) = true then
   Option.bind (Sh.get p0 i10) fun c19 =>
   Option.bind (laws_szCon c19 left9) fun q20 =>
   if (decide (q20 < 0)) = true then
    some (Sum.inl (-1))
   else
    laws_szConS_L1 p0 n q20 (Sh.w (i10 + 1))
  else
   some (Sum.inr left9)
def laws_szConS (N : Nat) (p0 : (List RCon)) (p1 : Int) : Option (Int) :=
 if (decide ((Sh.w (p1 - (Sh.len p0))) < 0)) = true then
  some (-1)
 else
  Sh.cont (laws_szConS_L1 p0 N (Sh.w (p1 - (Sh.len p0))) 0) (id) fun left11 =>
  some left11
def laws_szDecl (N : Nat) (p0 : RDecl) (p1 : Int) : Option (Int) :=
 Option.bind (laws_szConS N p0.cons p1) fun q3 =>
 if (decide (q3 < 0)) = true then
  some (-1)
 else
  some q3
def laws_szDeclS_L1 (N : Nat) (p0 : (List RDecl)) : Nat → Int → Int → Option ((Int) ⊕ (Int))
 | 0, _, _ => none
 | n + 1, left9, i10 =>
  if (decide (i10 < (Sh.len p0))) = true then
   Option.bind (Sh.get p0 i10) fun c19 =>
   Option.bind (laws_szDecl N c19 left9) fun q20 =>
   if (decide (q20 < 0)) = true then
    some (Sum.inl (-1))
   else
    laws_szDeclS_L1 N p0 n q20 (Sh.w (i10 + 1))
  else
   some (Sum.inr left9)
def laws_szDeclS (N : Nat) (p0 : (List RDecl)) (p1 : Int) : Option (Int) :=
 if (decide ((Sh.w (p1 - (Sh.len p0))) < 0)) = true then
  some (-1)
 else
  Sh.cont (laws_szDeclS_L1 N p0 N (Sh.w (p1 - (Sh.len p0))) 0) (id) fun left11 =>
  some left11
def laws_szInstr (p0 : RInstr) (p1 : Int) : Option (Int) :=
 Option.bind (laws_szIntS p0.args p1) fun q3 =>
 if (decide (q3 < 0)) = true then
  some (-1)
 else
  Option.bind (laws_szIntS p0.jumps q3) fun q9 =>
  if (decide (q9 < 0)) = true then
   some (-1)
  else
   some q9
def laws_szInstrS_L1 (p0 : (List RInstr)) : Nat → Int → Int → Option ((Int) ⊕ (Int))
 | 0, _, _ => none
 | n + 1, left9, i10 =>
  if (decide (i10 < (Sh.len p0))) = true then
   Option.bind (Sh.get p0 i10) fun c19 =>
   Option.bind (laws_szInstr c19 left9) fun q20 =>
   if (decide (q20 < 0)) = true then
    some (Sum.inl (-1))
   else
    laws_szInstrS_L1 p0 n q20 (Sh.w (i10 + 1))
  else
   some (Sum.inr left9)
def laws_szInstrS (N : Nat) (p0 : (List RInstr)) (p1 : Int) : Option (Int) :=
 if (decide ((Sh.w (p1 - (Sh.len p0))) < 0)) = true then
  some (-1)
 else
  Sh.cont (laws_szInstrS_L1 p0 N (Sh.w (p1 - (Sh.len p0))) 0) (id) fun left11 =>
  some left11
def laws_szProc (N : Nat) (p0 : RProc) (p1 : Int) : Option (Int) :=
 Option.bind (laws_szIntS p0.params p1) fun q3 =>
 if (decide (q3 < 0)) = true then
  some (-1)
 else
  Option.bind (laws_szIntS p0.lent q3) fun q9 =>
  if (decide (q9 < 0)) = true then
   some (-1)
  else
   Option.bind (laws_szInstrS N p0.code q9) fun q15 =>
   if (decide (q15 < 0)) = true then
    some (-1)
   else
    some q15
def laws_szProcS_L1 (N : Nat) (p0 : (List RProc)) : Nat → Int → Int → Option ((Int) ⊕ (Int))
 | 0, _, _ => none
 | n + 1, left9, i10 =>
  if (decide (i10 < (Sh.len p0))) = true then
   Option.bind (Sh.get p0 i10) fun c19 =>
   Option.bind (laws_szProc N c19 left9) fun q20 =>
   if (decide (q20 < 0)) = true then
    some (Sum.inl (-1))
   else
    laws_szProcS_L1 N p0 n q20 (Sh.w (i10 + 1))
  else
   some (Sum.inr left9)
def laws_szProcS (N : Nat) (p0 : (List RProc)) (p1 : Int) : Option (Int) :=
 if (decide ((Sh.w (p1 - (Sh.len p0))) < 0)) = true then
  some (-1)
 else
  Sh.cont (laws_szProcS_L1 N p0 N (Sh.w (p1 - (Sh.len p0))) 0) (id) fun left11 =>
  some left11
def laws_szImage (N : Nat) (p0 : RImage) (p1 : Int) : Option (Int) :=
 Option.bind (laws_szDeclS N p0.decls p1) fun q3 =>
 if (decide (q3 < 0)) = true then
  some (-1)
 else
  Option.bind (laws_szProcS N p0.procs q3) fun q9 =>
  if (decide (q9 < 0)) = true then
   some (-1)
  else
   some q9
def laws_toCon (N : Nat) (p0 : RCon) : Option (RCon) :=
 Option.bind (laws_toIntS N p0.fields) fun q4 =>
 some (RCon.mk q4)
def laws_toConS_L1 (N : Nat) (p0 : (List RCon)) : Nat → Int → (List RCon) → Option ((List RCon))
 | 0, _, _ => none
 | n + 1, i6, l7 =>
  if (decide (i6 < (Sh.len p0))) = true then
   Option.bind (Sh.get p0 i6) fun c15 =>
   Option.bind (laws_toCon N c15) fun q16 =>
   Option.bind (Sh.get l7 i6) fun c17 =>
   laws_toConS_L1 N p0 n (Sh.w (i6 + 1)) (Sh.put l7 i6 q16)
  else
   some l7
def laws_toConS (N : Nat) (p0 : (List RCon)) : Option ((List RCon)) :=
 Option.bind (Sh.mk (RCon.mk []) (Sh.len p0) 24) fun l3 =>
 Option.bind (laws_toConS_L1 N p0 N 0 l3) fun l8 =>
 some l8
def laws_toDecl (N : Nat) (p0 : RDecl) : Option (RDecl) :=
 Option.bind (laws_toConS N p0.cons) fun q6 =>
 some (RDecl.mk p0.from_ p0.to q6)
def laws_toDeclS_L1 (N : Nat) (p0 : (List RDecl)) : Nat → Int → (List RDecl) → Option ((List RDecl))
 | 0, _, _ => none
 | n + 1, i6, l7 =>
  if (decide (i6 < (Sh.len p0))) = true then
   Option.bind (Sh.get p0 i6) fun c15 =>
   Option.bind (laws_toDecl N c15) fun q16 =>
   Option.bind (Sh.get l7 i6) fun c17 =>
   laws_toDeclS_L1 N p0 n (Sh.w (i6 + 1)) (Sh.put l7 i6 q16)
  else
   some l7
def laws_toDeclS (N : Nat) (p0 : (List RDecl)) : Option ((List RDecl)) :=
 Option.bind (Sh.mk (RDecl.mk 0 0 []) (Sh.len p0) 40) fun l3 =>
 Option.bind (laws_toDeclS_L1 N p0 N 0 l3) fun l8 =>
 some l8
def laws_toInstr (N : Nat) (p0 : RInstr) : Option (RInstr) :=
 Option.bind (laws_toIntS N p0.args) fun q8 =>
 Option.bind (laws_toIntS N p0.jumps) fun q10 =>
 some (RInstr.mk p0.op p0.dst p0.num p0.into q8 q10)
def laws_toInstrS_L1 (N : Nat) (p0 : (List RInstr)) : Nat → Int → (List RInstr) → Option ((List RInstr))
 | 0, _, _ => none
 | n + 1, i6, l7 =>
  if (decide (i6 < (Sh.len p0))) = true then
   Option.bind (Sh.get p0 i6) fun c15 =>
   Option.bind (laws_toInstr N c15) fun q16 =>
   Option.bind (Sh.get l7 i6) fun c17 =>
   laws_toInstrS_L1 N p0 n (Sh.w (i6 + 1)) (Sh.put l7 i6 q16)
  else
   some l7
def laws_toInstrS (N : Nat) (p0 : (List RInstr)) : Option ((List RInstr)) :=
 Option.bind (Sh.mk (RInstr.mk 0 0 0 0 [] []) (Sh.len p0) 80) fun l3 =>
 Option.bind (laws_toInstrS_L1 N p0 N 0 l3) fun l8 =>
 some l8
def laws_toProc (N : Nat) (p0 : RProc) : Option (RProc) :=
 Option.bind (laws_toIntS N p0.params) fun q4 =>
 Option.bind (laws_toIntS N p0.lent) fun q6 =>
 Option.bind (laws_toInstrS N p0.code) fun q10 =>
 some (RProc.mk q4 q6 p0.result p0.regs q10)
def laws_toProcS_L1 (N : Nat) (p0 : (List RProc)) : Nat → Int → (List RProc) → Option ((List RProc))
 | 0, _, _ => none
 | n + 1, i6, l7 =>
  if (decide (i6 < (Sh.len p0))) = true then
   Option.bind (Sh.get p0 i6) fun c15 =>
   Option.bind (laws_toProc N c15) fun q16 =>
   Option.bind (Sh.get l7 i6) fun c17 =>
   laws_toProcS_L1 N p0 n (Sh.w (i6 + 1)) (Sh.put l7 i6 q16)
  else
   some l7
def laws_toProcS (N : Nat) (p0 : (List RProc)) : Option ((List RProc)) :=
 Option.bind (Sh.mk (RProc.mk [] [] 0 0 []) (Sh.len p0) 88) fun l3 =>
 Option.bind (laws_toProcS_L1 N p0 N 0 l3) fun l8 =>
 some l8
def laws_toImage (N : Nat) (p0 : RImage) : Option (RImage) :=
 Option.bind (laws_toDeclS N p0.decls) fun q4 =>
 Option.bind (laws_toProcS N p0.procs) fun q6 =>
 some (RImage.mk q4 q6)
def spec_sigsOfImage_L1 (p0 : RImage) : Nat → Int → (List RFunc) → Option ((List RFunc))
 | 0, _, _ => none
 | n + 1, i5, l6 =>
  if (decide (i5 < (Sh.len p0.procs))) = true then
   Option.bind (Sh.get p0.procs i5) fun c14 =>
   Option.bind (Sh.app l6 ([(RFunc.mk c14.params c14.result (RExpr.mk 0 0 []))]) 72) fun l15 =>
   spec_sigsOfImage_L1 p0 n (Sh.w (i5 + 1)) l15
  else
   some l6
def spec_sigsOfImage (N : Nat) (p0 : RImage) : Option (RProgram) :=
 Option.bind (spec_sigsOfImage_L1 p0 N 0 []) fun l7 =>
 some (RProgram.mk p0.decls l7)
def spec_allTypes_L1 (p0 : (List RDecl)) (p1 : (List Int)) : Nat → Int → Option ((Bool) ⊕ (Unit))
 | 0, _ => none
 | n + 1, i4 =>
  if (decide (i4 < (Sh.len p1))) = true then
   Option.bind (Sh.get p1 i4) fun c12 =>
   Option.bind (spec_inRange c12 0 (Sh.len p0)) fun q13 =>
   if (!q13) = true then
    some (Sum.inl false)
   else
    spec_allTypes_L1 p0 p1 n (Sh.w (i4 + 1))
  else
   some (Sum.inr ())
def spec_allTypes (N : Nat) (p0 : (List RDecl)) (p1 : (List Int)) : Option (Bool) :=
 Sh.cont (spec_allTypes_L1 p0 p1 N 0) (id) fun () =>
 some true
def spec_validDecl_L1 (N : Nat) (c3 : RDecl) (p0 : (List RDecl)) : Nat → Int → Option ((Bool) ⊕ (Unit))
 | 0, _ => none
 | n + 1, i15 =>
  if (decide (i15 < (Sh.len c3.cons))) = true then
   Option.bind (
    Option.bind (Sh.get c3.cons i15) fun c27 =>
    if (decide (3 < (Sh.len c27.fields))) = true then
     some true
    else
     Option.bind (spec_allTypes N p0 c27.fields) fun q29 =>
     some (!q29)
   ) fun t23 =>
   if t23 = true then
    some (Sum.inl false)
   else
    spec_validDecl_L1 N c3 p0 n (Sh.w (i15 + 1))
  else
   some (Sum.inr ())
def spec_validDecl_L2 (c3 : RDecl) (p0 : (List RDecl)) (p1 : Int) : Nat → Int → Option ((Bool) ⊕ (Unit))
 | 0, _ => none
 | n + 1, i34 =>
  if (decide (i34 < p1)) = true then
   Option.bind (
    Option.bind (Sh.get p0 i34) fun c51 =>
    if (decide ((Sh.len c51.cons) = 0)) = true then
     if (decide (c51.from_ = c3.from_)) = true then
      some (decide (c51.to = c3.to))
     else
      some false
    else
     some false
   ) fun t47 =>
   if t47 = true then
    some (Sum.inl false)
   else
    spec_validDecl_L2 c3 p0 p1 n (Sh.w (i34 + 1))
  else
   some (Sum.inr ())
def spec_validDecl (N : Nat) (p0 : (List RDecl)) (p1 : Int) : Option (Bool) :=
 Option.bind (Sh.get p0 p1) fun c3 =>
 if (decide (0 < (Sh.len c3.cons))) = true then
  Option.bind (
   if (decide (3 < (Sh.len c3.cons))) = true then
    some true
   else
   if (!decide (c3.from_ = 0)) = true then
    some true
   else
    some (!decide (c3.to = 0))
  ) fun t9 =>
  if t9 = true then
   some false
  else
   Sh.cont (spec_validDecl_L1 N c3 p0 N 0) (id) fun () =>
   some true
 else
  Sh.cont (spec_validDecl_L2 c3 p0 p1 N 0) (id) fun () =>
  Option.bind (
   Option.bind (spec_inRange c3.from_ 0 (Sh.len p0)) fun q39 =>
   if q39 = true then
    Option.bind (spec_inRange c3.to 0 (Sh.len p0)) fun q41 =>
    some q41
   else
    some false
  ) fun t37 =>
  some t37
def spec_validTypes_L1 (N : Nat) (p0 : (List RDecl)) : Nat → Int → Option ((Bool) ⊕ (Unit))
 | 0, _ => none
 | n + 1, i8 =>
  if (decide (i8 < (Sh.len p0))) = true then
   Option.bind (spec_validDecl N p0 i8) fun q16 =>
   if (!q16) = true then
    some (Sum.inl false)
   else
    spec_validTypes_L1 N p0 n (Sh.w (i8 + 1))
  else
   some (Sum.inr ())
def spec_validTypes (N : Nat) (p0 : (List RDecl)) : Option (Bool) :=
 if (decide (4 < (Sh.len p0))) = true then
  some false
 else
  Sh.cont (spec_validTypes_L1 N p0 N 0) (id) fun () =>
  some true
def spec_validSigs_L1 (N : Nat) (p0 : RProgram) : Nat → Int → Option ((Bool) ⊕ (Unit))
 | 0, _ => none
 | n + 1, i10 =>
  if (decide (i10 < (Sh.len p0.funcs))) = true then
   Option.bind (Sh.get p0.funcs i10) fun c22 =>
   Option.bind (
    if (decide (3 < (Sh.len c22.params))) = true then
     some true
    else
     Option.bind (spec_allTypes N p0.decls c22.params) fun q29 =>
     if (!q29) = true then
      some true
     else
      Option.bind (spec_inRange c22.result 0 (Sh.len p0.decls)) fun q31 =>
      some (!q31)
   ) fun t24 =>
   if t24 = true then
    some (Sum.inl false)
   else
    spec_validSigs_L1 N p0 n (Sh.w (i10 + 1))
  else
   some (Sum.inr ())
def spec_validSigs (N : Nat) (p0 : RProgram) : Option (Bool) :=
 Option.bind (
  Option.bind (spec_validTypes N p0.decls) fun q32 =>
  if (!q32) = true then
   some true
  else
   Option.bind (spec_inRange (Sh.len p0.funcs) 1 4) fun q34 =>
   some (!q34)
 ) fun t4 =>
 if t4 = true then
  some false
 else
  Sh.cont (spec_validSigs_L1 N p0 N 0) (id) fun () =>
  Option.bind (
   Option.bind (Sh.get p0.funcs 0) fun c15 =>
   if (decide ((Sh.len c15.params) = 0)) = true then
    some (decide (c15.result = 0))
   else
    some false
  ) fun t13 =>
  some t13
def spec_validLent_L1 (p0 : (List Int)) (p1 : (List Int)) : Nat → Int → Option ((Bool) ⊕ (Unit))
 | 0, _ => none
 | n + 1, i4 =>
  if (decide (i4 < (Sh.len p1))) = true then
   Option.bind (
    Option.bind (Sh.get p1 i4) fun c16 =>
    Option.bind (spec_inRange c16 0 (Sh.w ((Sh.len p0) - 1))) fun q17 =>
    if (!q17) = true then
     some true
    else
     Option.bind (Sh.get p0 c16) fun c19 =>
     if (decide (c19 = 0)) = true then
      some true
     else
     if (decide (0 < i4)) = true then
      Option.bind (Sh.get p1 (Sh.w (i4 - 1))) fun c22 =>
      some (decide (c16 ≤ c22))
     else
      some false
   ) fun t12 =>
   if t12 = true then
    some (Sum.inl false)
   else
    spec_validLent_L1 p0 p1 n (Sh.w (i4 + 1))
  else
   some (Sum.inr ())
def spec_validLent (N : Nat) (p0 : (List Int)) (p1 : (List Int)) : Option (Bool) :=
 Sh.cont (spec_validLent_L1 p0 p1 N 0) (id) fun () =>
 some true
def spec_defines (p0 : Int) : Option (Bool) :=
 Option.bind (spec_inRange p0 0 11) fun q3 =>
 some q3
def spec_sets (p0 : Int) : Option (Bool) :=
 Option.bind (
  Option.bind (spec_defines p0) fun q5 =>
  if q5 = true then
   if (!decide (p0 = 7)) = true then
    if (!decide (p0 = 8)) = true then
     some true
    else
    if (decide (p0 = 18)) = true then
     some true
    else
     some (decide (p0 = 19))
   else
   if (decide (p0 = 18)) = true then
    some true
   else
    some (decide (p0 = 19))
  else
  if (decide (p0 = 18)) = true then
   some true
  else
   some (decide (p0 = 19))
 ) fun t3 =>
 some t3
def spec_firstCon_L1 (p0 : (List RDecl)) (p1 : Int) : Nat → Int → Int → Option (Int)
 | 0, _, _ => none
 | n + 1, n5, i6 =>
  if (decide (i6 < p1)) = true then
   Option.bind (Sh.get p0 i6) fun c14 =>
   spec_firstCon_L1 p0 p1 n (Sh.w (n5 + (Sh.len c14.cons))) (Sh.w (i6 + 1))
  else
   some n5
def spec_firstCon (N : Nat) (p0 : (List RDecl)) (p1 : Int) : Option (Int) :=
 Option.bind (spec_firstCon_L1 p0 p1 N 0 0) fun n7 =>
 some n7
def spec_conType_L1 (N : Nat) (p0 : (List RDecl)) (p1 : Int) : Nat → Int → Option ((Int) ⊕ (Unit))
 | 0, _ => none
 | n + 1, i4 =>
  if (decide (i4 < (Sh.len p0))) = true then
   Option.bind (spec_firstCon N p0 i4) fun q12 =>
   Option.bind (Sh.get p0 i4) fun c14 =>
   Option.bind (spec_inRange p1 q12 (Sh.w ((Sh.w (q12 + (Sh.len c14.cons))) - 1))) fun q15 =>
   if q15 = true then
    some (Sum.inl (Sh.w (i4 + 1)))
   else
    spec_conType_L1 N p0 p1 n (Sh.w (i4 + 1))
  else
   some (Sum.inr ())
def spec_conType (N : Nat) (p0 : (List RDecl)) (p1 : Int) : Option (Int) :=
 Sh.cont (spec_conType_L1 N p0 p1 N 0) (id) fun () =>
 some (-1)
def spec_conFields (N : Nat) (p0 : (List RDecl)) (p1 : Int) : Option ((List Int)) :=
 Option.bind (spec_conType N p0 p1) fun q3 =>
 if (decide (q3 < 1)) = true then
  some []
 else
  Option.bind (Sh.get p0 (Sh.w (q3 - 1))) fun c9 =>
  Option.bind (spec_firstCon N p0 (Sh.w (q3 - 1))) fun q10 =>
  Option.bind (Sh.get c9.cons (Sh.w (p1 - q10))) fun c11 =>
  some c11.fields
def spec_procWith (p0 : RImage) (p1 : Int) (p2 : Int) (p3 : Int) : Option (Bool) :=
 Option.bind (
  Option.bind (spec_inRange p1 0 (Sh.w ((Sh.len p0.procs) - 1))) fun q5 =>
  if q5 = true then
   Option.bind (Sh.get p0.procs p1) fun c7 =>
   some (decide ((Sh.len c7.params) = (Sh.w (p2 + p3))))
  else
   some false
 ) fun t3 =>
 some t3
def spec_consOf_L1 (N : Nat) (p0 : (List RDecl)) (p1 : Int) : Nat → Int → (List Int) → Option ((List Int))
 | 0, _, _ => none
 | n + 1, i12, l13 =>
  Option.bind (Sh.get p0 (Sh.w (p1 - 1))) fun c19 =>
  if (decide (i12 < (Sh.len c19.cons))) = true then
   Option.bind (spec_firstCon N p0 (Sh.w (p1 - 1))) fun q22 =>
   Option.bind (Sh.app l13 [Sh.w (q22 + i12)] 8) fun l23 =>
   spec_consOf_L1 N p0 p1 n (Sh.w (i12 + 1)) l23
  else
   some l13
def spec_consOf (N : Nat) (p0 : (List RDecl)) (p1 : Int) : Option ((List Int)) :=
 Option.bind (spec_inRange p1 1 (Sh.len p0)) fun q5 =>
 if (!q5) = true then
  some []
 else
  Option.bind (spec_consOf_L1 N p0 p1 N 0 []) fun l14 =>
  some l14
def spec_validJumps_L1 (p0 : (List Int)) (p1 : Int) (p2 : Int) (p3 : Int) : Nat → Int → Option ((Bool) ⊕ (Unit))
 | 0, _ => none
 | n + 1, i10 =>
  if (decide (i10 < p1)) = true then
   Option.bind (Sh.get p0 i10) fun c18 =>
   Option.bind (spec_inRange c18 (Sh.w (p2 + 1)) (Sh.w (p3 - 1))) fun q19 =>
   if (!q19) = true then
    some (Sum.inl false)
   else
    spec_validJumps_L1 p0 p1 p2 p3 n (Sh.w (i10 + 1))
  else
   some (Sum.inr ())
def spec_validJumps (N : Nat) (p0 : (List Int)) (p1 : Int) (p2 : Int) (p3 : Int) : Option (Bool) :=
 if (!decide ((Sh.len p0) = p1)) = true then
  some false
 else
  Sh.cont (spec_validJumps_L1 p0 p1 p2 p3 N 0) (id) fun () =>
  some true
def spec_validInstr_L1 (c3 : RInstr) (p1 : RProc) : Nat → Int → Option ((Bool) ⊕ (Unit))
 | 0, _ => none
 | n + 1, k7 =>
  if (decide (k7 < (Sh.len c3.args))) = true then
   Option.bind (Sh.get c3.args k7) fun c143 =>
   Option.bind (spec_inRange c143 0 (Sh.w (p1.regs - 1))) fun q144 =>
   if (!q144) = true then
    some (Sum.inl false)
   else
    spec_validInstr_L1 c3 p1 n (Sh.w (k7 + 1))
  else
   some (Sum.inr ())
def spec_validInstr (N : Nat) (p0 : RImage) (p1 : RProc) (p2 : Int) : Option (Bool) :=
 Option.bind (Sh.get p1.code p2) fun c3 =>
 Sh.cont (spec_validInstr_L1 c3 p1 N 0) (id) fun () =>
 Option.bind (
  Option.bind (spec_inRange c3.dst 0 (Sh.w (p1.regs - 1))) fun q125 =>
  if (!q125) = true then
   some true
  else
  if (!decide (c3.dst = 0)) = true then
   Option.bind (spec_sets c3.op) fun q128 =>
   if (!q128) = true then
    some true
   else
   if (!decide (c3.into = 0)) = true then
    if (!decide (c3.op = 6)) = true then
     some true
    else
    if (!decide (c3.op = 21)) = true then
     some (decide (0 < (Sh.len c3.jumps)))
    else
     some false
   else
   if (!decide (c3.op = 21)) = true then
    some (decide (0 < (Sh.len c3.jumps)))
   else
    some false
  else
  if (!decide (c3.into = 0)) = true then
   if (!decide (c3.op = 6)) = true then
    some true
   else
   if (!decide (c3.op = 21)) = true then
    some (decide (0 < (Sh.len c3.jumps)))
   else
    some false
  else
  if (!decide (c3.op = 21)) = true then
   some (decide (0 < (Sh.len c3.jumps)))
  else
   some false
 ) fun t11 =>
 if t11 = true then
  some false
 else
 if (decide (c3.op = 0)) = true then
  Option.bind (
   if (decide ((Sh.len c3.args) = 0)) = true then
    Option.bind (spec_inRange c3.num (-999) 999) fun q23 =>
    some q23
   else
    some false
  ) fun t20 =>
  some t20
 else
  Option.bind (
   if (decide (c3.op = 1)) = true then
    some true
   else
   if (decide (c3.op = 2)) = true then
    some true
   else
   if (decide (c3.op = 3)) = true then
    some true
   else
   if (decide (c3.op = 4)) = true then
    some true
   else
    some (decide (c3.op = 11))
  ) fun t25 =>
  if t25 = true then
   Option.bind (
    if (decide ((Sh.len c3.args) = 2)) = true then
     some (decide (c3.num = 0))
    else
     some false
   ) fun t29 =>
   some t29
  else
   Option.bind (
    if (decide (c3.op = 5)) = true then
     some true
    else
    if (decide (c3.op = 14)) = true then
     some true
    else
    if (decide (c3.op = 15)) = true then
     some true
    else
    if (decide (c3.op = 18)) = true then
     some true
    else
     some (decide (c3.op = 23))
   ) fun t33 =>
   if t33 = true then
    Option.bind (
     if (decide ((Sh.len c3.args) = 1)) = true then
      some (decide (c3.num = 0))
     else
      some false
    ) fun t37 =>
    some t37
   else
   if (decide (c3.op = 6)) = true then
    Option.bind (
     Option.bind (spec_conType N p0.decls c3.num) fun q45 =>
     if (decide (0 < q45)) = true then
      Option.bind (spec_conFields N p0.decls c3.num) fun q47 =>
      if (decide ((Sh.len c3.args) = (Sh.len q47))) = true then
       Option.bind (spec_inRange c3.into 0 p1.regs) fun q49 =>
       some q49
      else
       some false
     else
      some false
    ) fun t43 =>
    some t43
   else
    Option.bind (
     if (decide (c3.op = 9)) = true then
      some true
     else
      some (decide (c3.op = 24))
    ) fun t51 =>
    if t51 = true then
     Option.bind (spec_procWith p0 c3.num (Sh.len c3.args) 0) fun q55 =>
     some q55
    else
    if (decide (c3.op = 10)) = true then
     Option.bind (
      Option.bind (spec_procWith p0 c3.num (Sh.len c3.args) 1) fun q61 =>
      if q61 = true then
       Option.bind (Sh.get p0.procs c3.num) fun c63 =>
       some (decide ((Sh.len c63.lent) = 0))
      else
       some false
     ) fun t59 =>
     some t59
    else
     Option.bind (
      if (decide (c3.op = 16)) = true then
       some true
      else
       some (decide (c3.op = 17))
     ) fun t65 =>
     if t65 = true then
      Option.bind (
       Option.bind (spec_inRange (Sh.len c3.args) 1 4) fun q71 =>
       if q71 = true then
        some (decide (c3.num = 0))
       else
        some false
      ) fun t69 =>
      some t69
     else
     if (decide (c3.op = 19)) = true then
      Option.bind (
       if (decide ((Sh.len c3.args) = 1)) = true then
        Option.bind (spec_inRange c3.num 0 2) fun q79 =>
        some q79
       else
        some false
      ) fun t76 =>
      some t76
     else
     if (decide (c3.op = 20)) = true then
      Option.bind (
       if (decide ((Sh.len c3.args) = 1)) = true then
        Option.bind (spec_inRange c3.num (Sh.w (p2 + 1)) (Sh.w ((Sh.len p1.code) - 1))) fun q86 =>
        some q86
       else
        some false
      ) fun t83 =>
      some t83
     else
     if (decide (c3.op = 22)) = true then
      Option.bind (
       if (decide ((Sh.len c3.args) = 0)) = true then
        Option.bind (spec_inRange c3.num (Sh.w (p2 + 1)) (Sh.w ((Sh.len p1.code) - 1))) fun q93 =>
        some q93
       else
        some false
      ) fun t90 =>
      some t90
     else
     if (decide (c3.op = 21)) = true then
      Option.bind (spec_consOf N p0.decls c3.num) fun q97 =>
      Option.bind (
       if (decide ((Sh.len c3.args) = 1)) = true then
        if (decide (0 < (Sh.len q97))) = true then
         Option.bind (spec_validJumps N c3.jumps (Sh.len q97) p2 (Sh.len p1.code)) fun q103 =>
         some q103
        else
         some false
       else
        some false
      ) fun t99 =>
      some t99
     else
      some false
def spec_validProc_L1 (N : Nat) (p0 : RImage) (p1 : RProc) : Nat → Int → Option ((Bool) ⊕ (Unit))
 | 0, _ => none
 | n + 1, at11 =>
  if (decide (at11 < (Sh.len p1.code))) = true then
   Option.bind (spec_validInstr N p0 p1 at11) fun q23 =>
   if (!q23) = true then
    some (Sum.inl false)
   else
    spec_validProc_L1 N p0 p1 n (Sh.w (at11 + 1))
  else
   some (Sum.inr ())
def spec_validProc (N : Nat) (p0 : RImage) (p1 : RProc) : Option (Bool) :=
 Option.bind (
  Option.bind (spec_validLent N p1.params p1.lent) fun q28 =>
  if (!q28) = true then
   some true
  else
   Option.bind (spec_inRange p1.regs (if (Sh.len p1.params) > 1 then (Sh.len p1.params) else 1) 2000) fun q30 =>
   if (!q30) = true then
    some true
   else
    Option.bind (spec_inRange (Sh.len p1.code) 1 2000) fun q32 =>
    some (!q32)
 ) fun t5 =>
 if t5 = true then
  some false
 else
  Sh.cont (spec_validProc_L1 N p0 p1 N 0) (id) fun () =>
  Option.bind (
   Option.bind (Sh.get p1.code (Sh.w ((Sh.len p1.code) - 1))) fun c16 =>
   if (decide (c16.op = 23)) = true then
    some true
   else
    some (decide (c16.op = 24))
  ) fun t14 =>
  some t14
def spec_validImage_L1 (N : Nat) (p0 : RImage) : Nat → Int → Option ((Bool) ⊕ (Unit))
 | 0, _ => none
 | n + 1, i10 =>
  if (decide (i10 < (Sh.len p0.procs))) = true then
   Option.bind (Sh.get p0.procs i10) fun c18 =>
   Option.bind (spec_validProc N p0 c18) fun q19 =>
   if (!q19) = true then
    some (Sum.inl false)
   else
    spec_validImage_L1 N p0 n (Sh.w (i10 + 1))
  else
   some (Sum.inr ())
def spec_validImage (N : Nat) (p0 : RImage) : Option (Bool) :=
 Option.bind (
  if (decide (4 < (Sh.len p0.procs))) = true then
   some true
  else
   Option.bind (spec_sigsOfImage N p0) fun q25 =>
   Option.bind (spec_validSigs N q25) fun q26 =>
   some (!q26)
 ) fun t4 =>
 if t4 = true then
  some false
 else
  Sh.cont (spec_validImage_L1 N p0 N 0) (id) fun () =>
  some true
def spec_ValidImage (N : Nat) (p0 : RImage) : Option (Bool) :=
 Option.bind (spec_validImage N p0) fun q3 =>
 some q3
def impl_isType (p0 : (List RDecl)) (p1 : Int) : Option (Bool) :=
 Option.bind (
  if (decide (0 ≤ p1)) = true then
   some (decide (p1 ≤ (Sh.len p0)))
  else
   some false
 ) fun t3 =>
 some t3
def impl_allTypes_L1 (p0 : (List RDecl)) (p1 : (List Int)) : Nat → Int → Option ((Bool) ⊕ (Unit))
 | 0, _ => none
 | n + 1, t4 =>
  if (decide (t4 < (Sh.len p1))) = true then
   Option.bind (Sh.get p1 t4) fun c12 =>
   Option.bind (impl_isType p0 c12) fun q14 =>
   if (!q14) = true then
    some (Sum.inl false)
   else
    impl_allTypes_L1 p0 p1 n (Sh.w (t4 + 1))
  else
   some (Sum.inr ())
def impl_allTypes (N : Nat) (p0 : (List RDecl)) (p1 : (List Int)) : Option (Bool) :=
 Sh.cont (impl_allTypes_L1 p0 p1 N 0) (id) fun () =>
 some true
def impl_ValidTypes_L3 (c16 : RDecl) (l28 : (List RDecl)) : Nat → Int → Option ((Bool) ⊕ (Unit))
 | 0, _ => none
 | n + 1, t29 =>
  if (decide (t29 < (Sh.len l28))) = true then
   Option.bind (Sh.get l28 t29) fun c36 =>
   Option.bind (
    if (decide ((Sh.len c16.cons) = 0)) = true then
     if (decide ((Sh.len c36.cons) = 0)) = true then
      if (decide (c36.from_ = c16.from_)) = true then
       some (decide (c36.to = c16.to))
      else
       some false
     else
      some false
    else
     some false
   ) fun t38 =>
   if t38 = true then
    some (Sum.inl false)
   else
    impl_ValidTypes_L3 c16 l28 n (Sh.w (t29 + 1))
  else
   some (Sum.inr ())
def impl_ValidTypes_L2 (N : Nat) (c16 : RDecl) (p0 : (List RDecl)) : Nat → Int → Option ((Bool) ⊕ (Unit))
 | 0, _ => none
 | n + 1, t25 =>
  if (decide (t25 < (Sh.len c16.cons))) = true then
   Option.bind (Sh.get c16.cons t25) fun c50 =>
   Option.bind (
    if (decide (3 < (Sh.len c50.fields))) = true then
     some true
    else
     Option.bind (impl_allTypes N p0 c50.fields) fun q57 =>
     some (!q57)
   ) fun t52 =>
   if t52 = true then
    some (Sum.inl false)
   else
    impl_ValidTypes_L2 N c16 p0 n (Sh.w (t25 + 1))
  else
   some (Sum.inr ())
def impl_ValidTypes_L1 (N : Nat) (p0 : (List RDecl)) : Nat → Int → Option ((Bool) ⊕ (Unit))
 | 0, _ => none
 | n + 1, t8 =>
  if (decide (t8 < (Sh.len p0))) = true then
   Option.bind (Sh.get p0 t8) fun c16 =>
   Option.bind (
    Option.bind (impl_isType p0 c16.from_) fun q58 =>
    if (!q58) = true then
     some true
    else
     Option.bind (impl_isType p0 c16.to) fun q60 =>
     if (!q60) = true then
      some true
     else
     if (decide (3 < (Sh.len c16.cons))) = true then
      some true
     else
     if (decide (0 < (Sh.len c16.cons))) = true then
      if (!decide (c16.from_ = 0)) = true then
       some true
      else
       some (!decide (c16.to = 0))
     else
      some false
   ) fun t19 =>
   if t19 = true then
    some (Sum.inl false)
   else
    Sh.cont (impl_ValidTypes_L2 N c16 p0 N 0) (fun x => Sum.inl x) fun () =>
    Option.bind (Sh.sl p0 0 t8) fun l28 =>
    Sh.cont (impl_ValidTypes_L3 c16 l28 N 0) (fun x => Sum.inl x) fun () =>
    impl_ValidTypes_L1 N p0 n (Sh.w (t8 + 1))
  else
   some (Sum.inr ())
def impl_ValidTypes (N : Nat) (p0 : (List RDecl)) : Option (Bool) :=
 if (decide (4 < (Sh.len p0))) = true then
  some false
 else
  Sh.cont (impl_ValidTypes_L1 N p0 N 0) (id) fun () =>
  some true
def impl_validSigs_L2 (c18 : RSignature) : Nat → Int → Option ((Bool) ⊕ (Unit))
 | 0, _ => none
 | n + 1, t26 =>
  if (decide (t26 < (Sh.len c18.lent))) = true then
   Option.bind (Sh.get c18.lent t26) fun c33 =>
   Option.bind (
    if (decide (c33 < 0)) = true then
     some true
    else
    if (decide ((Sh.len c18.params) ≤ c33)) = true then
     some true
    else
     Option.bind (Sh.get c18.params c33) fun c41 =>
     if (decide (c41 = 0)) = true then
      some true
     else
     if (decide (0 < t26)) = true then
      Option.bind (Sh.get c18.lent (Sh.w (t26 - 1))) fun c44 =>
      some (decide (c33 ≤ c44))
     else
      some false
   ) fun t35 =>
   if t35 = true then
    some (Sum.inl false)
   else
    impl_validSigs_L2 c18 n (Sh.w (t26 + 1))
  else
   some (Sum.inr ())
def impl_validSigs_L1 (N : Nat) (p0 : (List RDecl)) (p1 : (List RSignature)) : Nat → Int → Option ((Bool) ⊕ (Unit))
 | 0, _ => none
 | n + 1, t10 =>
  if (decide (t10 < (Sh.len p1))) = true then
   Option.bind (Sh.get p1 t10) fun c18 =>
   Option.bind (
    if (decide (3 < (Sh.len c18.params))) = true then
     some true
    else
     Option.bind (impl_allTypes N p0 c18.params) fun q46 =>
     if (!q46) = true then
      some true
     else
      Option.bind (impl_isType p0 c18.result) fun q48 =>
      some (!q48)
   ) fun t21 =>
   if t21 = true then
    some (Sum.inl false)
   else
    Sh.cont (impl_validSigs_L2 c18 N 0) (fun x => Sum.inl x) fun () =>
    impl_validSigs_L1 N p0 p1 n (Sh.w (t10 + 1))
  else
   some (Sum.inr ())
def impl_validSigs (N : Nat) (p0 : (List RDecl)) (p1 : (List RSignature)) : Option (Bool) :=
 Option.bind (
  Option.bind (impl_ValidTypes N p0) fun q49 =>
  if (!q49) = true then
   some true
  else
  if (decide ((Sh.len p1) < 1)) = true then
   some true
  else
  if (decide (4 < (Sh.len p1))) = true then
   some true
  else
   Option.bind (Sh.get p1 0) fun c53 =>
   if (decide (0 < (Sh.len c53.params))) = true then
    some true
   else
    some (!decide (c53.result = 0))
 ) fun t4 =>
 if t4 = true then
  some false
 else
  Sh.cont (impl_validSigs_L1 N p0 p1 N 0) (id) fun () =>
  some true
def impl_imageSigs_L1 (p0 : RImage) : Nat → Int → (List RSignature) → Option ((List RSignature))
 | 0, _, _ => none
 | n + 1, t9, l10 =>
  if (decide (t9 < (Sh.len p0.procs))) = true then
   Option.bind (Sh.get p0.procs t9) fun c20 =>
   Option.bind (Sh.app l10 [(RSignature.mk c20.params c20.lent c20.result)] 56) fun l21 =>
   impl_imageSigs_L1 p0 n (Sh.w (t9 + 1)) l21
  else
   some l10
def impl_imageSigs (N : Nat) (p0 : RImage) : Option (RSignatures × Bool) :=
 if (decide (4 < (Sh.len p0.procs))) = true then
  some ((RSignatures.mk [] []), false)
 else
  Option.bind (impl_imageSigs_L1 p0 N 0 []) fun l11 =>
  Option.bind (impl_validSigs N p0.decls l11) fun q14 =>
  some ((RSignatures.mk p0.decls l11), q14)
def impl_setsRegister (p0 : Int) : Option (Bool) :=
 Option.bind (
  if (decide (0 ≤ p0)) = true then
   if (decide (p0 ≤ 11)) = true then
    some true
   else
   if (decide (p0 = 18)) = true then
    some true
   else
    some (decide (p0 = 19))
  else
  if (decide (p0 = 18)) = true then
   some true
  else
   some (decide (p0 = 19))
 ) fun t3 =>
 some t3
def impl_signatures_instrValid_1 (s0_0 : Int) (s1_0 : (List Int)) (s1_1 : (List Int)) (s1_2 : Int) (s1_3 : Int) (s1_4 : (List RInstr)) (p0 : Int) : Option (Bool) :=
 Option.bind (
  if (decide (s0_0 < p0)) = true then
   some (decide (p0 < (Sh.len s1_4)))
  else
   some false
 ) fun t3 =>
 some t3
def impl_signatures_instrValid_2 (s1_0 : Int) (s2_0 : (List Int)) (s2_1 : (List Int)) (s2_2 : Int) (s2_3 : Int) (s2_4 : (List RInstr)) (p0 : Int) : Option (Bool) :=
 Option.bind (impl_signatures_instrValid_1 s1_0 s2_0 s2_1 s2_2 s2_3 s2_4 p0) fun q3 =>
 some (!q3)
def slices_IndexFunc_int_int_L1 (s1_0 : Int) (s2_0 : (List Int)) (s2_1 : (List Int)) (s2_2 : Int) (s2_3 : Int) (s2_4 : (List RInstr)) (p0 : (List Int)) : Nat → Int → Option ((Int) ⊕ (Unit))
 | 0, _ => none
 | n + 1, t4 =>
  if (decide (t4 < (Sh.len p0))) = true then
   Option.bind (Sh.get p0 t4) fun c13 =>
   Option.bind (impl_signatures_instrValid_2 s1_0 s2_0 s2_1 s2_2 s2_3 s2_4 c13) fun q14 =>
   if q14 = true then
    some (Sum.inl t4)
   else
    slices_IndexFunc_int_int_L1 s1_0 s2_0 s2_1 s2_2 s2_3 s2_4 p0 n (Sh.w (t4 + 1))
  else
   some (Sum.inr ())
def slices_IndexFunc_int_int (N : Nat) (s1_0 : Int) (s2_0 : (List Int)) (s2_1 : (List Int)) (s2_2 : Int) (s2_3 : Int) (s2_4 : (List RInstr)) (p0 : (List Int)) : Option (Int) :=
 Sh.cont (slices_IndexFunc_int_int_L1 s1_0 s2_0 s2_1 s2_2 s2_3 s2_4 p0 N 0) (id) fun () =>
 some (-1)
def slices_ContainsFunc_int_int (N : Nat) (s1_0 : Int) (s2_0 : (List Int)) (s2_1 : (List Int)) (s2_2 : Int) (s2_3 : Int) (s2_4 : (List RInstr)) (p0 : (List Int)) : Option (Bool) :=
 Option.bind (slices_IndexFunc_int_int N s1_0 s2_0 s2_1 s2_2 s2_3 s2_4 p0) fun q3 =>
 some (decide (0 ≤ q3))
def impl_conCount_L1 (p0 : (List RDecl)) : Nat → Int → Int → Option (Int)
 | 0, _, _ => none
 | n + 1, n5, t6 =>
  if (decide (t6 < (Sh.len p0))) = true then
   Option.bind (Sh.get p0 t6) fun c15 =>
   impl_conCount_L1 p0 n (Sh.w (n5 + (Sh.len c15.cons))) (Sh.w (t6 + 1))
  else
   some n5
def impl_conCount (N : Nat) (p0 : (List RDecl)) : Option (Int) :=
 Option.bind (impl_conCount_L1 p0 N 0 0) fun n7 =>
 some n7
def impl_consOf_L1 (c14 : RDecl) (q10 : Int) : Nat → Int → (List Int) → Option ((List Int))
 | 0, _, _ => none
 | n + 1, t15, l16 =>
  if (decide (t15 < (Sh.len c14.cons))) = true then
   Option.bind (Sh.app l16 [Sh.w (q10 + t15)] 8) fun l25 =>
   impl_consOf_L1 c14 q10 n (Sh.w (t15 + 1)) l25
  else
   some l16
def impl_consOf (N : Nat) (p0 : (List RDecl)) (p1 : Int) : Option ((List Int)) :=
 Option.bind (
  if (decide (p1 < 1)) = true then
   some true
  else
   some (decide ((Sh.len p0) < p1))
 ) fun t4 =>
 if t4 = true then
  some []
 else
  Option.bind (Sh.sl p0 0 (Sh.w (p1 - 1))) fun l9 =>
  Option.bind (impl_conCount N l9) fun q10 =>
  Option.bind (Sh.get p0 (Sh.w (p1 - 1))) fun c14 =>
  Option.bind (impl_consOf_L1 c14 q10 N 0 []) fun l17 =>
  some l17
def impl_signatures_numValid (N : Nat) (s0_0 : Int) (s1_0 : (List Int)) (s1_1 : (List Int)) (s1_2 : Int) (s1_3 : Int) (s1_4 : (List RInstr)) (p0 : RSignatures) (p1 : RInstr) : Option (Bool) :=
 if (decide (p1.op = 0)) = true then
  Option.bind (
   if (decide ((-999) ≤ p1.num)) = true then
    some (decide (p1.num ≤ 999))
   else
    some false
  ) fun t7 =>
  some t7
 else
 if (decide (p1.op = 6)) = true then
  Option.bind (
   if (decide (0 ≤ p1.num)) = true then
    Option.bind (impl_conCount N p0.decls) fun q16 =>
    some (decide (p1.num < q16))
   else
    some false
  ) fun t13 =>
  some t13
 else
  Option.bind (
   if (decide (p1.op = 9)) = true then
    some true
   else
    some (decide (p1.op = 24))
  ) fun t18 =>
  if t18 = true then
   Option.bind (
    if (decide (0 ≤ p1.num)) = true then
     some (decide (p1.num < (Sh.len p0.funcs)))
    else
     some false
   ) fun t22 =>
   some t22
  else
  if (decide (p1.op = 10)) = true then
   Option.bind (
    if (decide (0 ≤ p1.num)) = true then
     if (decide (p1.num < (Sh.len p0.funcs))) = true then
      Option.bind (Sh.get p0.funcs p1.num) fun c32 =>
      some (decide ((Sh.len c32.lent) = 0))
     else
      some false
    else
     some false
   ) fun t28 =>
   some t28
  else
  if (decide (p1.op = 19)) = true then
   Option.bind (
    if (decide (0 ≤ p1.num)) = true then
     some (decide (p1.num < 3))
    else
     some false
   ) fun t36 =>
   some t36
  else
   Option.bind (
    if (decide (p1.op = 20)) = true then
     some true
    else
     some (decide (p1.op = 22))
   ) fun t40 =>
   if t40 = true then
    Option.bind (impl_signatures_instrValid_1 s0_0 s1_0 s1_1 s1_2 s1_3 s1_4 p1.num) fun q44 =>
    some q44
   else
   if (decide (p1.op = 21)) = true then
    Option.bind (impl_consOf N p0.decls p1.num) fun q48 =>
    Option.bind (
     if (decide (0 < (Sh.len q48))) = true then
      some (decide ((Sh.len p1.jumps) = (Sh.len q48)))
     else
      some false
    ) fun t50 =>
    some t50
   else
    some (decide (p1.num = 0))
def impl_conAt_L1 (p0 : (List RDecl)) : Nat → Int → Int → Option ((Int × RCon) ⊕ (Unit))
 | 0, _, _ => none
 | n + 1, c4, t5 =>
  if (decide (t5 < (Sh.len p0))) = true then
   Option.bind (Sh.get p0 t5) fun c13 =>
   Option.bind (
    if (decide (0 ≤ c4)) = true then
     some (decide (c4 < (Sh.len c13.cons)))
    else
     some false
   ) fun t16 =>
   if t16 = true then
    Option.bind (Sh.get c13.cons c4) fun c20 =>
    some (Sum.inl (Sh.w (t5 + 1), c20))
   else
    impl_conAt_L1 p0 n (Sh.w (c4 - (Sh.len c13.cons))) (Sh.w (t5 + 1))
  else
   some (Sum.inr ())
def impl_conAt (N : Nat) (p0 : (List RDecl)) (p1 : Int) : Option (Int × RCon) :=
 Sh.cont (impl_conAt_L1 p0 N p1 0) (id) fun () =>
 some (-1, (RCon.mk []))
def impl_fieldsOf (N : Nat) (p0 : (List RDecl)) (p1 : Int) : Option ((List Int)) :=
 Option.bind (impl_conAt N p0 p1) fun q3 =>
 some q3.2.fields
def impl_signatures_argsOf (N : Nat) (p0 : RSignatures) (p1 : RInstr) : Option (Int × Int) :=
 Sh.cont (
  Option.bind (
   if (decide (p1.op = 0)) = true then
    some true
   else
    some (decide (p1.op = 22))
  ) fun t9 =>
  if t9 = true then
   some (Sum.inr 0)
  else
   Option.bind (
    if (decide (p1.op = 1)) = true then
     some true
    else
    if (decide (p1.op = 2)) = true then
     some true
    else
    if (decide (p1.op = 3)) = true then
     some true
    else
    if (decide (p1.op = 4)) = true then
     some true
    else
     some (decide (p1.op = 11))
   ) fun t13 =>
   if t13 = true then
    some (Sum.inr 2)
   else
   if (decide (p1.op = 6)) = true then
    Option.bind (impl_fieldsOf N p0.decls p1.num) fun q18 =>
    some (Sum.inr (Sh.len q18))
   else
    Option.bind (
     if (decide (p1.op = 9)) = true then
      some true
     else
      some (decide (p1.op = 24))
    ) fun t20 =>
    if t20 = true then
     Option.bind (Sh.get p0.funcs p1.num) fun c23 =>
     some (Sum.inr (Sh.len c23.params))
    else
    if (decide (p1.op = 10)) = true then
     Option.bind (Sh.get p0.funcs p1.num) fun c26 =>
     some (Sum.inr (Sh.w ((Sh.len c26.params) - 1)))
    else
     Option.bind (
      if (decide (p1.op = 16)) = true then
       some true
      else
       some (decide (p1.op = 17))
     ) fun t28 =>
     if t28 = true then
      some (Sum.inl (1, 4))
     else
      some (Sum.inr 1)
 ) (id) fun n4 =>
 some (n4, n4)
def impl_signatures_instrValid_L1 (p1 : RProc) (p3 : RInstr) : Nat → Int → Option ((Bool) ⊕ (Unit))
 | 0, _ => none
 | n + 1, t16 =>
  if (decide (t16 < (Sh.len p3.args))) = true then
   Option.bind (Sh.get p3.args t16) fun c47 =>
   Option.bind (
    if (decide (c47 < 0)) = true then
     some true
    else
     some (decide (p1.regs ≤ c47))
   ) fun t49 =>
   if t49 = true then
    some (Sum.inl false)
   else
    impl_signatures_instrValid_L1 p1 p3 n (Sh.w (t16 + 1))
  else
   some (Sum.inr ())
def impl_signatures_instrValid (N : Nat) (p0 : RSignatures) (p1 : RProc) (p2 : Int) (p3 : RInstr) : Option (Bool) :=
 Option.bind (
  if (decide (p3.op < 0)) = true then
   some true
  else
  if (decide (24 < p3.op)) = true then
   some true
  else
  if (decide (p3.op = 7)) = true then
   some true
  else
  if (decide (p3.op = 8)) = true then
   some true
  else
  if (decide (p3.op = 12)) = true then
   some true
  else
   some (decide (p3.op = 13))
 ) fun t4 =>
 if t4 = true then
  some false
 else
  Option.bind (
   if (decide (p3.dst < 0)) = true then
    some true
   else
   if (decide (p1.regs ≤ p3.dst)) = true then
    some true
   else
   if (!decide (p3.dst = 0)) = true then
    Option.bind (impl_setsRegister p3.op) fun q57 =>
    if (!q57) = true then
     some true
    else
    if (decide (p3.into < 0)) = true then
     some true
    else
    if (decide (p1.regs < p3.into)) = true then
     some true
    else
    if (!decide (p3.into = 0)) = true then
     some (!decide (p3.op = 6))
    else
     some false
   else
   if (decide (p3.into < 0)) = true then
    some true
   else
   if (decide (p1.regs < p3.into)) = true then
    some true
   else
   if (!decide (p3.into = 0)) = true then
    some (!decide (p3.op = 6))
   else
    some false
  ) fun t10 =>
  if t10 = true then
   some false
  else
   Sh.cont (impl_signatures_instrValid_L1 p1 p3 N 0) (id) fun () =>
   Option.bind (
    if (decide (0 < (Sh.len p3.jumps))) = true then
     if (!decide (p3.op = 21)) = true then
      some true
     else
      Option.bind (slices_ContainsFunc_int_int N p2 p1.params p1.lent p1.result p1.regs p1.code p3.jumps) fun q40 =>
      some q40
    else
     Option.bind (slices_ContainsFunc_int_int N p2 p1.params p1.lent p1.result p1.regs p1.code p3.jumps) fun q41 =>
     some q41
   ) fun t21 =>
   if t21 = true then
    some false
   else
    Option.bind (impl_signatures_numValid N p2 p1.params p1.lent p1.result p1.regs p1.code p0 p3) fun q27 =>
    if (!q27) = true then
     some false
    else
     Option.bind (impl_signatures_argsOf N p0 p3) fun q33 =>
     Option.bind (
      if (decide (q33.1 ≤ (Sh.len p3.args))) = true then
       some (decide ((Sh.len p3.args) ≤ q33.2))
      else
       some false
     ) fun t35 =>
     some t35
def impl_ValidImage_L2 (N : Nat) (c20 : RProc) (q3 : RSignatures × Bool) : Nat → Int → Option ((Bool) ⊕ (Unit))
 | 0, _ => none
 | n + 1, t36 =>
  if (decide (t36 < (Sh.len c20.code))) = true then
   Option.bind (Sh.get c20.code t36) fun c43 =>
   Option.bind (impl_signatures_instrValid N q3.1 c20 t36 c43) fun q45 =>
   if (!q45) = true then
    some (Sum.inl false)
   else
    impl_ValidImage_L2 N c20 q3 n (Sh.w (t36 + 1))
  else
   some (Sum.inr ())
def impl_ValidImage_L1 (N : Nat) (p0 : RImage) (q3 : RSignatures × Bool) : Nat → Int → Option ((Bool) ⊕ (Unit))
 | 0, _ => none
 | n + 1, t12 =>
  if (decide (t12 < (Sh.len p0.procs))) = true then
   Option.bind (Sh.get p0.procs t12) fun c20 =>
   Option.bind (
    if (decide (c20.regs < (if (Sh.len c20.params) > 1 then (Sh.len c20.params) else 1))) = true then
     some true
    else
    if (decide (2000 < c20.regs)) = true then
     some true
    else
    if (decide ((Sh.len c20.code) < 1)) = true then
     some true
    else
     some (decide (2000 < (Sh.len c20.code)))
   ) fun t23 =>
   if t23 = true then
    some (Sum.inl false)
   else
    Option.bind (Sh.get c20.code (Sh.w ((Sh.len c20.code) - 1))) fun c29 =>
    Option.bind (
     if (!decide (c29.op = 23)) = true then
      some (!decide (c29.op = 24))
     else
      some false
    ) fun t31 =>
    if t31 = true then
     some (Sum.inl false)
    else
     Sh.cont (impl_ValidImage_L2 N c20 q3 N 0) (fun x => Sum.inl x) fun () =>
     impl_ValidImage_L1 N p0 q3 n (Sh.w (t12 + 1))
  else
   some (Sum.inr ())
def impl_ValidImage (N : Nat) (p0 : RImage) : Option (Bool) :=
 Option.bind (impl_imageSigs N p0) fun q3 =>
 if (!q3.2) = true then
  some false
 else
  Sh.cont (impl_ValidImage_L1 N p0 q3 N 0) (id) fun () =>
  some true
def laws_eqCon (N : Nat) (p0 : RCon) (p1 : RCon) : Option (Bool) :=
 Option.bind (laws_eqIntS N p0.fields p1.fields) fun q4 =>
 if (!q4) = true then
  some false
 else
  some true
def laws_eqConS_L1 (N : Nat) (p0 : (List RCon)) (p1 : (List RCon)) : Nat → Int → Option ((Bool) ⊕ (Unit))
 | 0, _ => none
 | n + 1, i10 =>
  if (decide (i10 < (Sh.len p0))) = true then
   Option.bind (Sh.get p0 i10) fun c18 =>
   Option.bind (Sh.get p1 i10) fun c19 =>
   Option.bind (laws_eqCon N c18 c19) fun q20 =>
   if (!q20) = true then
    some (Sum.inl false)
   else
    laws_eqConS_L1 N p0 p1 n (Sh.w (i10 + 1))
  else
   some (Sum.inr ())
def laws_eqConS (N : Nat) (p0 : (List RCon)) (p1 : (List RCon)) : Option (Bool) :=
 if (!decide ((Sh.len p0) = (Sh.len p1))) = true then
  some false
 else
  Sh.cont (laws_eqConS_L1 N p0 p1 N 0) (id) fun () =>
  some true
def laws_eqDecl (N : Nat) (p0 : RDecl) (p1 : RDecl) : Option (Bool) :=
 if (!decide (p0.from_ = p1.from_)) = true then
  some false
 else
 if (!decide (p0.to = p1.to)) = true then
  some false
 else
  Option.bind (laws_eqConS N p0.cons p1.cons) fun q16 =>
  if (!q16) = true then
   some false
  else
   some true
def laws_eqDeclS_L1 (N : Nat) (p0 : (List RDecl)) (p1 : (List RDecl)) : Nat → Int → Option ((Bool) ⊕ (Unit))
 | 0, _ => none
 | n + 1, i10 =>
  if (decide (i10 < (Sh.len p0))) = true then
   Option.bind (Sh.get p0 i10) fun c18 =>
   Option.bind (Sh.get p1 i10) fun c19 =>
   Option.bind (laws_eqDecl N c18 c19) fun q20 =>
   if (!q20) = true then
    some (Sum.inl false)
   else
    laws_eqDeclS_L1 N p0 p1 n (Sh.w (i10 + 1))
  else
   some (Sum.inr ())
def laws_eqDeclS (N : Nat) (p0 : (List RDecl)) (p1 : (List RDecl)) : Option (Bool) :=
 if (!decide ((Sh.len p0) = (Sh.len p1))) = true then
  some false
 else
  Sh.cont (laws_eqDeclS_L1 N p0 p1 N 0) (id) fun () =>
  some true
def laws_eqInstr (N : Nat) (p0 : RInstr) (p1 : RInstr) : Option (Bool) :=
 if (!decide (p0.op = p1.op)) = true then
  some false
 else
 if (!decide (p0.dst = p1.dst)) = true then
  some false
 else
 if (!decide (p0.num = p1.num)) = true then
  some false
 else
 if (!decide (p0.into = p1.into)) = true then
  some false
 else
  Option.bind (laws_eqIntS N p0.args p1.args) fun q28 =>
  if (!q28) = true then
   some false
  else
   Option.bind (laws_eqIntS N p0.jumps p1.jumps) fun q35 =>
   if (!q35) = true then
    some false
   else
    some true
def laws_eqInstrS_L1 (N : Nat) (p0 : (List RInstr)) (p1 : (List RInstr)) : Nat → Int → Option ((Bool) ⊕ (Unit))
 | 0, _ => none
 | n + 1, i10 =>
  if (decide (i10 < (Sh.len p0))) = true then
   Option.bind (Sh.get p0 i10) fun c18 =>
   Option.bind (Sh.get p1 i10) fun c19 =>
   Option.bind (laws_eqInstr N c18 c19) fun q20 =>
   if (!q20) = true then
    some (Sum.inl false)
   else
    laws_eqInstrS_L1 N p0 p1 n (Sh.w (i10 + 1))
  else
   some (Sum.inr ())
def laws_eqInstrS (N : Nat) (p0 : (List RInstr)) (p1 : (List RInstr)) : Option (Bool) :=
 if (!decide ((Sh.len p0) = (Sh.len p1))) = true then
  some false
 else
  Sh.cont (laws_eqInstrS_L1 N p0 p1 N 0) (id) fun () =>
  some true
def laws_eqProc (N : Nat) (p0 : RProc) (p1 : RProc) : Option (Bool) :=
 Option.bind (laws_eqIntS N p0.params p1.params) fun q4 =>
 if (!q4) = true then
  some false
 else
  Option.bind (laws_eqIntS N p0.lent p1.lent) fun q11 =>
  if (!q11) = true then
   some false
  else
  if (!decide (p0.result = p1.result)) = true then
   some false
  else
  if (!decide (p0.regs = p1.regs)) = true then
   some false
  else
   Option.bind (laws_eqInstrS N p0.code p1.code) fun q30 =>
   if (!q30) = true then
    some false
   else
    some true
def laws_eqProcS_L1 (N : Nat) (p0 : (List RProc)) (p1 : (List RProc)) : Nat → Int → Option ((Bool) ⊕ (Unit))
 | 0, _ => none
 | n + 1, i10 =>
  if (decide (i10 < (Sh.len p0))) = true then
   Option.bind (Sh.get p0 i10) fun c18 =>
   Option.bind (Sh.get p1 i10) fun c19 =>
   Option.bind (laws_eqProc N c18 c19) fun q20 =>
   if (!q20) = true then
    some (Sum.inl false)
   else
    laws_eqProcS_L1 N p0 p1 n (Sh.w (i10 + 1))
  else
   some (Sum.inr ())
def laws_eqProcS (N : Nat) (p0 : (List RProc)) (p1 : (List RProc)) : Option (Bool) :=
 if (!decide ((Sh.len p0) = (Sh.len p1))) = true then
  some false
 else
  Sh.cont (laws_eqProcS_L1 N p0 p1 N 0) (id) fun () =>
  some true
def laws_eqImage (N : Nat) (p0 : RImage) (p1 : RImage) : Option (Bool) :=
 Option.bind (laws_eqDeclS N p0.decls p1.decls) fun q4 =>
 if (!q4) = true then
  some false
 else
  Option.bind (laws_eqProcS N p0.procs p1.procs) fun q11 =>
  if (!q11) = true then
   some false
  else
   some true
end RC


namespace RC
end RC


namespace RC
def spec_copyInts (p0 : (List Int)) : Option ((List Int)) :=
 Option.bind (Sh.app ([] : List Int) p0 8) fun l3 =>
 some l3
def impl_indicesOf_L1 (p0 : (List Bool)) : Nat → Int → (List Int) → Option ((List Int))
 | 0, _, _ => none
 | n + 1, t5, l6 =>
  if (decide (t5 < (Sh.len p0))) = true then
   Option.bind (
    Option.bind (Sh.get p0 t5) fun c17 =>
    if c17 = true then
     Option.bind (Sh.app l6 [t5] 8) fun l20 =>
     some l20
    else
     some l6
   ) fun l14 =>
   impl_indicesOf_L1 p0 n (Sh.w (t5 + 1)) l14
  else
   some l6
def impl_indicesOf (N : Nat) (p0 : (List Bool)) : Option ((List Int)) :=
 Option.bind (impl_indicesOf_L1 p0 N 0 []) fun l7 =>
 some l7
end RC


namespace RC
def laws_markIntS_L1  : Nat → Int → Int → (List Int) → Option (Int × (List Int))
 | 0, _, _, _ => none
 | n + 1, k4, i5, l6 =>
  if (decide (i5 < (Sh.len l6))) = true then
   Option.bind (Sh.get l6 i5) fun c16 =>
   laws_markIntS_L1  n (Sh.w (k4 + 1)) (Sh.w (i5 + 1)) (Sh.put l6 i5 k4)
  else
   some (k4, l6)
def laws_markIntS (N : Nat) (s0 : (List Int)) (p1 : Int) : Option (Int × (List Int)) :=
 Option.bind (laws_markIntS_L1  N p1 0 s0) fun (k7, l8) =>
 some (k7, l8)
def laws_heldIntS_L1 (p0 : (List Int)) : Nat → Int → Int → Option ((Int) ⊕ (Int))
 | 0, _, _ => none
 | n + 1, k4, i5 =>
  if (decide (i5 < (Sh.len p0))) = true then
   Option.bind (Sh.get p0 i5) fun c15 =>
   if (!decide (c15 = k4)) = true then
    some (Sum.inl (-1))
   else
    laws_heldIntS_L1 p0 n (Sh.w (k4 + 1)) (Sh.w (i5 + 1))
  else
   some (Sum.inr k4)
def laws_heldIntS (N : Nat) (p0 : (List Int)) (p1 : Int) : Option (Int) :=
 Sh.cont (laws_heldIntS_L1 p0 N p1 0) (id) fun k6 =>
 some k6
end RC


namespace RC
def spec_insert_L1 (p0 : (List Int)) (p1 : Int) : Nat → Bool → Int → (List Int) → Option (Bool × (List Int))
 | 0, _, _, _ => none
 | n + 1, done6, i7, l8 =>
  if (decide (i7 < (Sh.len p0))) = true then
   Option.bind (
    Option.bind (
     if (!done6) = true then
      Option.bind (Sh.get p0 i7) fun c43 =>
      some (decide (p1 ≤ c43))
     else
      some false
    ) fun t32 =>
    if t32 = true then
     Option.bind (
      Option.bind (Sh.get p0 i7) fun c39 =>
      if (decide (p1 < c39)) = true then
       Option.bind (Sh.app l8 [p1] 8) fun l41 =>
       some l41
      else
       some l8
     ) fun l36 =>
     some (true, l36)
    else
     some (done6, l8)
   ) fun (done26, l27) =>
   Option.bind (Sh.get p0 i7) fun c29 =>
   Option.bind (Sh.app l27 [c29] 8) fun l30 =>
   spec_insert_L1 p0 p1 n done26 (Sh.w (i7 + 1)) l30
  else
   some (done6, l8)
def spec_insert (N : Nat) (p0 : (List Int)) (p1 : Int) : Option ((List Int)) :=
 Option.bind (spec_insert_L1 p0 p1 N false 0 []) fun (done9, l10) =>
 Option.bind (
  if (!done9) = true then
   Option.bind (Sh.app l10 [p1] 8) fun l19 =>
   some l19
  else
   some l10
 ) fun l13 =>
 some l13
def spec_nextOf_L1 (N : Nat) (c3 : RInstr) : Nat → Int → (List Int) → Option ((List Int))
 | 0, _, _ => none
 | n + 1, k23, l24 =>
  if (decide (k23 < (Sh.len c3.jumps))) = true then
   Option.bind (Sh.get c3.jumps k23) fun c32 =>
   Option.bind (spec_insert N l24 c32) fun q33 =>
   spec_nextOf_L1 N c3 n (Sh.w (k23 + 1)) q33
  else
   some l24
def spec_nextOf (N : Nat) (p0 : (List RInstr)) (p1 : Int) : Option ((List Int)) :=
 Option.bind (Sh.get p0 p1) fun c3 =>
 Option.bind (
  if (decide (c3.op = 23)) = true then
   some true
  else
   some (decide (c3.op = 24))
 ) fun t7 =>
 if t7 = true then
  some []
 else
 if (decide (c3.op = 22)) = true then
  some [c3.num]
 else
 if (decide (c3.op = 20)) = true then
  Option.bind (spec_insert N [Sh.w (p1 + 1)] c3.num) fun q17 =>
  some q17
 else
 if (decide (c3.op = 21)) = true then
  Option.bind (spec_nextOf_L1 N c3 N 0 []) fun l25 =>
  some l25
 else
  some [Sh.w (p1 + 1)]
def impl_Instr_nexts (p0 : RInstr) (p1 : Int) : Option ((List Int)) :=
 if (decide (p0.op = 22)) = true then
  some [p0.num]
 else
 if (decide (p0.op = 20)) = true then
  some [Sh.w (p1 + 1), p0.num]
 else
 if (decide (p0.op = 21)) = true then
  some p0.jumps
 else
  Option.bind (
   if (decide (p0.op = 23)) = true then
    some true
   else
    some (decide (p0.op = 24))
  ) fun t14 =>
  if t14 = true then
   some []
  else
   some [Sh.w (p1 + 1)]
def laws_markConS_L1 (N : Nat) : Nat → Int → Int → (List RCon) → Option (Int × (List RCon))
 | 0, _, _, _ => none
 | n + 1, k4, i5, l6 =>
  if (decide (i5 < (Sh.len l6))) = true then
   Option.bind (Sh.get l6 i5) fun c15 =>
   Option.bind (laws_markIntS N c15.fields k4) fun q16 =>
   laws_markConS_L1 N n q16.1 (Sh.w (i5 + 1)) (Sh.put l6 i5 (RCon.mk q16.2))
  else
   some (k4, l6)
def laws_markConS (N : Nat) (s0 : (List RCon)) (p1 : Int) : Option (Int × (List RCon)) :=
 Option.bind (laws_markConS_L1 N N p1 0 s0) fun (k7, l8) =>
 some (k7, l8)
def laws_markDeclS_L1 (N : Nat) : Nat → Int → Int → (List RDecl) → Option (Int × (List RDecl))
 | 0, _, _, _ => none
 | n + 1, k4, i5, l6 =>
  if (decide (i5 < (Sh.len l6))) = true then
   Option.bind (Sh.get l6 i5) fun c16 =>
   Option.bind (Sh.get (Sh.put l6 i5 (RDecl.mk k4 c16.to c16.cons)) i5) fun c19 =>
   Option.bind (Sh.get (Sh.put (Sh.put l6 i5 (RDecl.mk k4 c16.to c16.cons)) i5 (RDecl.mk c19.from_ (Sh.w (k4 + 1)) c19.cons)) i5) fun c21 =>
   Option.bind (laws_markConS N c21.cons (Sh.w ((Sh.w (k4 + 1)) + 1))) fun q22 =>
   laws_markDeclS_L1 N n q22.1 (Sh.w (i5 + 1)) (Sh.put (Sh.put (Sh.put l6 i5 (RDecl.mk k4 c16.to c16.cons)) i5 (RDecl.mk c19.from_ (Sh.w (k4 + 1)) c19.cons)) i5 (RDecl.mk c21.from_ c21.to q22.2))
  else
   some (k4, l6)
def laws_markDeclS (N : Nat) (s0 : (List RDecl)) (p1 : Int) : Option (Int × (List RDecl)) :=
 Option.bind (laws_markDeclS_L1 N N p1 0 s0) fun (k7, l8) =>
 some (k7, l8)
def laws_markInstrS_L1 (N : Nat) : Nat → Int → Int → (List RInstr) → Option (Int × (List RInstr))
 | 0, _, _, _ => none
 | n + 1, k4, i5, l6 =>
  if (decide (i5 < (Sh.len l6))) = true then
   Option.bind (Sh.get l6 i5) fun c16 =>
   Option.bind (Sh.get (Sh.put l6 i5 (RInstr.mk k4 c16.dst c16.num c16.into c16.args c16.jumps)) i5) fun c19 =>
   Option.bind (Sh.get (Sh.put (Sh.put l6 i5 (RInstr.mk k4 c16.dst c16.num c16.into c16.args c16.jumps)) i5 (RInstr.mk c19.op (Sh.w (k4 + 1)) c19.num c19.into c19.args c19.jumps)) i5) fun c22 =>
   Option.bind (Sh.get (Sh.put (Sh.put (Sh.put l6 i5 (RInstr.mk k4 c16.dst c16.num c16.into c16.args c16.jumps)) i5 (RInstr.mk c19.op (Sh.w (k4 + 1)) c19.num c19.into c19.args c19.jumps)) i5 (RInstr.mk c22.op c22.dst (Sh.w ((Sh.w (k4 + 1)) + 1)) c22.into c22.args c22.jumps)) i5) fun c25 =>
   Option.bind (Sh.get (Sh.put (Sh.put (Sh.put (Sh.put l6 i5 (RInstr.mk k4 c16.dst c16.num c16.into c16.args c16.jumps)) i5 (RInstr.mk c19.op (Sh.w (k4 + 1)) c19.num c19.into c19.args c19.jumps)) i5 (RInstr.mk c22.op c22.dst (Sh.w ((Sh.w (k4 + 1)) + 1)) c22.into c22.args c22.jumps)) i5 (RInstr.mk c25.op c25.dst c25.num (Sh.w ((Sh.w ((Sh.w (k4 + 1)) + 1)) + 1)) c25.args c25.jumps)) i5) fun c28 =>
   Option.bind (laws_markIntS N c28.args (Sh.w ((Sh.w ((Sh.w ((Sh.w (k4 + 1)) + 1)) + 1)) + 1))) fun q29 =>
   Option.bind (Sh.get (Sh.put (Sh.put (Sh.put (Sh.put (Sh.put l6 i5 (RInstr.mk k4 c16.dst c16.num c16.into c16.args c16.jumps)) i5 (RInstr.mk c19.op (Sh.w (k4 + 1)) c19.num c19.into c19.args c19.jumps)) i5 (RInstr.mk c22.op c22.dst (Sh.w ((Sh.w (k4 + 1)) + 1)) c22.into c22.args c22.jumps)) i5 (RInstr.mk c25.op c25.dst c25.num (Sh.w ((Sh.w ((Sh.w (k4 + 1)) + 1)) + 1)) c25.args c25.jumps)) i5 (RInstr.mk c28.op c28.dst c28.num c28.into q29.2 c28.jumps)) i5) fun c31 =>
   Option.bind (laws_markIntS N c31.jumps q29.1) fun q32 =>
   laws_markInstrS_L1 N n q32.1 (Sh.w (i5 + 1)) (Sh.put (Sh.put (Sh.put (Sh.put (Sh.put (Sh.put l6 i5 (RInstr.mk k4 c16.dst c16.num c16.into c16.args c16.jumps)) i5 (RInstr.mk c19.op (Sh.w (k4 + 1)) c19.num c19.into c19.args c19.jumps)) i5 (RInstr.mk c22.op c22.dst (Sh.w ((Sh.w (k4 + 1)) + 1)) c22.into c22.args c22.jumps)) i5 (RInstr.mk c25.op c25.dst c25.num (Sh.w ((Sh.w ((Sh.w (k4 + 1)) + 1)) + 1)) c25.args c25.jumps)) i5 (RInstr.mk c28.op c28.dst c28.num c28.into q29.2 c28.jumps)) i5 (RInstr.mk c31.op c31.dst c31.num c31.into c31.args q32.2))
  else
   some (k4, l6)
def laws_markInstrS (N : Nat) (s0 : (List RInstr)) (p1 : Int) : Option (Int × (List RInstr)) :=
 Option.bind (laws_markInstrS_L1 N N p1 0 s0) fun (k7, l8) =>
 some (k7, l8)
def laws_markProcS_L1 (N : Nat) : Nat → Int → Int → (List RProc) → Option (Int × (List RProc))
 | 0, _, _, _ => none
 | n + 1, k4, i5, l6 =>
  if (decide (i5 < (Sh.len l6))) = true then
   Option.bind (Sh.get l6 i5) fun c16 =>
   Option.bind (laws_markIntS N c16.params k4) fun q17 =>
   Option.bind (Sh.get (Sh.put l6 i5 (RProc.mk q17.2 c16.lent c16.result c16.regs c16.code)) i5) fun c20 =>
   Option.bind (laws_markIntS N c20.lent q17.1) fun q21 =>
   Option.bind (Sh.get (Sh.put (Sh.put l6 i5 (RProc.mk q17.2 c16.lent c16.result c16.regs c16.code)) i5 (RProc.mk c20.params q21.2 c20.result c20.regs c20.code)) i5) fun c24 =>
   Option.bind (Sh.get (Sh.put (Sh.put (Sh.put l6 i5 (RProc.mk q17.2 c16.lent c16.result c16.regs c16.code)) i5 (RProc.mk c20.params q21.2 c20.result c20.regs c20.code)) i5 (RProc.mk c24.params c24.lent q21.1 c24.regs c24.code)) i5) fun c27 =>
   Option.bind (Sh.get (Sh.put (Sh.put (Sh.put (Sh.put l6 i5 (RProc.mk q17.2 c16.lent c16.result c16.regs c16.code)) i5 (RProc.mk c20.params q21.2 c20.result c20.regs c20.code)) i5 (RProc.mk c24.params c24.lent q21.1 c24.regs c24.code)) i5 (RProc.mk c27.params c27.lent c27.result (Sh.w (q21.1 + 1)) c27.code)) i5) fun c29 =>
   Option.bind (laws_markInstrS N c29.code (Sh.w ((Sh.w (q21.1 + 1)) + 1))) fun q30 =>
   laws_markProcS_L1 N n q30.1 (Sh.w (i5 + 1)) (Sh.put (Sh.put (Sh.put (Sh.put (Sh.put l6 i5 (RProc.mk q17.2 c16.lent c16.result c16.regs c16.code)) i5 (RProc.mk c20.params q21.2 c20.result c20.regs c20.code)) i5 (RProc.mk c24.params c24.lent q21.1 c24.regs c24.code)) i5 (RProc.mk c27.params c27.lent c27.result (Sh.w (q21.1 + 1)) c27.code)) i5 (RProc.mk c29.params c29.lent c29.result c29.regs q30.2))
  else
   some (k4, l6)
def laws_markProcS (N : Nat) (s0 : (List RProc)) (p1 : Int) : Option (Int × (List RProc)) :=
 Option.bind (laws_markProcS_L1 N N p1 0 s0) fun (k7, l8) =>
 some (k7, l8)
def laws_markImage (N : Nat) (s0 : (List RDecl)) (s1 : (List RProc)) (p1 : Int) : Option (Int × (List RDecl) × (List RProc)) :=
 Option.bind (laws_markDeclS N s0 p1) fun q3 =>
 Option.bind (laws_markProcS N s1 q3.1) fun q6 =>
 some (q6.1, q3.2, q6.2)
end RC


namespace RC
def spec_union_L1 (N : Nat) (p1 : (List Int)) : Nat → Int → (List Int) → Option ((List Int))
 | 0, _, _ => none
 | n + 1, i6, l7 =>
  if (decide (i6 < (Sh.len p1))) = true then
   Option.bind (Sh.get p1 i6) fun c15 =>
   Option.bind (spec_insert N l7 c15) fun q16 =>
   spec_union_L1 N p1 n (Sh.w (i6 + 1)) q16
  else
   some l7
def spec_union (N : Nat) (p0 : (List Int)) (p1 : (List Int)) : Option ((List Int)) :=
 Option.bind (spec_copyInts p0) fun q3 =>
 Option.bind (spec_union_L1 N p1 N 0 q3) fun l8 =>
 some l8
def spec_without_L1 (p0 : (List Int)) (p1 : Int) : Nat → Int → (List Int) → Option ((List Int))
 | 0, _, _ => none
 | n + 1, i5, l6 =>
  if (decide (i5 < (Sh.len p0))) = true then
   Option.bind (
    Option.bind (Sh.get p0 i5) fun c17 =>
    if (!decide (c17 = p1)) = true then
     Option.bind (Sh.app l6 [c17] 8) fun l20 =>
     some l20
    else
     some l6
   ) fun l14 =>
   spec_without_L1 p0 p1 n (Sh.w (i5 + 1)) l14
  else
   some l6
def spec_without (N : Nat) (p0 : (List Int)) (p1 : Int) : Option ((List Int)) :=
 Option.bind (spec_without_L1 p0 p1 N 0 []) fun l7 =>
 some l7
def spec_usedBy_L1 (N : Nat) (p0 : RInstr) : Nat → Int → (List Int) → Option ((List Int))
 | 0, _, _ => none
 | n + 1, k13, l14 =>
  if (decide (k13 < (Sh.len p0.args))) = true then
   Option.bind (Sh.get p0.args k13) fun c21 =>
   Option.bind (spec_insert N l14 c21) fun q22 =>
   spec_usedBy_L1 N p0 n (Sh.w (k13 + 1)) q22
  else
   some l14
def spec_usedBy (N : Nat) (p0 : RInstr) : Option ((List Int)) :=
 Option.bind (
  Option.bind (
   if (!decide (p0.op = 14)) = true then
    some (!decide (p0.op = 15))
   else
    some false
  ) fun t8 =>
  if t8 = true then
   Option.bind (spec_usedBy_L1 N p0 N 0 []) fun l15 =>
   some l15
  else
   some []
 ) fun l4 =>
 some l4
def spec_liveFrom_L2 (N : Nat) (l7 : (List (List Int))) (q17 : (List Int)) : Nat → Int → (List Int) → Option ((List Int))
 | 0, _, _ => none
 | n + 1, k20, l21 =>
  if (decide (k20 < (Sh.len q17))) = true then
   Option.bind (Sh.get q17 k20) fun c40 =>
   Option.bind (Sh.get l7 c40) fun c41 =>
   Option.bind (spec_union N l21 c41) fun q42 =>
   spec_liveFrom_L2 N l7 q17 n (Sh.w (k20 + 1)) q42
  else
   some l21
def spec_liveFrom_L1 (N : Nat) (p0 : (List RInstr)) (p1 : Int) : Nat → Int → (List (List Int)) → Option ((List (List Int)))
 | 0, _, _ => none
 | n + 1, at6, l7 =>
  if (decide (p1 ≤ at6)) = true then
   Option.bind (spec_nextOf N p0 at6) fun q17 =>
   Option.bind (spec_liveFrom_L2 N l7 q17 N 0 []) fun l22 =>
   Option.bind (
    Option.bind (Sh.get p0 at6) fun c32 =>
    Option.bind (spec_sets c32.op) fun q33 =>
    if q33 = true then
     Option.bind (spec_without N l22 c32.dst) fun q35 =>
     some q35
    else
     some l22
   ) fun l25 =>
   Option.bind (Sh.get p0 at6) fun c27 =>
   Option.bind (spec_usedBy N c27) fun q28 =>
   Option.bind (spec_union N l25 q28) fun q29 =>
   Option.bind (Sh.get l7 at6) fun c30 =>
   spec_liveFrom_L1 N p0 p1 n (Sh.w (at6 - 1)) (Sh.put l7 at6 q29)
  else
   some l7
def spec_liveFrom (N : Nat) (p0 : (List RInstr)) (p1 : Int) : Option ((List (List Int))) :=
 Option.bind (Sh.mk [] (Sh.len p0) 24) fun l3 =>
 Option.bind (spec_liveFrom_L1 N p0 p1 N (Sh.w ((Sh.len p0) - 1)) l3) fun l8 =>
 some l8
def spec_LiveRegs (N : Nat) (p0 : RImage) (p1 : Int) (p2 : Int) : Option ((List Int)) :=
 Option.bind (
  Option.bind (spec_validImage N p0) fun q13 =>
  if (!q13) = true then
   some true
  else
   Option.bind (spec_inRange p1 0 (Sh.w ((Sh.len p0.procs) - 1))) fun q15 =>
   if (!q15) = true then
    some true
   else
    Option.bind (Sh.get p0.procs p1) fun c17 =>
    Option.bind (spec_inRange p2 0 (Sh.w ((Sh.len c17.code) - 1))) fun q18 =>
    some (!q18)
 ) fun t4 =>
 if t4 = true then
  some []
 else
  Option.bind (Sh.get p0.procs p1) fun c9 =>
  Option.bind (spec_liveFrom N c9.code p2) fun q10 =>
  Option.bind (Sh.get q10 p2) fun c11 =>
  Option.bind (spec_copyInts c11) fun q12 =>
  some q12
def impl_liveRegs_L3 (c23 : RInstr) : Nat → Int → (List Bool) → Option ((List Bool))
 | 0, _, _ => none
 | n + 1, t43, l44 =>
  if (decide (t43 < (Sh.len c23.args))) = true then
   Option.bind (Sh.get c23.args t43) fun c52 =>
   Option.bind (Sh.get l44 c52) fun c53 =>
   impl_liveRegs_L3 c23 n (Sh.w (t43 + 1)) (Sh.put l44 c52 true)
  else
   some l44
def impl_liveRegs_L4 (c66 : (List Bool)) : Nat → Int → (List Bool) → Option ((List Bool))
 | 0, _, _ => none
 | n + 1, t68, l69 =>
  if (decide (t68 < (Sh.len c66))) = true then
   Option.bind (
    Option.bind (Sh.get c66 t68) fun c79 =>
    Option.bind (Sh.get l69 t68) fun c80 =>
    if c80 = true then
     some (Sh.put l69 t68 true)
    else
     some (Sh.put l69 t68 c79)
   ) fun l76 =>
   impl_liveRegs_L4 c66 n (Sh.w (t68 + 1)) l76
  else
   some l69
def impl_liveRegs_L2 (N : Nat) (k8 : Int) (l9 : (List (List Bool))) (q29 : (List Int)) : Nat → Int → (List Bool) → Option ((List Bool))
 | 0, _, _ => none
 | n + 1, t30, l31 =>
  if (decide (t30 < (Sh.len q29))) = true then
   Option.bind (Sh.get q29 t30) fun c64 =>
   Option.bind (Sh.get l9 c64) fun c66 =>
   Option.bind (Sh.apart k8 c64) fun u67 =>
   Option.bind (impl_liveRegs_L4 c66 N 0 l31) fun l70 =>
   impl_liveRegs_L2 N k8 l9 q29 n (Sh.w (t30 + 1)) l70
  else
   some l31
def impl_liveRegs_L1 (N : Nat) (c3 : RProc) (p2 : Int) : Nat → Int → (List (List Bool)) → Option ((List (List Bool)))
 | 0, _, _ => none
 | n + 1, k8, l9 =>
  if (decide (p2 ≤ k8)) = true then
   Option.bind (
    Option.bind (Sh.get c3.code k8) fun c23 =>
    Option.bind (Sh.mk false c3.regs 1) fun l25 =>
    Option.bind (Sh.get l9 k8) fun c26 =>
    Option.bind (impl_Instr_nexts c23 k8) fun q29 =>
    Option.bind (impl_liveRegs_L2 N k8 l9 q29 N 0 l25) fun l32 =>
    Option.bind (
     Option.bind (impl_setsRegister c23.op) fun q56 =>
     if q56 = true then
      Option.bind (Sh.get l32 c23.dst) fun c58 =>
      some (Sh.put l32 c23.dst false)
     else
      some l32
    ) fun l35 =>
    Option.bind (
     if (!decide (c23.op = 14)) = true then
      some (!decide (c23.op = 15))
     else
      some false
    ) fun t38 =>
    if t38 = true then
     Option.bind (impl_liveRegs_L3 c23 N 0 l35) fun l45 =>
     some l45
    else
     some l35
   ) fun l19 =>
   Option.bind (Sh.get l9 k8) fun c21 =>
   impl_liveRegs_L1 N c3 p2 n (Sh.w (k8 - 1)) (Sh.put l9 k8 l19)
  else
   some l9
def impl_liveRegs (N : Nat) (p0 : RImage) (p1 : Int) (p2 : Int) : Option ((List Int)) :=
 Option.bind (Sh.get p0.procs p1) fun c3 =>
 Option.bind (Sh.mk [] (Sh.len c3.code) 24) fun l5 =>
 Option.bind (impl_liveRegs_L1 N c3 p2 N (Sh.w ((Sh.len c3.code) - 1)) l5) fun l10 =>
 Option.bind (Sh.get l10 p2) fun c13 =>
 Option.bind (impl_indicesOf N c13) fun q14 =>
 some q14
def impl_LiveRegs (N : Nat) (p0 : RImage) (p1 : Int) (p2 : Int) : Option ((List Int)) :=
 Option.bind (
  Option.bind (impl_ValidImage N p0) fun q10 =>
  if (!q10) = true then
   some true
  else
  if (decide (p1 < 0)) = true then
   some true
  else
  if (decide ((Sh.len p0.procs) ≤ p1)) = true then
   some true
  else
  if (decide (p2 < 0)) = true then
   some true
  else
   Option.bind (Sh.get p0.procs p1) fun c15 =>
   some (decide ((Sh.len c15.code) ≤ p2))
 ) fun t4 =>
 if t4 = true then
  some []
 else
  Option.bind (impl_liveRegs N p0 p1 p2) fun q9 =>
  some q9
def laws_FnExactLiveRegs (N : Nat) (p0 : RImage) (p1 : Int) (p2 : Int) : Option (Bool) :=
 Option.bind (laws_szImage N p0 1048576) fun q4 =>
 if (decide (q4 < 0)) = true then
  some true
 else
  Option.bind (laws_toImage N p0) fun q10 =>
  Option.bind (spec_LiveRegs N q10 p1 p2) fun q11 =>
  Option.bind (laws_toImage N p0) fun q13 =>
  Option.bind (impl_LiveRegs N q13 p1 p2) fun q15 =>
  Option.bind (laws_eqIntS N q15 q11) fun q18 =>
  if (!q18) = true then
   some false
  else
   Option.bind (laws_toImage N p0) fun q25 =>
   Option.bind (laws_eqImage N q13 q25) fun q26 =>
   if (!q26) = true then
    some false
   else
    Option.bind (laws_markImage N q13.decls q13.procs 1) fun q33 =>
    Option.bind (
     if (decide (q33.1 < 0)) = true then
      some true
     else
      Option.bind (laws_eqIntS N q15 q11) fun q84 =>
      some (!q84)
    ) fun t38 =>
    if t38 = true then
     some false
    else
     Option.bind (laws_markIntS N q15 1) fun q44 =>
     Option.bind (laws_heldIntS N q44.2 1) fun q48 =>
     if (decide (q48 < 0)) = true then
      some false
     else
     if (!decide (q48 = q44.1)) = true then
      some false
     else
      Option.bind (laws_toImage N p0) fun q60 =>
      Option.bind (impl_LiveRegs N q60 p1 p2) fun q61 =>
      Option.bind (laws_eqIntS N q61 q11) fun q64 =>
      if (!q64) = true then
       some false
      else
       Option.bind (laws_heldIntS N q44.2 1) fun q71 =>
       if (decide (q71 < 0)) = true then
        some false
       else
       if (!decide (q71 = q44.1)) = true then
        some false
       else
        some true
end RC

