import Derived.Test.YteoiihebkhmgoaaGEncToEncB
import Derived.Test.YteoiihebkhmgoaaAbsW
import Derived.Lib.AppendZerosOnto
import Derived.OrdersHeld
import Derived.Lib.SlicesCompact

namespace RC
open Go Go.Abs
structure RCon where
 fields : List Int
structure RDecl where
 from_ : Int
 to : Int
 cons : List RCon
structure RInstr where
 op : Int
 dst : Int
 num : Int
 into : Int
 args : List Int
 jumps : List Int
structure RProc where
 params : List Int
 lent : List Int
 result : Int
 regs : Int
 code : List RInstr
structure RImage where
 decls : List RDecl
 procs : List RProc
structure RSignature where
 params : List Int
 lent : List Int
 result : Int
structure RSignatures where
 decls : List RDecl
 funcs : List RSignature
inductive RExpr where
 | mk (op num : Int) (kids : List RExpr)
def RExpr.op : RExpr → Int | .mk o _ _ => o
def RExpr.num : RExpr → Int | .mk _ n _ => n
def RExpr.kids : RExpr → List RExpr | .mk _ _ k => k
structure RFunc where
 params : List Int
 result : Int
 body : RExpr
structure RProgram where
 decls : List RDecl
 funcs : List RFunc
def eRCon (c : RCon) : List AV := [.sl (c.fields.map eI)]
def eRDecl (d : RDecl) : List AV := [.int .i64 d.from_, .int .i64 d.to, .sl (d.cons.map eRCon)]
def eRInstr (i : RInstr) : List AV := [.int .i64 i.op, .int .i64 i.dst, .int .i64 i.num, .int .i64 i.into, .sl (i.args.map eI), .sl (i.jumps.map eI)]
def eRProc (p : RProc) : List AV := [.sl (p.params.map eI), .sl (p.lent.map eI), .int .i64 p.result, .int .i64 p.regs, .sl (p.code.map eRInstr)]
def eRImage (x : RImage) : List AV := [.sl (x.decls.map eRDecl), .sl (x.procs.map eRProc)]
def eRSignature (p : RSignature) : List AV := [.sl (p.params.map eI), .sl (p.lent.map eI), .int .i64 p.result]
def eRSignatures (x : RSignatures) : List AV := [.sl (x.decls.map eRDecl), .sl (x.funcs.map eRSignature)]
noncomputable def eRExpr (s : RExpr) : List AV :=
 RExpr.rec (motive_1 := fun _ => List AV) (motive_2 := fun _ => List (List AV)) (fun o n _ ks => [.int .i64 o, .int .i64 n, .sl ks]) [] (fun _ _ b bs => b :: bs) s
noncomputable def eRFunc (f : RFunc) : List AV := [.sl (f.params.map eI), .int .i64 f.result, .int .i64 f.body.op, .int .i64 f.body.num, .sl (f.body.kids.map eRExpr)]
structure RConIn (c : RCon) : Prop where
 fields : ListIn I64 c.fields
structure RDeclIn (d : RDecl) : Prop where
 from_ : I64 d.from_
 to : I64 d.to
 cons : ListIn RConIn d.cons
structure RInstrIn (i : RInstr) : Prop where
 op : I64 i.op
 dst : I64 i.dst
 num : I64 i.num
 into : I64 i.into
 args : ListIn I64 i.args
 jumps : ListIn I64 i.jumps
structure RProcIn (p : RProc) : Prop where
 params : ListIn I64 p.params
 lent : ListIn I64 p.lent
 result : I64 p.result
 regs : I64 p.regs
 code : ListIn RInstrIn p.code
structure RImageIn (x : RImage) : Prop where
 decls : ListIn RDeclIn x.decls
 procs : ListIn RProcIn x.procs
end RC



namespace Go.Abs
open Go
def deepC : AV → Bool
 | .int .. | .bool _ | .str _ | .zc | .nilp | .nilf | .dv .. => true
 | _ => false
def deepR (xs : List (List AV)) : Prop := ∀ x ∈ xs, ∀ c ∈ x, deepC c = true
theorem repD_of_rep {F S : Nat → Prop} {w : World} {os : List Own} {c : AV} {u : Value} (hc : deepC c = true) (hd : ∀ e s ys, c ≠ .dv e s ys) (h : Rep F w os c u) : RepD S w c u := by
 cases c <;> simp only [deepC, Bool.false_eq_true] at hc <;> simp only [Rep] at h <;> simp only [RepD] <;> first | exact h | exact absurd rfl (hd _ _ _)
theorem rep_of_repD {F S : Nat → Prop} {w : World} {os : List Own} {c : AV} {u : Value} (h : RepD S w c u) : Rep F w os c u ∧ c.kept = true ∧ deepC c = true := by
 cases c <;> simp only [RepD] at h
 case dv =>
  refine ⟨?_, rfl, rfl⟩
  simp only [Rep]
  rcases h.2 with ⟨_, a, rfl⟩ | ⟨b, cap, cur, rfl, _⟩ <;> exact ⟨_, _, _, rfl⟩
 all_goals first | exact h.elim | exact ⟨by simp only [Rep]; exact h, rfl, rfl⟩
theorem repDC_mk {w : World} {cur : Array Value} {D : Nat → Nat → Prop} (hdis : ∀ j j' b, D j b → D j' b → j = j') : ∀ (x : List AV) (o j0 : Nat), (∀ (j : Nat) c, x[j]? = some c → ∃ u, cur[o + j]? = some u ∧ RepD (D (j0 + j)) w c u) →
  RepDC (fun b => ∃ j, j0 ≤ j ∧ D j b) w x cur o
 | [], _, _, _ => by simp [RepDC]
 | c :: r, o, j0, h => by
  simp only [RepDC]
  obtain ⟨u, h1, h2⟩ := h 0 c rfl
  refine ⟨D j0, fun b => ∃ j, j0 + 1 ≤ j ∧ D j b, fun b hb => ⟨j0, Nat.le_refl _, hb⟩, fun b ⟨j, hj, hb⟩ => ⟨j, by omega, hb⟩, fun b hb ⟨j, hj, hb'⟩ => by have := hdis _ _ _ hb hb'; omega, ⟨u, h1, h2⟩, ?_⟩
  exact repDC_mk hdis r (o + 1) (j0 + 1) fun j c hc => by
   obtain ⟨u, h1, h2⟩ := h (j + 1) c (by simpa using hc)
   exact ⟨u, by rw [← h1]; congr 1; omega, by rw [show j0 + 1 + j = j0 + (j + 1) by omega]; exact h2⟩
theorem repDR_mk {w : World} {cur : Array Value} {size : Nat} {D : Nat → Nat → Nat → Prop} (hdis : ∀ i j i' j' b, D i j b → D i' j' b → i = i' ∧ j = j') : ∀ (xs : List (List AV)) (o i0 : Nat), (∀ x ∈ xs, x.length = size) →
  (∀ (i : Nat) x, xs[i]? = some x → ∀ (j : Nat) c, x[j]? = some c → ∃ u, cur[o + i * size + j]? = some u ∧ RepD (D (i0 + i) j) w c u) → RepDR (fun b => ∃ i j, i0 ≤ i ∧ D i j b) w xs cur o
 | [], _, _, _, _ => by simp [RepDR]
 | x :: r, o, i0, hs, h => by
  simp only [RepDR]
  refine ⟨fun b => ∃ j, 0 ≤ j ∧ D i0 j b, fun b => ∃ i j, i0 + 1 ≤ i ∧ D i j b, fun b ⟨j, _, hb⟩ => ⟨i0, j, Nat.le_refl _, hb⟩, fun b ⟨i, j, hi, hb⟩ => ⟨i, j, by omega, hb⟩, fun b ⟨j, _, hb⟩ ⟨i, j', hi, hb'⟩ => by have := (hdis _ _ _ _ _ hb hb').1; omega, ?_, ?_⟩
  ·exact repDC_mk (D := D i0) (fun j j' b h1 h2 => (hdis _ _ _ _ _ h1 h2).2) x o 0 fun j c hc => by
    obtain ⟨u, h1, h2⟩ := h 0 x rfl j c hc
    exact ⟨u, by rw [← h1]; congr 1; omega, by simpa using h2⟩
  ·rw [hs x (by simp)]
   exact repDR_mk hdis r (o + size) (i0 + 1) (fun x hx => hs x (by simp [hx])) fun i y hy j c hc => by
    obtain ⟨u, h1, h2⟩ := h (i + 1) y (by simpa using hy) j c hc
    exact ⟨u, by rw [← h1]; congr 1; rw [Nat.add_mul]; omega, by rw [show i0 + 1 + i = i0 + (i + 1) by omega]; exact h2⟩
theorem repDC_get {w : World} {cur : Array Value} : ∀ {x : List AV} {S : Nat → Prop} {o : Nat}, RepDC S w x cur o → ∃ D : Nat → Nat → Prop, (∀ j b, D j b → S b) ∧ (∀ j j' b, D j b → D j' b → j = j') ∧
  ∀ (j : Nat) c, x[j]? = some c → ∃ u, cur[o + j]? = some u ∧ RepD (D j) w c u
 | [], _, _, _ => ⟨fun _ _ => False, fun _ _ h => h.elim, fun _ _ _ h => h.elim, fun j c h => by simp at h⟩
 | c :: r, S, o, h => by
  simp only [RepDC] at h
  obtain ⟨S1, S2, h1, h2, h3, ⟨u, h4, h5⟩, h6⟩ := h
  obtain ⟨D, d1, d2, d3⟩ := repDC_get h6
  refine ⟨fun j => match j with | 0 => S1 | j + 1 => D j, fun j b hb => ?_, fun j j' b hb hb' => ?_, fun j c' hc => ?_⟩
  ·cases j with
   | zero => exact h1 b hb
   | succ j => exact h2 b (d1 j b hb)
  ·cases j with
   | zero =>
    cases j' with
    | zero => rfl
    | succ j' => exact absurd (d1 j' b hb') (h3 b hb)
   | succ j =>
    cases j' with
    | zero => exact absurd (d1 j b hb) (h3 b hb')
    | succ j' => rw [d2 j j' b hb hb']
  ·cases j with
   | zero => simp only [List.getElem?_cons_zero, Option.some.injEq] at hc; subst hc; exact ⟨u, h4, h5⟩
   | succ j =>
    obtain ⟨u', g1, g2⟩ := d3 j c' (by simpa using hc)
    exact ⟨u', by rw [← g1]; congr 1; omega, g2⟩
theorem repDR_get {w : World} {cur : Array Value} {size : Nat} : ∀ {xs : List (List AV)} {S : Nat → Prop} {o : Nat}, (∀ x ∈ xs, x.length = size) → RepDR S w xs cur o → ∃ D : Nat → Nat → Nat → Prop, (∀ i j b, D i j b → S b) ∧
  (∀ i j i' j' b, D i j b → D i' j' b → i = i' ∧ j = j') ∧ ∀ (i : Nat) x, xs[i]? = some x → ∀ (j : Nat) c, x[j]? = some c → ∃ u, cur[o + i * size + j]? = some u ∧ RepD (D i j) w c u
 | [], _, _, _, _ => ⟨fun _ _ _ => False, fun _ _ _ h => h.elim, fun _ _ _ _ _ h => h.elim, fun i x h => by simp at h⟩
 | x :: r, S, o, hs, h => by
  simp only [RepDR] at h
  obtain ⟨S1, S2, h1, h2, h3, h4, h5⟩ := h
  obtain ⟨E, e1, e2, e3⟩ := repDC_get h4
  obtain ⟨D, d1, d2, d3⟩ := repDR_get (fun x hx => hs x (by simp [hx])) h5
  refine ⟨fun i => match i with | 0 => E | i + 1 => D i, fun i j b hb => ?_, fun i j i' j' b hb hb' => ?_, fun i y hy j c hc => ?_⟩
  ·cases i with
   | zero => exact h1 b (e1 j b hb)
   | succ i => exact h2 b (d1 i j b hb)
  ·cases i with
   | zero =>
    cases i' with
    | zero => exact ⟨rfl, e2 j j' b hb hb'⟩
    | succ i' => exact absurd (d1 i' j' b hb') (h3 b (e1 j b hb))
   | succ i =>
    cases i' with
    | zero => exact absurd (d1 i j b hb) (h3 b (e1 j' b hb'))
    | succ i' =>
     obtain ⟨q1, q2⟩ := d2 i j i' j' b hb hb'
     exact ⟨by rw [q1], q2⟩
  ·cases i with
   | zero =>
    simp only [List.getElem?_cons_zero, Option.some.injEq] at hy; subst hy
    obtain ⟨u, g1, g2⟩ := e3 j c hc
    exact ⟨u, by rw [← g1]; congr 1; omega, g2⟩
   | succ i =>
    obtain ⟨u, g1, g2⟩ := d3 i y (by simpa using hy) j c hc
    rw [hs x (by simp)] at g1
    exact ⟨u, by rw [← g1]; congr 1; rw [Nat.add_mul]; omega, g2⟩
variable {P : Program} {F : Nat → Prop} {os : List Own} {s : St} {a : Act} {w : World} {k : Nat}
theorem ownOK_repD {p : Own} (h : OwnOK F w os p) (hd : deepR p.row.xs) {v : Value} (hv : (p.blk = none ∧ ∃ a, v = .slice a p.row.xs.length 0) ∨ ∃ b, p.blk = some b ∧ v = .slice (some ⟨b, 0, none⟩) p.row.xs.length p.cap) :
  RepD p.owns w (.dv p.row.elem p.row.size p.row.xs) v := by
 simp only [RepD]
 refine ⟨h.pos, ?_⟩
 rcases hv with ⟨hb, a, rfl⟩ | ⟨b, hb, rfl⟩
 ·have := (h.none hb).1
  exact .inl ⟨this, a, by rw [this]; rfl⟩
 ·obtain ⟨_, cur, hcur, hsz, hle, hmax, hcells⟩ := h.some b hb
  obtain ⟨D, d1, d2, d3⟩ := h.deep
  refine .inr ⟨b, p.cap, cur, rfl, hle, hmax, .inl hb, hcur, hsz, fun x hx => (h.lens x hx).1, ?_⟩
  have := repDR_mk (w := w) (cur := cur) (size := p.row.size) d2 p.row.xs 0 0 (fun x hx => (h.lens x hx).1) (fun i x hx j c hc => by
   simp only [Nat.zero_add]
   by_cases hdv : ∃ e s ys, c = .dv e s ys
   ·obtain ⟨e, s, ys, rfl⟩ := hdv
    exact d3 b hb cur _ _ hcur i x j e s ys hx hc
   ·obtain ⟨u, g1, g2⟩ := hcells i x hx j c hc
    exact ⟨u, g1, repD_of_rep (hd x (List.mem_of_getElem? hx) c (List.mem_of_getElem? hc)) (fun e s ys e' => hdv ⟨e, s, ys, e'⟩) g2⟩)
  exact repDR_mono (fun c ⟨i, j, _, hc⟩ => ⟨.inr (d1 i j c hc), fun e => (h.mo c (d1 i j c hc)).2.2 (by rw [hb, e])⟩) (fun _ _ => rfl) _ _ _ this
theorem Wk.adoptD {id m g gm size sz n i j nn : Nat} {el el' : TypeId} {xs ys : List (List AV)} {x : List AV} {e : Nat → AV} {st st' : List Row} (hrow : st[id]? = some ⟨g, el, size, xs⟩) (hx : xs[i]? = some x) (hc : x[j]? = some (.own m gm n))
  (hm : st[m]? = some ⟨gm, el', sz, ys⟩) (hn : n = ys.length) (hne : id ≠ m) (hkm : k ≤ m) (hd : deepR ys) (hst : (st.set id ⟨g, el, size, xs.set i (x.set j (.dv el' sz ys))⟩).set m ⟨gm + 1, el', sz, []⟩ = st') :
  Wk k ⟨nn, e, st⟩ ⟨nn, e, st'⟩ := fun F os a w hr => by
 subst hst; subst hn
 obtain ⟨o, ho, hor⟩ := hr.row hrow
 obtain ⟨p, hp, hpr⟩ := hr.row hm
 have hok := hr.rows id o ho
 have hpk := hr.rows m p hp
 have hst : os.map Own.row = st := hr.st
 have hxs : o.row.xs = xs := by rw [hor]
 have hpx : p.row.xs = ys := by rw [hpr]
 let o' : Own := { o with row := { o.row with xs := xs.set i (x.set j (.dv el' sz ys)) }, more := fun b => o.more b ∨ p.owns b }
 let p' : Own := ⟨{ p.row with gen := p.row.gen + 1, xs := [] }, none, 0, none'⟩
 have hil : i < xs.length := (List.getElem?_eq_some_iff.1 hx).1
 have hjl : j < x.length := (List.getElem?_eq_some_iff.1 hc).1
 have hidl := (List.getElem?_eq_some_iff.1 ho).1
 have hml := (List.getElem?_eq_some_iff.1 hp).1
 have hdis : ∀ b, o.owns b → ¬ p.owns b := fun b h1 h2 => hne (hr.inj id m o p b ho hp h1 h2)
 have hget : ∀ (q : Nat) (oq : Own), ((os.set id o').set m p')[q]? = some oq → (q ≠ id ∧ q ≠ m ∧ os[q]? = some oq) ∨ (q = id ∧ oq = o') ∨ (q = m ∧ oq = p') := fun q oq hq => by
  by_cases e : q = m
  ·subst e
   rw [List.getElem?_set_self (by simpa using hml), Option.some.injEq] at hq
   exact .inr (.inr ⟨rfl, hq.symm⟩)
  ·rw [List.getElem?_set_ne (Ne.symm e)] at hq
   by_cases e2 : q = id
   ·subst e2
    rw [List.getElem?_set_self hidl, Option.some.injEq] at hq
    exact .inr (.inl ⟨rfl, hq.symm⟩)
   ·rw [List.getElem?_set_ne (Ne.symm e2)] at hq
    exact .inl ⟨e2, e, hq⟩
 have hos : HosLe os ((os.set id o').set m p') := fun q oq hq => by
  by_cases e : q = m
  ·subst e
   rw [hp] at hq; cases hq
   exact ⟨p', List.getElem?_set_self (by simpa using hml), Nat.le_succ _, rfl, fun e => by simp [p'] at e⟩
  ·rw [List.getElem?_set_ne (Ne.symm e)]
   by_cases e2 : q = id
   ·subst e2
    rw [ho] at hq; cases hq
    exact ⟨o', List.getElem?_set_self hidl, Nat.le_refl _, rfl, fun _ => ⟨rfl, rfl, by simp [o', hxs]⟩⟩
   ·rw [List.getElem?_set_ne (Ne.symm e2)]
    exact ⟨oq, hq, Nat.le_refl _, rfl, fun _ => ⟨rfl, rfl, rfl⟩⟩
 have hmono : ∀ y v, Rep F w os y v → Rep F w ((os.set id o').set m p') y v := fun y v h => rep_mono (fun _ h => h) (fun _ _ => rfl) os _ hos y v h
 have howns : ∀ b, o'.owns b → o.owns b ∨ p.owns b := fun b hb => by
  rcases hb with hb | hb | hb
  ·exact .inl (.inl hb)
  ·exact .inl (.inr hb)
  ·exact .inr hb
 have hpn : ∀ b, ¬ p'.owns b := fun b hb => by
  rcases hb with hb | hb
  ·simp [p'] at hb
  ·exact hb
 obtain ⟨bo, hbo⟩ : ∃ b, o.blk = some b := by
  cases hb : o.blk with
  | none => have := (hok.none hb).1; rw [hxs] at this; rw [this] at hil; simp at hil
  | some b => exact ⟨b, rfl⟩
 obtain ⟨hnF, cur, hcur, hsz, hle, hmax, hcells⟩ := hok.some bo hbo
 obtain ⟨uv, hu1, hu2⟩ := hcells i x (by rw [hxs]; exact hx) j _ hc
 have huv : (p.blk = none ∧ ∃ a, uv = .slice a p.row.xs.length 0) ∨ ∃ b, p.blk = some b ∧ uv = .slice (some ⟨b, 0, none⟩) p.row.xs.length p.cap := by
  simp only [Rep] at hu2
  obtain ⟨q, hq, _, _, hv⟩ := hu2
  rw [hp] at hq; cases hq
  have := (hv (by rw [hpr])).2
  rw [hpx]; exact this
 have hRD : RepD p.owns w (.dv el' sz ys) uv := by
  have := ownOK_repD hpk (by rw [hpx]; exact hd) huv
  rw [hpr] at this; exact this
 refine ⟨F, (os.set id o').set m p', ⟨?_, fun t => hmono _ _ (hr.env t), hr.size, fun q oq hq => ?_, fun q q' oq oq' b hq hq' hb hb' => ?_, hr.old, hr.defers⟩, ⟨rfl, rfl, rfl, Nat.le_refl _, fun _ h => h, fun _ _ => rfl, fun b _ h1 h2 => ⟨rfl, h1, fun oq hoq hb => ?_⟩, fun q oq _ hq => hos q oq hq⟩⟩
 ·rw [List.map_set, List.map_set, hst]
  simp only [o', p', hor, hpr]
 ·rcases hget q oq hq with ⟨_, _, h⟩ | ⟨_, rfl⟩ | ⟨_, rfl⟩
  ·have h0 := hr.rows q oq h
   refine ⟨h0.pos, h0.lens, h0.none, fun b hb => ?_, h0.mo, h0.deep⟩
   obtain ⟨e1, cur, e2, e3, e4, e5, e6⟩ := h0.some b hb
   exact ⟨e1, cur, e2, e3, e4, e5, fun i' y hy j' c hc => by obtain ⟨u, f1, f2⟩ := e6 i' y hy j' c hc; exact ⟨u, f1, hmono _ _ f2⟩⟩
  ·refine ⟨hok.pos, fun y hy => ?_, (fun hn => by simp only [o'] at hn; rw [hbo] at hn; cases hn), fun b hb => ?_, fun b hb => ?_, ?_⟩
   ·rcases List.mem_or_eq_of_mem_set hy with hy | rfl
    ·exact hok.lens y (by rw [hxs]; exact hy)
    ·have h0 := hok.lens x (by rw [hxs]; exact List.mem_of_getElem? hx)
     refine ⟨by rw [List.length_set]; exact h0.1, fun c hcm => ?_⟩
     rcases List.mem_or_eq_of_mem_set hcm with h | rfl
     ·exact h0.2 c h
     ·rfl
   ·simp only [o'] at hb
    rw [hbo] at hb; cases hb
    refine ⟨hnF, cur, hcur, hsz, by simpa [o', hxs] using hle, hmax, fun i' y hy j' c hcy => ?_⟩
    simp only [o'] at hy ⊢
    by_cases hi : i' = i
    ·subst hi
     rw [List.getElem?_set_self hil, Option.some.injEq] at hy
     subst hy
     by_cases hj : j' = j
     ·subst hj
      rw [List.getElem?_set_self hjl, Option.some.injEq] at hcy
      subst hcy
      exact ⟨uv, hu1, (rep_of_repD hRD).1⟩
     ·rw [List.getElem?_set_ne (Ne.symm hj)] at hcy
      obtain ⟨u, f1, f2⟩ := hcells i' x (by rw [hxs]; exact hx) j' c hcy
      exact ⟨u, f1, hmono _ _ f2⟩
    ·rw [List.getElem?_set_ne (Ne.symm hi)] at hy
     obtain ⟨u, f1, f2⟩ := hcells i' y (by rw [hxs]; exact hy) j' c hcy
     exact ⟨u, f1, hmono _ _ f2⟩
   ·rcases hb with hb | hb
    ·exact hok.mo b hb
    ·exact ⟨hpk.nF hb, hpk.lt hb, fun e => hdis b (.inl e) hb⟩
   ·obtain ⟨D, d1, d2, d3⟩ := hok.deep
    refine ⟨fun i' j' b => if i' = i ∧ j' = j then p.owns b else D i' j' b, fun i' j' b hb => ?_, fun i1 j1 i2 j2 b h1 h2 => ?_, fun b hb cur' el2 l hcur' i' y j' e2 s2 zs hy hcy => ?_⟩
    ·simp only at hb
     split at hb
     ·exact .inr hb
     ·exact .inl (d1 i' j' b hb)
    ·simp only at h1 h2
     split at h1 <;> split at h2
     ·rename_i q1 q2; exact ⟨q1.1.trans q2.1.symm, q1.2.trans q2.2.symm⟩
     ·exact absurd h1 (hdis b (.inr (d1 _ _ _ h2)))
     ·exact absurd h2 (hdis b (.inr (d1 _ _ _ h1)))
     ·exact d2 _ _ _ _ _ h1 h2
    ·simp only [o'] at hb hy ⊢
     rw [hbo] at hb; cases hb
     rw [hcur] at hcur'; cases hcur'
     by_cases hij : i' = i ∧ j' = j
     ·obtain ⟨rfl, rfl⟩ := hij
      rw [List.getElem?_set_self hil, Option.some.injEq] at hy
      subst hy
      rw [List.getElem?_set_self hjl, Option.some.injEq] at hcy
      cases hcy
      exact ⟨uv, hu1, by simpa using hRD⟩
     ·have hold : ∃ y0, o.row.xs[i']? = some y0 ∧ y0[j']? = some (.dv e2 s2 zs) := by
       rw [hxs]
       by_cases hi : i' = i
       ·subst hi
        rw [List.getElem?_set_self hil, Option.some.injEq] at hy
        subst hy
        have hj : j' ≠ j := fun e => hij ⟨rfl, e⟩
        rw [List.getElem?_set_ne (Ne.symm hj)] at hcy
        exact ⟨x, hx, hcy⟩
       ·rw [List.getElem?_set_ne (Ne.symm hi)] at hy
        exact ⟨y, hy, hcy⟩
      obtain ⟨y0, hy0, hc0⟩ := hold
      obtain ⟨u, f1, f2⟩ := d3 bo hbo cur _ _ hcur i' y0 j' e2 s2 zs hy0 hc0
      exact ⟨u, f1, by simpa only [hij, if_false] using f2⟩
  ·exact ⟨hpk.pos, by simp [p'], by simp [p'], by simp [p'], fun b hb => hb.elim, DeepOK.flat (by simp [p'])⟩
 ·rcases hget q oq hq with ⟨q1, q2, h⟩ | ⟨rfl, rfl⟩ | ⟨_, rfl⟩ <;> rcases hget q' oq' hq' with ⟨q1', q2', h'⟩ | ⟨rfl, rfl⟩ | ⟨_, rfl⟩
  ·exact hr.inj q q' oq oq' b h h' hb hb'
  ·rcases howns b hb' with e | e
   ·exact hr.inj q _ oq o b h ho hb e
   ·exact absurd (hr.inj q m oq p b h hp hb e) q2
  ·exact absurd hb' (hpn b)
  ·rcases howns b hb with e | e
   ·exact hr.inj _ q' o oq' b ho h' e hb'
   ·exact absurd (hr.inj m q' p oq' b hp h' e hb').symm q2'
  ·rfl
  ·exact absurd hb' (hpn b)
  ·exact absurd hb (hpn b)
  ·exact absurd hb (hpn b)
  ·exact absurd hb (hpn b)
 ·obtain ⟨q, hq⟩ := List.mem_iff_getElem?.1 hoq
  rcases hget q oq hq with ⟨_, _, h⟩ | ⟨_, rfl⟩ | ⟨_, rfl⟩
  ·exact h2 oq (List.mem_of_getElem? h) hb
  ·rcases howns b hb with e | e
   ·exact h2 o (List.mem_of_getElem? ho) e
   ·exact h2 p (List.mem_of_getElem? hp) e
  ·exact hpn b hb
end Go.Abs



namespace Go.Abs
open Go
variable {P : Program} {F : Nat → Prop} {os : List Own} {s : St} {a : Act} {w : World} {k : Nat}
theorem own_of_repD {S : Nat → Prop} {el sz : Nat} {ys : List (List AV)} {u : Value} (hS : ∀ b, S b → ¬ F b ∧ b < w.heap.size) (h : RepD S w (.dv el sz ys) u) :
  ∃ p : Own, p.row = ⟨0, el, sz, ys⟩ ∧ (∀ b, p.owns b → S b) ∧ (∀ os, OwnOK F w os p) ∧ ((p.blk = none ∧ ∃ a, u = .slice a ys.length 0) ∨ ∃ b, p.blk = some b ∧ u = .slice (some ⟨b, 0, none⟩) ys.length p.cap) := by
 simp only [RepD] at h
 obtain ⟨hp, h⟩ := h
 rcases h with ⟨rfl, a, rfl⟩ | ⟨b, cap, cur, rfl, h2, h3, h4, h5, h6, h7, h8⟩
 ·refine ⟨⟨⟨0, el, sz, []⟩, none, 0, none'⟩, rfl, fun b hb => ?_, fun os => ⟨hp, by simp, by simp, by simp, fun b hb => hb.elim, DeepOK.flat (by simp)⟩, .inl ⟨rfl, a, rfl⟩⟩
  rcases hb with hb | hb
  ·cases hb
  ·exact hb.elim
 ·obtain ⟨D, d1, d2, d3⟩ := repDR_get h7 h8
  refine ⟨⟨⟨0, el, sz, ys⟩, some b, cap, fun c => S c ∧ c ≠ b⟩, rfl, fun c hc => ?_, fun os => ⟨hp, fun x hx => ⟨h7 x hx, fun c hc => ?_⟩, by simp, fun b' hb' => ?_, fun c hc => ⟨(hS c hc.1).1, (hS c hc.1).2, fun e => hc.2 (by simpa using e.symm)⟩, ⟨D, d1, d2, fun b' hb' cur' el2 l hcur' i x j e s zs hx hc => ?_⟩⟩, .inr ⟨b, rfl, rfl⟩⟩
  ·rcases hc with hc | hc
   ·cases hc; exact h4
   ·exact hc.1
  ·obtain ⟨i, hi⟩ := List.mem_iff_getElem?.1 hx
   obtain ⟨j, hj⟩ := List.mem_iff_getElem?.1 hc
   obtain ⟨u, _, g2⟩ := d3 i x hi j c hj
   exact (rep_of_repD (F := F) (os := os) g2).2.1
  ·simp only [Option.some.injEq] at hb'
   subst hb'
   refine ⟨(hS _ h4).1, cur, h5, h6, h2, h3, fun i x hx j c hc => ?_⟩
   obtain ⟨u, g1, g2⟩ := d3 i x hx j c hc
   exact ⟨u, by simpa using g1, (rep_of_repD g2).1⟩
  ·simp only [Option.some.injEq] at hb'
   subst hb'
   rw [h5] at hcur'; cases hcur'
   obtain ⟨u, g1, g2⟩ := d3 i x hx j _ hc
   exact ⟨u, by simpa using g1, g2⟩
theorem Wk.expelD {id m g size sz n i j nn : Nat} {el el' : TypeId} {xs ys : List (List AV)} {x : List AV} {e : Nat → AV} {st st' : List Row} (hrow : st[id]? = some ⟨g, el, size, xs⟩) (hx : xs[i]? = some x) (hc : x[j]? = some (.dv el' sz ys))
  (hm : st.length = m) (hn : n = ys.length) (hst : st.set id ⟨g, el, size, xs.set i (x.set j (.own m 0 n))⟩ ++ [⟨0, el', sz, ys⟩] = st') : Wk k ⟨nn, e, st⟩ ⟨nn, e, st'⟩ := fun F os a w hr => by
 subst hst; subst hn; subst hm
 obtain ⟨o, ho, hor⟩ := hr.row hrow
 have hok := hr.rows id o ho
 have hst : os.map Own.row = st := hr.st
 have hol : os.length = st.length := by rw [← hst]; simp
 have hxs : o.row.xs = xs := by rw [hor]
 have hil : i < xs.length := (List.getElem?_eq_some_iff.1 hx).1
 have hjl : j < x.length := (List.getElem?_eq_some_iff.1 hc).1
 have hidl := (List.getElem?_eq_some_iff.1 ho).1
 obtain ⟨bo, hbo⟩ : ∃ b, o.blk = some b := by
  cases hb : o.blk with
  | none => have := (hok.none hb).1; rw [hxs] at this; rw [this] at hil; simp at hil
  | some b => exact ⟨b, rfl⟩
 obtain ⟨hnF, cur, hcur, hsz, hle, hmax, hcells⟩ := hok.some bo hbo
 obtain ⟨D, d1, d2, d3⟩ := hok.deep
 obtain ⟨uv, hu1, hu2⟩ := d3 bo hbo cur _ _ hcur i x j el' sz ys (by rw [hxs]; exact hx) hc
 obtain ⟨p, hpr, hpo, hpk, hpv⟩ := own_of_repD (F := F) (fun b hb => ⟨(hok.mo b (d1 _ _ _ hb)).1, (hok.mo b (d1 _ _ _ hb)).2.1⟩) hu2
 let o' : Own := { o with row := { o.row with xs := xs.set i (x.set j (.own st.length 0 ys.length)) }, more := fun b => o.more b ∧ ¬ D i j b }
 have hget : ∀ (q : Nat) (oq : Own), (os.set id o' ++ [p])[q]? = some oq → (q ≠ id ∧ q < os.length ∧ os[q]? = some oq) ∨ (q = id ∧ oq = o') ∨ (q = os.length ∧ oq = p) := fun q oq hq => by
  rcases Nat.lt_trichotomy q os.length with h | h | h
  ·rw [List.getElem?_append_left (by simpa using h)] at hq
   by_cases e2 : q = id
   ·subst e2
    rw [List.getElem?_set_self hidl, Option.some.injEq] at hq
    exact .inr (.inl ⟨rfl, hq.symm⟩)
   ·rw [List.getElem?_set_ne (Ne.symm e2)] at hq
    exact .inl ⟨e2, h, hq⟩
  ·subst h
   rw [List.getElem?_append_right (by simp)] at hq
   simp at hq
   exact .inr (.inr ⟨rfl, hq.symm⟩)
  ·rw [List.getElem?_eq_none (by simp; omega)] at hq; cases hq
 have hpget : (os.set id o' ++ [p])[st.length]? = some p := by
  rw [List.getElem?_append_right (by simp; omega)]
  simp [hol]
 have hos : HosLe os (os.set id o' ++ [p]) := fun q oq hq => by
  have hql := (List.getElem?_eq_some_iff.1 hq).1
  rw [List.getElem?_append_left (by simpa using hql)]
  by_cases e2 : q = id
  ·subst e2
   rw [ho] at hq; cases hq
   exact ⟨o', List.getElem?_set_self hidl, Nat.le_refl _, rfl, fun _ => ⟨rfl, rfl, by simp [o', hxs]⟩⟩
  ·rw [List.getElem?_set_ne (Ne.symm e2)]
   exact ⟨oq, hq, Nat.le_refl _, rfl, fun _ => ⟨rfl, rfl, rfl⟩⟩
 have hmono : ∀ y v, Rep F w os y v → Rep F w (os.set id o' ++ [p]) y v := fun y v h => rep_mono (fun _ h => h) (fun _ _ => rfl) os _ hos y v h
 have ho'o : ∀ b, o'.owns b → o.owns b := fun b hb => by
  rcases hb with hb | hb
  ·exact .inl hb
  ·exact .inr hb.1
 have hpoo : ∀ b, p.owns b → o.owns b := fun b hb => .inr (d1 _ _ _ (hpo b hb))
 have hdis : ∀ b, o'.owns b → ¬ p.owns b := fun b h1 h2 => by
  have h3 := hpo b h2
  rcases h1 with h1 | h1
  ·exact (hok.mo b (d1 _ _ _ h3)).2.2 h1
  ·exact h1.2 h3
 have hnew : Rep F w (os.set id o' ++ [p]) (.own st.length 0 ys.length) uv := by
  simp only [Rep]
  refine ⟨p, hpget, Nat.zero_le _, ?_, fun _ => ⟨by rw [hpr]; exact Nat.le_refl _, hpv⟩⟩
  rcases hpv with ⟨_, a, rfl⟩ | ⟨b, _, rfl⟩ <;> exact ⟨_, _, _, rfl⟩
 refine ⟨F, os.set id o' ++ [p], ⟨?_, fun t => hmono _ _ (hr.env t), hr.size, fun q oq hq => ?_, fun q q' oq oq' b hq hq' hb hb' => ?_, hr.old, hr.defers⟩, ⟨rfl, rfl, rfl, Nat.le_refl _, fun _ h => h, fun _ _ => rfl, fun b _ h1 h2 => ⟨rfl, h1, fun oq hoq hb => ?_⟩, fun q oq _ hq => hos q oq hq⟩⟩
 ·rw [List.map_append, List.map_set, hst]
  simp only [o', hor, List.map_cons, List.map_nil, hpr]
 ·rcases hget q oq hq with ⟨_, _, h⟩ | ⟨_, rfl⟩ | ⟨_, rfl⟩
  ·have h0 := hr.rows q oq h
   refine ⟨h0.pos, h0.lens, h0.none, fun b hb => ?_, h0.mo, h0.deep⟩
   obtain ⟨e1, cur, e2, e3, e4, e5, e6⟩ := h0.some b hb
   exact ⟨e1, cur, e2, e3, e4, e5, fun i' y hy j' c hc => by obtain ⟨u, f1, f2⟩ := e6 i' y hy j' c hc; exact ⟨u, f1, hmono _ _ f2⟩⟩
  ·refine ⟨hok.pos, fun y hy => ?_, (fun hn => by simp only [o'] at hn; rw [hbo] at hn; cases hn), fun b hb => ?_, fun b hb => hok.mo b hb.1, ?_⟩
   ·rcases List.mem_or_eq_of_mem_set hy with hy | rfl
    ·exact hok.lens y (by rw [hxs]; exact hy)
    ·have h0 := hok.lens x (by rw [hxs]; exact List.mem_of_getElem? hx)
     refine ⟨by rw [List.length_set]; exact h0.1, fun c hcm => ?_⟩
     rcases List.mem_or_eq_of_mem_set hcm with h | rfl
     ·exact h0.2 c h
     ·rfl
   ·simp only [o'] at hb
    rw [hbo] at hb; cases hb
    refine ⟨hnF, cur, hcur, hsz, by simpa [o', hxs] using hle, hmax, fun i' y hy j' c hcy => ?_⟩
    simp only [o'] at hy ⊢
    by_cases hi : i' = i
    ·subst hi
     rw [List.getElem?_set_self hil, Option.some.injEq] at hy
     subst hy
     by_cases hj : j' = j
     ·subst hj
      rw [List.getElem?_set_self hjl, Option.some.injEq] at hcy
      subst hcy
      exact ⟨uv, hu1, hnew⟩
     ·rw [List.getElem?_set_ne (Ne.symm hj)] at hcy
      obtain ⟨u, f1, f2⟩ := hcells i' x (by rw [hxs]; exact hx) j' c hcy
      exact ⟨u, f1, hmono _ _ f2⟩
    ·rw [List.getElem?_set_ne (Ne.symm hi)] at hy
     obtain ⟨u, f1, f2⟩ := hcells i' y (by rw [hxs]; exact hy) j' c hcy
     exact ⟨u, f1, hmono _ _ f2⟩
   ·refine ⟨fun i' j' b => if i' = i ∧ j' = j then False else D i' j' b, fun i' j' b hb => ?_, fun i1 j1 i2 j2 b h1 h2 => ?_, fun b hb cur' el2 l hcur' i' y j' e2 s2 zs hy hcy => ?_⟩
    ·simp only at hb
     split at hb
     ·exact hb.elim
     ·rename_i hij
      exact ⟨d1 i' j' b hb, fun h => hij (d2 _ _ _ _ _ hb h)⟩
    ·simp only at h1 h2
     split at h1 <;> split at h2 <;> first | exact h1.elim | exact h2.elim | exact d2 _ _ _ _ _ h1 h2
    ·simp only [o'] at hb hy ⊢
     rw [hbo] at hb; cases hb
     rw [hcur] at hcur'; cases hcur'
     have hold : (¬ (i' = i ∧ j' = j)) ∧ ∃ y0, o.row.xs[i']? = some y0 ∧ y0[j']? = some (.dv e2 s2 zs) := by
      rw [hxs]
      by_cases hi : i' = i
      ·subst hi
       rw [List.getElem?_set_self hil, Option.some.injEq] at hy
       subst hy
       by_cases hj : j' = j
       ·subst hj
        rw [List.getElem?_set_self hjl, Option.some.injEq] at hcy
        cases hcy
       ·rw [List.getElem?_set_ne (Ne.symm hj)] at hcy
        exact ⟨fun h => hj h.2, x, hx, hcy⟩
      ·rw [List.getElem?_set_ne (Ne.symm hi)] at hy
       exact ⟨fun h => hi h.1, y, hy, hcy⟩
     obtain ⟨hij, y0, hy0, hc0⟩ := hold
     obtain ⟨u, f1, f2⟩ := d3 bo hbo cur _ _ hcur i' y0 j' e2 s2 zs hy0 hc0
     exact ⟨u, f1, by simpa only [hij, if_false] using f2⟩
  ·exact hpk _
 ·rcases hget q oq hq with ⟨q1, q2, h⟩ | ⟨rfl, rfl⟩ | ⟨rfl, rfl⟩ <;> rcases hget q' oq' hq' with ⟨q1', q2', h'⟩ | ⟨rfl, rfl⟩ | ⟨rfl, rfl⟩
  ·exact hr.inj q q' oq oq' b h h' hb hb'
  ·exact hr.inj q _ oq o b h ho hb (ho'o b hb')
  ·exact absurd (hr.inj q id oq o b h ho hb (hpoo b hb')) q1
  ·exact hr.inj _ q' o oq' b ho h' (ho'o b hb) hb'
  ·rfl
  ·exact absurd hb' (hdis b hb)
  ·exact absurd (hr.inj id q' o oq' b ho h' (hpoo b hb) hb').symm q1'
  ·exact absurd hb (hdis b hb')
  ·rfl
 ·obtain ⟨q, hq⟩ := List.mem_iff_getElem?.1 hoq
  rcases hget q oq hq with ⟨_, _, h⟩ | ⟨_, rfl⟩ | ⟨_, rfl⟩
  ·exact h2 oq (List.mem_of_getElem? h) hb
  ·exact h2 o (List.mem_of_getElem? ho) (ho'o b hb)
  ·exact h2 o (List.mem_of_getElem? ho) (hpoo b hb)
variable {α β : Type} {l : List α} {enc : α → List AV}
def hole (l : List α) (enc : α → List AV) (i : Int) (x : List AV) : List (List AV) := (l.map enc).set i.toNat x
theorem hole_full {i : Int} {u : α} {x : List AV} (h : x = enc u) : hole l enc i x = (Sh.put l i u).map enc := by subst h; exact map_put
theorem hole_get {i : Int} {u : α} {x : List AV} (h : Sh.get l i = some u) : (hole l enc i x)[i.toNat]? = some x := by
 have := (Sh.get_some h).2.2
 have h0 := (Sh.get_some h).1
 exact List.getElem?_set_self (by simp; omega)
theorem hole_set {i : Int} {x y : List AV} : (hole l enc i x).set i.toNat y = hole l enc i y := by unfold hole; rw [List.set_set]
theorem Wk.expel {id m g size sz nn j : Nat} {el el' : TypeId} {i : Int} {c : α} {ys : List β} {encY : β → List AV} {x x' : List AV} {e : Nat → AV} {st st' : List Row} (hrow : st[id]? = some ⟨g, el, size, l.map enc⟩) (hi : Sh.get l i = some c) (hx : enc c = x) (hc : x[j]? = some (.dv el' sz (ys.map encY)))
  (hm : st.length = m) (hx' : x.set j (.own m 0 ys.length) = x') (hst : st.set id ⟨g, el, size, hole l enc i x'⟩ ++ [⟨0, el', sz, ys.map encY⟩] = st') : Wk k ⟨nn, e, st⟩ ⟨nn, e, st'⟩ := by
 subst hst; subst hx'; subst hx
 exact Wk.expelD hrow (map_get hi) hc hm (n := ys.length) (by simp) rfl
theorem Wk.take {id m g gm size sz nn j n : Nat} {el el' : TypeId} {i : Int} {c : α} {ys : List β} {encY : β → List AV} {x x' : List AV} {e : Nat → AV} {st st' : List Row} (hrow : st[id]? = some ⟨g, el, size, hole l enc i x⟩) (hi : Sh.get l i = some c) (hc : x[j]? = some (.own m gm n))
  (hm : st[m]? = some ⟨gm, el', sz, ys.map encY⟩) (hn : n = ys.length) (hne : id ≠ m) (hkm : k ≤ m) (hd : ∀ y, (encY y).all deepC = true) (hx' : x.set j (.dv el' sz (ys.map encY)) = x') (hst : (st.set id ⟨g, el, size, hole l enc i x'⟩).set m ⟨gm + 1, el', sz, []⟩ = st') :
  Wk k ⟨nn, e, st⟩ ⟨nn, e, st'⟩ := by
 subst hst; subst hx'
 refine Wk.adoptD hrow (hole_get hi) hc hm (by simpa using hn) hne hkm (fun y hy c hc => ?_) (by rw [hole_set])
 obtain ⟨z, _, rfl⟩ := List.mem_map.1 hy
 exact List.all_eq_true.1 (hd z) c hc
theorem Wk.filled {id g size nn : Nat} {el : TypeId} {i : Int} {u : α} {x : List AV} {e : Nat → AV} {st st' : List Row} (hrow : st[id]? = some ⟨g, el, size, hole l enc i x⟩) (hx : x = enc u) (hst : st.set id ⟨g, el, size, (Sh.put l i u).map enc⟩ = st') : Wk k ⟨nn, e, st⟩ ⟨nn, e, st'⟩ := by
 rw [hole_full hx] at hrow
 have : st.set id ⟨g, el, size, (Sh.put l i u).map enc⟩ = st := by
  obtain ⟨h1, h2⟩ := List.getElem?_eq_some_iff.1 hrow
  rw [← h2]; exact List.set_getElem_self h1
 rw [this] at hst
 exact Wk.steq hst
section
variable {ops : Array Oper} {Q : Exit → St → Prop} {ds : List (Option Tmp)} {r : List Oper} {n : Nat} {e : Nat → AV} {st st' : List Row} {ty : TypeId} {ps : String} {ed : Array Edge} {t : Tmp} {v : AV} {gd : Option (Nat × Bool)} {T : TypeId} {x y : Operand} {ag : Bool} {sz id g size : Nat} {el : TypeId} {cs : List AV} {c : α} {i : Int}
theorem ao_sth (hg : GO ds gd e) (ht : tinfo P T = some (ag, sz)) (hx : St.ev ⟨n, e, st⟩ x = .ptr id g i.toNat 0) (hr : st[id]? = some ⟨g, el, size, l.map enc⟩) (hi : Sh.get l i = some c) (hv : St.ev ⟨n, e, st⟩ y = v) (hc : cellsV v = some cs) (hn : cs.length = sz) (hle : cs.length ≤ size)
  (hlen : (enc c).length = cs.length) (hst : st.set id ⟨g, el, size, hole l enc i cs⟩ = st') (hk : AO P k ops Q (ds ++ [none]) r ⟨n, e, st'⟩) : AO P k ops Q ds (⟨none, .store T x y, ty, ps, ed, gd⟩ :: r) ⟨n, e, st⟩ := by
 refine ao_str hg ht hx hr (map_get hi) hv hc hn (by omega) ?_ hk
 rw [← hst]
 have : splice (enc c) 0 cs = cs := by
  unfold splice
  rw [List.take_zero, List.nil_append, Nat.zero_add, List.drop_eq_nil_of_le (by omega), List.append_nil]
 rw [this]; rfl
end
end Go.Abs



namespace Go.Abs
open Go
variable {P : Program} {F : Nat → Prop} {os : List Own} {s : St} {a : Act} {w : World} {k : Nat}
theorem Rel.addRowD (hr : Rel F os s a w) {cur : Array Value} {e : TypeId} {size cap : Nat} {xs : List (List AV)} (hpos : 0 < size) (hlens : ∀ x ∈ xs, x.length = size ∧ ∀ c ∈ x, c.kept = true)
  (hsz : cur.size = cap * size) (hle : xs.length ≤ cap) (hmax : cap ≤ maxLen)
  (hcells : ∀ (i : Nat) x, xs[i]? = some x → ∀ (j : Nat) c, x[j]? = some c → ∃ u, cur[i * size + j]? = some u ∧ Rep F w os c u ∧ ∀ e s ys, c = .dv e s ys → RepD none' w c u) :
  let o : Own := ⟨⟨0, e, size, xs⟩, some w.heap.size, cap, none'⟩
  Rel F (os ++ [o]) { s with st := s.st ++ [o.row] } a (w.alloc (.cells cur e)) ∧ Ext F os w F (os ++ [o]) (w.alloc (.cells cur e)) k := by
 intro o
 have ht : Turns w (w.alloc (.cells cur e)) none := Turns.alloc _ _ _
 have hlt : ∀ (i : Nat) (oi : Own) g, os[i]? = some oi → oi.owns g → g < w.heap.size := fun i oi g hi hg => (hr.rows i oi hi).lt hg
 have hget : ∀ (i : Nat) (oi : Own), (os ++ [o])[i]? = some oi → os[i]? = some oi ∨ (i = os.length ∧ oi = o) := fun i oi hi => by
  rcases Nat.lt_trichotomy i os.length with h | h | h
  ·rw [List.getElem?_append_left h] at hi; exact .inl hi
  ·subst h; simp at hi; exact .inr ⟨rfl, hi.symm⟩
  ·rw [List.getElem?_append_right (by omega), List.getElem?_eq_none (by simp; omega)] at hi; cases hi
 have hold : ∀ x v, Rep F w os x v → Rep F (w.alloc (.cells cur e)) (os ++ [o]) x v := fun x v h =>
  rep_mono (fun _ h => h) (fun g hg => ht.old g (hr.old g hg) (by simp)) os _ (HosLe.append os [o]) x v h
 have hown : ∀ g, o.owns g → g = w.heap.size := fun g hg => by
  simp only [Own.owns, o, none', or_false, Option.some.injEq] at hg; exact hg.symm
 have := hr.onto (k := k) ht (by simp) (os' := os ++ [o]) (HosLe.append os [o]) (fun i oi hi => by
   rcases hget i oi hi with h | ⟨_, rfl⟩
   ·exact .inl ⟨h, by simp⟩
   ·refine .inr ⟨hpos, hlens, by simp [o], fun g hg => ?_, fun g hg => hg.elim, ⟨fun _ _ _ => False, fun _ _ _ h => h.elim, fun _ _ _ _ _ h => h.elim, fun b hb cur' el l hcur' i x j e' s' ys hx hc => ?_⟩⟩
    ·simp only [o, Option.some.injEq] at hg
     subst hg
     refine ⟨fun hF => absurd (hr.old _ hF) (Nat.lt_irrefl _), cur, heap_alloc_new w _, hsz, hle, hmax, fun i' x hx j c hc => ?_⟩
     obtain ⟨u, h1, h2, _⟩ := hcells i' x hx j c hc
     exact ⟨u, h1, hold _ _ h2⟩
    ·simp only [o, Option.some.injEq] at hb
     subst hb
     rw [heap_alloc_new w _] at hcur'
     cases hcur'
     obtain ⟨u, h1, _, h3⟩ := hcells i x hx j _ hc
     exact ⟨u, h1, repD_mono (fun _ h => h.elim) (fun _ h => h.elim) _ u (h3 _ _ _ rfl)⟩)
  (fun i j oi oj g hi hj hgi hgj => by
   rcases hget i oi hi with h | ⟨h, rfl⟩ <;> rcases hget j oj hj with h' | ⟨h', rfl⟩
   ·exact hr.inj i j oi oj g h h' hgi hgj
   ·have := hlt i oi g h hgi; have := hown g hgj; omega
   ·have := hlt j oj g h' hgj; have := hown g hgi; omega
   ·omega)
  (fun o' ho' g hg => by
   rcases List.mem_append.1 ho' with h | h
   ·exact .inr ⟨o', h, hg⟩
   ·simp only [List.mem_singleton] at h; subst h; exact .inl (by have := hown g hg; omega))
  (by simp)
 refine ⟨?_, this.2.1⟩
 have h1 := this.1
 rw [List.map_append, hr.st] at h1
 simpa using h1
def ZD : List AV → List AV → Prop
 | [], [] => True
 | x :: r, y :: r' => ((x = y ∧ x.leaf = true) ∨ (x = .sl [] ∧ ∃ el s, y = .dv el s [] ∧ 0 < s)) ∧ ZD r r'
 | _, _ => False
theorem ZD.len : ∀ {xs ys : List AV}, ZD xs ys → xs.length = ys.length
 | [], [], _ => rfl
 | x :: r, y :: r', h => by simp [ZD.len h.2]
theorem ZD.get : ∀ {xs ys : List AV}, ZD xs ys → ∀ (j : Nat) y, ys[j]? = some y → ∃ x, xs[j]? = some x ∧ ((x = y ∧ x.leaf = true) ∨ (x = .sl [] ∧ ∃ el s, y = .dv el s [] ∧ 0 < s))
 | [], [], _, j, y, h => by simp at h
 | x :: r, y :: r', h, j, z, hz => by
  cases j with
  | zero => simp only [List.getElem?_cons_zero, Option.some.injEq] at hz; subst hz; exact ⟨x, rfl, h.1⟩
  | succ j => exact ZD.get h.2 j z (by simpa using hz)
theorem ofLeafZ_sl {v : Value} (h : ofLeafZ v = .sl []) : v = .slice none 0 0 := by
 unfold ofLeafZ at h
 split at h
 ·rfl
 ·unfold ofLeaf at h
  split at h <;> cases h
theorem aMakeD_ok {t : TypeId} {ei : EInfo} {l c : AV} {ul uc : Value} {zd : List AV} {kl kc : IntKind} {n : Int} (hr : Rel F os s a w) (he : einfo P t = some ei) (hzd : ZD ei.zero zd) (h0 : 0 ≤ n) (hb : n * (ei.bytes : Int) ≤ 281474976710656) (hm : n ≤ 9223372036854775807) (el : l = .int kl n) (ec : c = .int kc n) (hl : Rep F w os l ul) (hc : Rep F w os c uc) :
  Effects P k F os s a w (Instr.makeSlice t ul uc) (fun v st => v = .own s.st.length 0 n.toNat ∧ st = s.st ++ [⟨0, ei.e, ei.size, List.replicate n.toNat zd⟩]) := by
 obtain ⟨inf, z, hu, hi, hz, hzs, hpos, hsz, hby, hzero, hzl⟩ := einfo_some he
 subst el; subst ec
 simp only [Rep] at hl hc
 subst hl; subst hc
 obtain ⟨N, rfl⟩ := Int.eq_ofNat_of_zero_le h0
 simp only [Int.toNat_natCast]
 have hrun := run_make (P := P) w t ei.e inf z hu hi hz kl kc N N (by omega) (Int.le_refl _) (by rw [← hby, Int.mul_comm]; omega) (by omega)
 simp only [Int.toNat_natCast] at hrun
 have hzl' : zd.length = ei.size := by rw [← hzd.len, hzero, hsz, ← hzs]; simp
 have := hr.addRowD (k := k) (cur := madeCells z.cells (N * inf.size)) (e := ei.e) (size := ei.size) (cap := N) (xs := List.replicate N zd) (by omega)
  (fun x hx => by
   rw [List.mem_replicate] at hx; rw [hx.2]
   refine ⟨hzl', fun c hc => ?_⟩
   obtain ⟨j, hj⟩ := List.mem_iff_getElem?.1 hc
   obtain ⟨x, _, h⟩ := hzd.get j c hj
   rcases h with ⟨rfl, h⟩ | ⟨_, el, s, rfl, _⟩
   ·exact AV.kept_leaf h
   ·rfl) (by rw [size_madeCells, hsz]) (by simp) (by simp [maxLen]; omega) (fun i x hx j c hc => by
   rw [List.getElem?_replicate] at hx
   split at hx <;> simp only [Option.some.injEq, reduceCtorEq] at hx
   subst hx
   rename_i hiN
   have hjl : j < ei.size := by rw [← hzl']; exact (List.getElem?_eq_some_iff.1 hc).1
   have hj2 : j < z.cells.size := by omega
   obtain ⟨x0, hx0, hcase⟩ := hzd.get j c hc
   rw [hzero] at hx0
   simp only [List.getElem?_map, Array.getElem?_toList, Array.getElem?_eq_getElem hj2, Option.map_some, Option.some.injEq] at hx0
   refine ⟨z.cells[j], ?_, ?_⟩
   ·have hlt : i * ei.size + j < N * inf.size := by
     have : (i + 1) * ei.size ≤ N * ei.size := Nat.mul_le_mul_right _ hiN
     rw [Nat.add_mul] at this; rw [← hsz]; omega
    have hmod : (i * ei.size + j) % z.cells.size = j := by rw [hzs, ← hsz, Nat.mul_comm, Nat.mul_add_mod]; exact Nat.mod_eq_of_lt hjl
    simp [madeCells, hlt, hmod, hj2]
   ·rcases hcase with ⟨rfl, hlf⟩ | ⟨rfl, el, s, rfl, hs⟩
    ·rw [← hx0]
     refine ⟨rep_ofLeafZ F w os _, fun e s ys e' => ?_⟩
     rw [hx0] at e'; rw [e'] at hlf; simp [AV.leaf] at hlf
    ·have := ofLeafZ_sl hx0
     rw [this]
     refine ⟨by simp only [Rep]; exact ⟨_, _, _, rfl⟩, fun e s' ys e' => ?_⟩
     simp only [RepD]
     exact ⟨hs, .inl ⟨trivial, none, rfl⟩⟩)
 refine ⟨_, _, _, _, _, ⟨rfl, rfl⟩, hrun, this.1, ?_, this.2⟩
 simp only [Rep]
 refine ⟨⟨⟨0, ei.e, ei.size, List.replicate N zd⟩, some w.heap.size, N, none'⟩, by rw [hr.len]; simp, by simp, ⟨_, _, _, rfl⟩, fun _ => ⟨by simp, .inr ⟨_, rfl, rfl⟩⟩⟩
theorem AO.sem {ops : Array Oper} {Q : Exit → St → Prop} {ds : List (Option Tmp)} {r : List Oper} {o : Oper} {s s' : St} (hgd : o.guard = none)
  (h : ∀ F os a w, Rel F os s a w → dstOK s.n o.dst = true → ∀ (next : Act → World → Prop) (Q' : Exit → Act → World → Prop), (∀ a' w', Step k s.n F os w (· = s') a' w' → next a' w') → o.wp P a w next Q')
  (hk : AO P k ops Q (ds ++ [o.dst]) r s') : AO P k ops Q ds (o :: r) s := by
 intro hl hds hdst F os a w hr Q' hQ
 have ho : ops[ds.length]? = some o := by have := hl 0; simpa using this.symm
 have hod : dstOK s.n o.dst = true := hdst o (by have := List.mem_of_getElem? (l := ops.toList) (i := ds.length) (by simpa using ho); exact this)
 have hl' : ∀ (j : Nat), r[j]? = ops[(ds ++ [o.dst]).length + j]? := fun j => by
  have := hl (j + 1)
  simp only [List.getElem?_cons_succ] at this
  rw [this]; congr 1; simp; omega
 have hds' : ∀ (j : Nat) d, (ds ++ [o.dst])[j]? = some d → (ops[j]?).map (·.dst) = some d := fun j d hj => by
  rcases Nat.lt_trichotomy j ds.length with h1 | h1 | h1
  ·rw [List.getElem?_append_left h1] at hj; exact hds j d hj
  ·subst h1; rw [new_get, Option.some.injEq] at hj; rw [ho]; simp [hj]
  ·rw [List.getElem?_eq_none (by simp; omega)] at hj; cases hj
 unfold wpList
 have hw : Region.wanted o (yielded ops a.tmps) = true := by unfold Region.wanted; rw [hgd]
 rw [if_pos hw]
 refine .inl (h F os a w hr hod _ _ ?_)
 rintro a' w' ⟨s2, F2, os2, hn2, rfl, hR2, hE2⟩
 exact hk hl' hds' (by rw [hn2]; exact hdst) F2 os2 a' w' hR2 Q' fun _ _ _ hp => hQ _ _ _ (hp.trans hE2)
section
variable {α : Type} {l : List α} {enc : α → List AV}
variable {ops : Array Oper} {Q : Exit → St → Prop} {ds : List (Option Tmp)} {r : List Oper} {n : Nat} {e : Nat → AV} {st st' : List Row} {ty : TypeId} {ps : String} {ed : Array Edge} {t : Tmp} {T : TypeId} {x y : Operand} {m bytes size : Nat} {el : TypeId} {zz : List AV} {u : α} {j : Int} {kk kk' : IntKind}
theorem ao_maked (he : einfo P T = some ⟨el, size, bytes, zz⟩) (hx : St.ev ⟨n, e, st⟩ x = .int kk j) (hy : St.ev ⟨n, e, st⟩ y = .int kk' j) (hz : ZD zz (enc u)) (hl : Sh.mk u j bytes = some l) (hm : st.length = m) (hst : st ++ [⟨0, el, size, l.map enc⟩] = st')
  (hk : AO P k ops Q (ds ++ [some t]) r ⟨n, upd e t (.own m 0 l.length), st'⟩) : AO P k ops Q ds (⟨some t, .makeSlice T x y, ty, ps, ed, none⟩ :: r) ⟨n, e, st⟩ := by
 subst hm; subst hst
 unfold Sh.mk at hl
 split at hl
 case isFalse => cases hl
 rename_i h
 simp only [Option.some.injEq] at hl
 subst hl
 refine AO.sem rfl (fun F os a w hr hd next Q' hn => ?_) hk
 obtain ⟨v, st', u', w', os', ⟨rfl, rfl⟩, h2, h3, h4, h5⟩ := aMakeD_ok (k := k) (ei := ⟨el, size, bytes, zz⟩) hr he hz h.1 h.2.1 h.2.2 hx hy (hr.ev x) (hr.ev y)
 unfold Oper.wp
 simp only [execOp, Sem.run_bind, h2, Result.andThen_ok, Sem.run_pure, Oper.upon]
 refine hn _ _ (putStep hd ?_ h3 h4 h5)
 simp [St.put, List.map_replicate]
end
end Go.Abs



namespace Go.Abs
open Go
variable {P : Program} {F : Nat → Prop} {os : List Own} {s : St} {a : Act} {w : World} {k : Nat}
variable {α β : Type} {l : List α} {enc : α → List AV}
theorem Wk.restored {id g size nn : Nat} {el : TypeId} {i : Int} {c : α} {x : List AV} {e : Nat → AV} {st st' : List Row} (hrow : st[id]? = some ⟨g, el, size, hole l enc i x⟩) (hi : Sh.get l i = some c) (hx : x = enc c) (hst : st.set id ⟨g, el, size, l.map enc⟩ = st') : Wk k ⟨nn, e, st⟩ ⟨nn, e, st'⟩ := by
 have h2 : hole l enc i x = l.map enc := by
  subst hx
  unfold hole
  have := map_get (enc := enc) hi
  obtain ⟨h1, h2⟩ := List.getElem?_eq_some_iff.1 this
  rw [← h2]; exact List.set_getElem_self h1
 rw [h2] at hrow
 have : st.set id ⟨g, el, size, l.map enc⟩ = st := by
  obtain ⟨h1, h2⟩ := List.getElem?_eq_some_iff.1 hrow
  rw [← h2]; exact List.set_getElem_self h1
 rw [this] at hst
 exact Wk.steq hst
end Go.Abs
namespace Go.Abs
open Go
section
variable {P : Program} {k : Nat} {α : Type} {l l' : List α} {enc : α → List AV} {c : α}
variable {ops : Array Oper} {Q : Exit → St → Prop} {ds : List (Option Tmp)} {r : List Oper} {n : Nat} {e : Nat → AV} {st st' : List Row} {ty : TypeId} {ps : String} {ed : Array Edge} {t : Tmp} {gd : Option (Nat × Bool)} {T : TypeId} {x y : Operand} {bytes size id g m q gq size' : Nat} {el el' : TypeId} {zz cs : List AV}
end
end Go.Abs



namespace Go.Abs
open Go
variable {P : Program} {F : Nat → Prop} {os : List Own} {s : St} {a : Act} {w : World} {k : Nat}
variable {α : Type} {l : List α} {enc enc' : α → List AV} {n id g m size : Nat} {e : Nat → AV} {st st' : List Row} {L : List (Nat × AV)} {el : TypeId} {xs : List (List AV)}
end Go.Abs



namespace Go.Abs
open Go
variable {P : Program} {F : Nat → Prop} {os : List Own} {s : St} {a : Act} {w : World} {k : Nat}
section
variable {P : Program} {ops : Array Oper} {Q : Exit → St → Prop} {n N f i : Nat} {listed listed' : Array Bool} {e : Nat → AV} {ty : TypeId} {p : String} {ed : Array Edge} {t : Tmp} {α : Type} {l l2 l' : List α} {enc : α → List AV} {x y : Operand} {g m size bytes : Nat} {el : TypeId} {zz : List AV} {T : TypeId} {rst : List Row} {k : Nat}
theorem AX.lst (h : listed = listed') {s : St} (ha : AX P k ops Q N f listed s) : AX P k ops Q N f listed' s := h ▸ ha
theorem AX.one {s : St} (h : ∀ A : Nat → Array Bool → St → Prop, (∀ f l s, A f l s ↔ AX P k ops Q N f l s) → A f listed s) : AX P k ops Q N f listed s :=
 h (AX P k ops Q N) (fun _ _ _ => Iff.rfl)
end
section
variable {P : Program} {ds : List (Option Tmp)} {r : List Oper} {KS : St → Prop} {n : Nat} {e : Nat → AV} {st : List Row} {ty : TypeId} {ps : String} {ed : Array Edge} {t : Tmp} {gd : Option (Nat × Bool)} {α : Type} {l l' : List α} {enc : α → List AV} {x : Operand} {size bytes : Nat} {el T : TypeId} {zz : List AV}
end
end Go.Abs



namespace Go.Abs
open Go
section
variable {P : Program} {k : Nat} {ops : Array Oper} {Q : Exit → St → Prop} {ds : List (Option Tmp)} {r : List Oper} {n : Nat} {e : Nat → AV} {st st' : List Row} {ty : TypeId} {p : String} {ed : Array Edge} {t : Tmp} {x y : Operand} {size bytes m : Nat} {el T Tn : TypeId} {zz : List AV} {α : Type} {enc : α → List AV} {u : α} {l' : List α} {kk : IntKind} {j : Int} {v : AV} {o : Oper}
theorem ao_do (hn : o.guard = none) (h : ∀ F os a w, Rel F os ⟨n, e, st⟩ a w → ∃ z w' F' os', (execOp a.eval o).run P w = .ok (.value z) w' ∧ Rel F' os' ⟨n, e, st'⟩ a w' ∧ Rep F' w' os' v z ∧ Ext F os w F' os' w' k)
  (hk : AO P k ops Q (ds ++ [o.dst]) r (St.put ⟨n, e, st'⟩ o.dst v)) : AO P k ops Q ds (o :: r) ⟨n, e, st⟩ := by
 intro hl hds hdst F os a w hr Q' hQ
 have ho : ops[ds.length]? = some o := by have := hl 0; simpa using this.symm
 have hod : dstOK n o.dst = true := hdst o (by have := List.mem_of_getElem? (l := ops.toList) (i := ds.length) (by simpa using ho); exact this)
 have hl' : ∀ (j : Nat), r[j]? = ops[(ds ++ [o.dst]).length + j]? := fun j => by
  have := hl (j + 1)
  simp only [List.getElem?_cons_succ] at this
  rw [this]; congr 1; simp; omega
 have hds' : ∀ (j : Nat) d, (ds ++ [o.dst])[j]? = some d → (ops[j]?).map (·.dst) = some d := fun j d hj => by
  rcases Nat.lt_trichotomy j ds.length with h1 | h1 | h1
  ·rw [List.getElem?_append_left h1] at hj; exact hds j d hj
  ·subst h1; rw [new_get, Option.some.injEq] at hj; rw [ho]; simp [hj]
  ·rw [List.getElem?_eq_none (by simp; omega)] at hj; cases hj
 obtain ⟨z, w', F', os', h1, h2, h3, h4⟩ := h F os a w hr
 unfold wpList
 rw [if_pos (by unfold Region.wanted; rw [hn])]
 refine .inl ?_
 unfold Oper.wp
 rw [h1]
 simp only [Oper.upon]
 refine hk hl' hds' (by cases o.dst <;> exact hdst) F' os' _ w' (h2.put hod h3) Q' fun _ _ _ hp => hQ _ _ _ (hp.trans h4)
end
section
variable {P : Program} {ds : List (Option Tmp)} {r : List Oper} {KS : St → Prop} {n : Nat} {e : Nat → AV} {st : List Row} {ty : TypeId} {ps : String} {ed : Array Edge} {t : Tmp} {gd : Option (Nat × Bool)} {α : Type} {l : List α} {enc : α → List AV} {u : α} {x y : Operand} {size bytes : Nat} {el T : TypeId} {zz : List AV} {kk kk' : IntKind} {j : Int}
end
section
variable {P : Program} {k : Nat} {ops : Array Oper} {Q : Exit → St → Prop} {ds : List (Option Tmp)} {r : List Oper} {n : Nat} {e : Nat → AV} {st st' : List Row} {ty : TypeId} {p : String} {ed : Array Edge} {t : Tmp} {x y : Operand} {size bytes m : Nat} {el T : TypeId} {zz : List AV} {kk kk' : IntKind} {c : Nat}
end
end Go.Abs



namespace RC
open Go Go.Abs
end RC



namespace RC
open Go Go.Abs
theorem und_map {α : Type} {l : List α} {enc enc' : α → List AV} (h : ∀ x, undC (enc x) = enc' x) : undR (l.map enc) = l.map enc' := by
 rw [undR_eq, List.map_map]
 exact List.map_congr_left fun x _ => h x
theorem eI_und (n : Int) : undC (eI n) = eI n := rfl
def eCellD (ti : Nat) (c : Cell) : List AV := [.int .i64 c.count, .int .i64 c.tag, .dv ti 1 (c.fields.map eI)]
theorem eCellD_und {ti : Nat} (c : Cell) : undC (eCellD ti c) = eCell c := by
 simp only [eCellD, undC, und, und_map eI_und, eCell]
end RC



namespace RC
open Go Go.Abs
structure RFrame where
 proc : Int
 at_ : Int
 dst : Int
 regs : List Int
 own : List Int
 held : List Int
structure RState where
 status : Int
 value : Int
 calls : Int
 most : Int
 out : List Int
 heap : List Cell
 frames : List RFrame
def eRFrame (f : RFrame) : List AV := [.int .i64 f.proc, .int .i64 f.at_, .int .i64 f.dst, .sl (f.regs.map eI), .sl (f.own.map eI), .sl (f.held.map eI)]
def eRState (s : RState) : List AV := [.int .i64 s.status, .int .i64 s.value, .int .i64 s.calls, .int .i64 s.most, .sl (s.out.map eI), .sl (s.heap.map eCell), .sl (s.frames.map eRFrame)]
structure RFrameIn (f : RFrame) : Prop where
 proc : I64 f.proc
 at_ : I64 f.at_
 dst : I64 f.dst
 regs : ListIn I64 f.regs
 own : ListIn I64 f.own
 held : ListIn I64 f.held
structure RStateIn (s : RState) : Prop where
 status : I64 s.status
 value : I64 s.value
 calls : I64 s.calls
 most : I64 s.most
 out : ListIn I64 s.out
 heap : ListIn CellIn s.heap
 frames : ListIn RFrameIn s.frames
end RC



namespace RC
open Go Go.Abs
def eRConD (a : Nat) (c : RCon) : List AV := [.dv a 1 (c.fields.map eI)]
theorem eRConD_und {a : Nat} (c : RCon) : undC (eRConD a c) = eRCon c := by
 simp only [eRConD, undC, und, und_map eI_und, eRCon]
def eRDeclD (a b : Nat) (d : RDecl) : List AV := [.int .i64 d.from_, .int .i64 d.to, .dv a 1 (d.cons.map (eRConD b))]
theorem eRDeclD_und {a b : Nat} (d : RDecl) : undC (eRDeclD a b d) = eRDecl d := by
 simp only [eRDeclD, undC, und, und_map eRConD_und, eRDecl]
def eRInstrD (a b : Nat) (i : RInstr) : List AV := [.int .i64 i.op, .int .i64 i.dst, .int .i64 i.num, .int .i64 i.into, .dv a 1 (i.args.map eI), .dv b 1 (i.jumps.map eI)]
theorem eRInstrD_und {a b : Nat} (i : RInstr) : undC (eRInstrD a b i) = eRInstr i := by
 simp only [eRInstrD, undC, und, und_map eI_und, eRInstr]
def eRProcD (a b c d e : Nat) (p : RProc) : List AV := [.dv a 1 (p.params.map eI), .dv b 1 (p.lent.map eI), .int .i64 p.result, .int .i64 p.regs, .dv c 6 (p.code.map (eRInstrD d e))]
theorem eRProcD_und {a b c d e : Nat} (p : RProc) : undC (eRProcD a b c d e p) = eRProc p := by
 simp only [eRProcD, undC, und, und_map eI_und, und_map eRInstrD_und, eRProc]
def eRFrameD (a b c : Nat) (f : RFrame) : List AV := [.int .i64 f.proc, .int .i64 f.at_, .int .i64 f.dst, .dv a 1 (f.regs.map eI), .dv b 1 (f.own.map eI), .dv c 1 (f.held.map eI)]
theorem eRFrameD_und {a b c : Nat} (f : RFrame) : undC (eRFrameD a b c f) = eRFrame f := by
 simp only [eRFrameD, undC, und, und_map eI_und, eRFrame]
end RC



namespace Go.Abs
open Go
variable {P : Program} {n : Nat} {e : Nat → AV} {st : List Row} {t : Tmp} {ty : TypeId} {ps : String} {ed : Array Edge} {x : Operand}
end Go.Abs



namespace Go.Abs
open Go
section
variable {P : Program} {k : Nat} {ops : Array Oper} {Q : Exit → St → Prop} {N f i : Nat} {listed listed' : Array Bool} {s s' : St} {o : Oper}
end
section
variable {P : Program} {n : Nat} {e : Nat → AV} {st : List Row} {t : Tmp} {ty : TypeId} {ps : String} {ed : Array Edge} {x : Operand}
end
section
variable {P : Program} {k : Nat} {α : Type} {l : List α} {enc : α → List AV}
variable {ops : Array Oper} {Q : Exit → St → Prop} {ds : List (Option Tmp)} {r : List Oper} {n : Nat} {e : Nat → AV} {st st' : List Row} {ty : TypeId} {ps : String} {ed : Array Edge} {v : AV} {gd : Option (Nat × Bool)} {T : TypeId} {x y : Operand} {ag : Bool} {sz id g size off : Nat} {el : TypeId} {cs cs' : List AV} {c : α} {i : Int}
end
end Go.Abs



namespace Go.Abs
open Go
end Go.Abs



namespace RC
open Go Go.Abs
end RC


namespace RC
end RC

