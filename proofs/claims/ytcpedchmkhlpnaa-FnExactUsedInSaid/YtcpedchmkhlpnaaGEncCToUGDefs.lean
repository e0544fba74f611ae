import Derived.Test.YtcpedchmkhlpnaaGEncToEncB
import Derived.Test.YtcpedchmkhlpnaaAbsW
import Derived.Lib.AppendZerosOnto
import Derived.OrdersHeld
import Derived.Lib.SlicesCompact

namespace RC
open Go Go.Abs
structure RCon where
 fields : List Int
structure RDecl where
 from_ : Int
 to : Int
 cons : List RCon
structure RInstr where
 op : Int
 dst : Int
 num : Int
 into : Int
 args : List Int
 jumps : List Int
structure RProc where
 params : List Int
 lent : List Int
 result : Int
 regs : Int
 code : List RInstr
structure RImage where
 decls : List RDecl
 procs : List RProc
structure RSignature where
 params : List Int
 lent : List Int
 result : Int
structure RSignatures where
 decls : List RDecl
 funcs : List RSignature
inductive RExpr where
 | mk (op num : Int) (kids : List RExpr)
def RExpr.op : RExpr → Int | .mk o _ _ => o
def RExpr.num : RExpr → Int | .mk _ n _ => n
def RExpr.kids : RExpr → List RExpr | .mk _ _ k => k
structure RFunc where
 params : List Int
 result : Int
 body : RExpr
structure RProgram where
 decls : List RDecl
 funcs : List RFunc
end RC



namespace Go.Abs
open Go
def deepC : AV → Bool
 | .int .. | .bool _ | .str _ | .zc | .nilp | .nilf | .dv .. => true
 | _ => false
def deepR (xs : List (List AV)) : Prop := ∀ x ∈ xs, ∀ c ∈ x, deepC c = true
theorem repD_of_rep {F S : Nat → Prop} {w : World} {os : List Own} {c : AV} {u : Value} (hc : deepC c = true) (hd : ∀ e s ys, c ≠ .dv e s ys) (h : Rep F w os c u) : RepD S w c u := by
 cases c <;> simp only [deepC, Bool.false_eq_true] at hc <;> simp only [Rep] at h <;> simp only [RepD] <;> first | exact h | exact absurd rfl (hd _ _ _)
theorem rep_of_repD {F S : Nat → Prop} {w : World} {os : List Own} {c : AV} {u : Value} (h : RepD S w c u) : Rep F w os c u ∧ c.kept = true ∧ deepC c = true := by
 cases c <;> simp only [RepD] at h
 case dv =>
  refine ⟨?_, rfl, rfl⟩
  simp only [Rep]
  rcases h.2 with ⟨_, a, rfl⟩ | ⟨b, cap, cur, rfl, _⟩ <;> exact ⟨_, _, _, rfl⟩
 all_goals first | exact h.elim | exact ⟨by simp only [Rep]; exact h, rfl, rfl⟩
theorem repDC_mk {w : World} {cur : Array Value} {D : Nat → Nat → Prop} (hdis : ∀ j j' b, D j b → D j' b → j = j') : ∀ (x : List AV) (o j0 : Nat), (∀ (j : Nat) c, x[j]? = some c → ∃ u, cur[o + j]? = some u ∧ RepD (D (j0 + j)) w c u) →
  RepDC (fun b => ∃ j, j0 ≤ j ∧ D j b) w x cur o
 | [], _, _, _ => by simp [RepDC]
 | c :: r, o, j0, h => by
  simp only [RepDC]
  obtain ⟨u, h1, h2⟩ := h 0 c rfl
  refine ⟨D j0, fun b => ∃ j, j0 + 1 ≤ j ∧ D j b, fun b hb => ⟨j0, Nat.le_refl _, hb⟩, fun b ⟨j, hj, hb⟩ => ⟨j, by omega, hb⟩, fun b hb ⟨j, hj, hb'⟩ => by have := hdis _ _ _ hb hb'; omega, ⟨u, h1, h2⟩, ?_⟩
  exact repDC_mk hdis r (o + 1) (j0 + 1) fun j c hc => by
   obtain ⟨u, h1, h2⟩ := h (j + 1) c (by simpa using hc)
   exact ⟨u, by rw [← h1]; congr 1; omega, by rw [show j0 + 1 + j = j0 + (j + 1) by omega]; exact h2⟩
theorem repDR_mk {w : World} {cur : Array Value} {size : Nat} {D : Nat → Nat → Nat → Prop} (hdis : ∀ i j i' j' b, D i j b → D i' j' b → i = i' ∧ j = j') : ∀ (xs : List (List AV)) (o i0 : Nat), (∀ x ∈ xs, x.length = size) →
  (∀ (i : Nat) x, xs[i]? = some x → ∀ (j : Nat) c, x[j]? = some c → ∃ u, cur[o + i * size + j]? = some u ∧ RepD (D (i0 + i) j) w c u) → RepDR (fun b => ∃ i j, i0 ≤ i ∧ D i j b) w xs cur o
 | [], _, _, _, _ => by simp [RepDR]
 | x :: r, o, i0, hs, h => by
  simp only [RepDR]
  refine ⟨fun b => ∃ j, 0 ≤ j ∧ D i0 j b, fun b => ∃ i j, i0 + 1 ≤ i ∧ D i j b, fun b ⟨j, _, hb⟩ => ⟨i0, j, Nat.le_refl _, hb⟩, fun b ⟨i, j, hi, hb⟩ => ⟨i, j, by omega, hb⟩, fun b ⟨j, _, hb⟩ ⟨i, j', hi, hb'⟩ => by have := (hdis _ _ _ _ _ hb hb').1; omega, ?_, ?_⟩
  ·exact repDC_mk (D := D i0) (fun j j' b h1 h2 => (hdis _ _ _ _ _ h1 h2).2) x o 0 fun j c hc => by
    obtain ⟨u, h1, h2⟩ := h 0 x rfl j c hc
    exact ⟨u, by rw [← h1]; congr 1; omega, by simpa using h2⟩
  ·rw [hs x (by simp)]
   exact repDR_mk hdis r (o + size) (i0 + 1) (fun x hx => hs x (by simp [hx])) fun i y hy j c hc => by
    obtain ⟨u, h1, h2⟩ := h (i + 1) y (by simpa using hy) j c hc
    exact ⟨u, by rw [← h1]; congr 1; rw [Nat.add_mul]; omega, by rw [show i0 + 1 + i = i0 + (i + 1) by omega]; exact h2⟩
theorem repDC_get {w : World} {cur : Array Value} : ∀ {x : List AV} {S : Nat → Prop} {o : Nat}, RepDC S w x cur o → ∃ D : Nat → Nat → Prop, (∀ j b, D j b → S b) ∧ (∀ j j' b, D j b → D j' b → j = j') ∧
  ∀ (j : Nat) c, x[j]? = some c → ∃ u, cur[o + j]? = some u ∧ RepD (D j) w c u
 | [], _, _, _ => ⟨fun _ _ => False, fun _ _ h => h.elim, fun _ _ _ h => h.elim, fun j c h => by simp at h⟩
 | c :: r, S, o, h => by
  simp only [RepDC] at h
  obtain ⟨S1, S2, h1, h2, h3, ⟨u, h4, h5⟩, h6⟩ := h
  obtain ⟨D, d1, d2, d3⟩ := repDC_get h6
  refine ⟨fun j => match j with | 0 => S1 | j + 1 => D j, fun j b hb => ?_, fun j j' b hb hb' => ?_, fun j c' hc => ?_⟩
  ·cases j with
   | zero => exact h1 b hb
   | succ j => exact h2 b (d1 j b hb)
  ·cases j with
   | zero =>
    cases j' with
    | zero => rfl
    | succ j' => exact absurd (d1 j' b hb') (h3 b hb)
   | succ j =>
    cases j' with
    | zero => exact absurd (d1 j b hb) (h3 b hb')
    | succ j' => rw [d2 j j' b hb hb']
  ·cases j with
   | zero => simp only [List.getElem?_cons_zero, Option.some.injEq] at hc; subst hc; exact ⟨u, h4, h5⟩
   | succ j =>
    obtain ⟨u', g1, g2⟩ := d3 j c' (by simpa using hc)
    exact ⟨u', by rw [← g1]; congr 1; omega, g2⟩
theorem repDR_get {w : World} {cur : Array Value} {size : Nat} : ∀ {xs : List (List AV)} {S : Nat → Prop} {o : Nat}, (∀ x ∈ xs, x.length = size) → RepDR S w xs cur o → ∃ D : Nat → Nat → Nat → Prop, (∀ i j b, D i j b → S b) ∧
  (∀ i j i' j' b, D i j b → D i' j' b → i = i' ∧ j = j') ∧ ∀ (i : Nat) x, xs[i]? = some x → ∀ (j : Nat) c, x[j]? = some c → ∃ u, cur[o + i * size + j]? = some u ∧ RepD (D i j) w c u
 | [], _, _, _, _ => ⟨fun _ _ _ => False, fun _ _ _ h => h.elim, fun _ _ _ _ _ h => h.elim, fun i x h => by simp at h⟩
 | x :: r, S, o, hs, h => by
  simp only [RepDR] at h
  obtain ⟨S1, S2, h1, h2, h3, h4, h5⟩ := h
  obtain ⟨E, e1, e2, e3⟩ := repDC_get h4
  obtain ⟨D, d1, d2, d3⟩ := repDR_get (fun x hx => hs x (by simp [hx])) h5
  refine ⟨fun i => match i with | 0 => E | i + 1 => D i, fun i j b hb => ?_, fun i j i' j' b hb hb' => ?_, fun i y hy j c hc => ?_⟩
  ·cases i with
   | zero => exact h1 b (e1 j b hb)
   | succ i => exact h2 b (d1 i j b hb)
  ·cases i with
   | zero =>
    cases i' with
    | zero => exact ⟨rfl, e2 j j' b hb hb'⟩
    | succ i' => exact absurd (d1 i' j' b hb') (h3 b (e1 j b hb))
   | succ i =>
    cases i' with
    | zero => exact absurd (d1 i j b hb) (h3 b (e1 j' b hb'))
    | succ i' =>
     obtain ⟨q1, q2⟩ := d2 i j i' j' b hb hb'
     exact ⟨by rw [q1], q2⟩
  ·cases i with
   | zero =>
    simp only [List.getElem?_cons_zero, Option.some.injEq] at hy; subst hy
    obtain ⟨u, g1, g2⟩ := e3 j c hc
    exact ⟨u, by rw [← g1]; congr 1; omega, g2⟩
   | succ i =>
    obtain ⟨u, g1, g2⟩ := d3 i y (by simpa using hy) j c hc
    rw [hs x (by simp)] at g1
    exact ⟨u, by rw [← g1]; congr 1; rw [Nat.add_mul]; omega, g2⟩
variable {P : Program} {F : Nat → Prop} {os : List Own} {s : St} {a : Act} {w : World} {k : Nat}
theorem ownOK_repD {p : Own} (h : OwnOK F w os p) (hd : deepR p.row.xs) {v : Value} (hv : (p.blk = none ∧ ∃ a, v = .slice a p.row.xs.length 0) ∨ ∃ b, p.blk = some b ∧ v = .slice (some ⟨b, 0, none⟩) p.row.xs.length p.cap) :
  RepD p.owns w (.dv p.row.elem p.row.size p.row.xs) v := by
 simp only [RepD]
 refine ⟨h.pos, ?_⟩
 rcases hv with ⟨hb, a, rfl⟩ | ⟨b, hb, rfl⟩
 ·have := (h.none hb).1
  exact .inl ⟨this, a, by rw [this]; rfl⟩
 ·obtain ⟨_, cur, hcur, hsz, hle, hmax, hcells⟩ := h.some b hb
  obtain ⟨D, d1, d2, d3⟩ := h.deep
  refine .inr ⟨b, p.cap, cur, rfl, hle, hmax, .inl hb, hcur, hsz, fun x hx => (h.lens x hx).1, ?_⟩
  have := repDR_mk (w := w) (cur := cur) (size := p.row.size) d2 p.row.xs 0 0 (fun x hx => (h.lens x hx).1) (fun i x hx j c hc => by
   simp only [Nat.zero_add]
   by_cases hdv : ∃ e s ys, c = .dv e s ys
   ·obtain ⟨e, s, ys, rfl⟩ := hdv
    exact d3 b hb cur _ _ hcur i x j e s ys hx hc
   ·obtain ⟨u, g1, g2⟩ := hcells i x hx j c hc
    exact ⟨u, g1, repD_of_rep (hd x (List.mem_of_getElem? hx) c (List.mem_of_getElem? hc)) (fun e s ys e' => hdv ⟨e, s, ys, e'⟩) g2⟩)
  exact repDR_mono (fun c ⟨i, j, _, hc⟩ => ⟨.inr (d1 i j c hc), fun e => (h.mo c (d1 i j c hc)).2.2 (by rw [hb, e])⟩) (fun _ _ => rfl) _ _ _ this
theorem Wk.adoptD {id m g gm size sz n i j nn : Nat} {el el' : TypeId} {xs ys : List (List AV)} {x : List AV} {e : Nat → AV} {st st' : List Row} (hrow : st[id]? = some ⟨g, el, size, xs⟩) (hx : xs[i]? = some x) (hc : x[j]? = some (.own m gm n))
  (hm : st[m]? = some ⟨gm, el', sz, ys⟩) (hn : n = ys.length) (hne : id ≠ m) (hkm : k ≤ m) (hd : deepR ys) (hst : (st.set id ⟨g, el, size, xs.set i (x.set j (.dv el' sz ys))⟩).set m ⟨gm + 1, el', sz, []⟩ = st') :
  Wk k ⟨nn, e, st⟩ ⟨nn, e, st'⟩ := fun F os a w hr => by
 subst hst; subst hn
 obtain ⟨o, ho, hor⟩ := hr.row hrow
 obtain ⟨p, hp, hpr⟩ := hr.row hm
 have hok := hr.rows id o ho
 have hpk := hr.rows m p hp
 have hst : os.map Own.row = st := hr.st
 have hxs : o.row.xs = xs := by rw [hor]
 have hpx : p.row.xs = ys := by rw [hpr]
 let o' : Own := { o with row := { o.row with xs := xs.set i (x.set j (.dv el' sz ys)) }, more := fun b => o.more b ∨ p.owns b }
 let p' : Own := ⟨{ p.row with gen := p.row.gen + 1, xs := [] }, none, 0, none'⟩
 have hil : i < xs.length := (List.getElem?_eq_some_iff.1 hx).1
 have hjl : j < x.length := (List.getElem?_eq_some_iff.1 hc).1
 have hidl := (List.getElem?_eq_some_iff.1 ho).1
 have hml := (List.getElem?_eq_some_iff.1 hp).1
 have hdis : ∀ b, o.owns b → ¬ p.owns b := fun b h1 h2 => hne (hr.inj id m o p b ho hp h1 h2)
 have hget : ∀ (q : Nat) (oq : Own), ((os.set id o').set m p')[q]? = some oq → (q ≠ id ∧ q ≠ m ∧ os[q]? = some oq) ∨ (q = id ∧ oq = o') ∨ (q = m ∧ oq = p') := fun q oq hq => by
  by_cases e : q = m
  ·subst e
   rw [List.getElem?_set_self (by simpa using hml), Option.some.injEq] at hq
   exact .inr (.inr ⟨rfl, hq.symm⟩)
  ·rw [List.getElem?_set_ne (Ne.symm e)] at hq
   by_cases e2 : q = id
   ·subst e2
    rw [List.getElem?_set_self hidl, Option.some.injEq] at hq
    exact .inr (.inl ⟨rfl, hq.symm⟩)
   ·rw [List.getElem?_set_ne (Ne.symm e2)] at hq
    exact .inl ⟨e2, e, hq⟩
 have hos : HosLe os ((os.set id o').set m p') := fun q oq hq => by
  by_cases e : q = m
  ·subst e
   rw [hp] at hq; cases hq
   exact ⟨p', List.getElem?_set_self (by simpa using hml), Nat.le_succ _, rfl, fun e => by simp [p'] at e⟩
  ·rw [List.getElem?_set_ne (Ne.symm e)]
   by_cases e2 : q = id
   ·subst e2
    rw [ho] at hq; cases hq
    exact ⟨o', List.getElem?_set_self hidl, Nat.le_refl _, rfl, fun _ => ⟨rfl, rfl, by simp [o', hxs]⟩⟩
   ·rw [List.getElem?_set_ne (Ne.symm e2)]
    exact ⟨oq, hq, Nat.le_refl _, rfl, fun _ => ⟨rfl, rfl, rfl⟩⟩
 have hmono : ∀ y v, Rep F w os y v → Rep F w ((os.set id o').set m p') y v := fun y v h => rep_mono (fun _ h => h) (fun _ _ => rfl) os _ hos y v h
 have howns : ∀ b, o'.owns b → o.owns b ∨ p.owns b := fun b hb => by
  rcases hb with hb | hb | hb
  ·exact .inl (.inl hb)
  ·exact .inl (.inr hb)
  ·exact .inr hb
 have hpn : ∀ b, ¬ p'.owns b := fun b hb => by
  rcases hb with hb | hb
  ·simp [p'] at hb
  ·exact hb
 obtain ⟨bo, hbo⟩ : ∃ b, o.blk = some b := by
  cases hb : o.blk with
  | none => have := (hok.none hb).1; rw [hxs] at this; rw [this] at hil; simp at hil
  | some b => exact ⟨b, rfl⟩
 obtain ⟨hnF, cur, hcur, hsz, hle, hmax, hcells⟩ := hok.some bo hbo
 obtain ⟨uv, hu1, hu2⟩ := hcells i x (by rw [hxs]; exact hx) j _ hc
 have huv : (p.blk = none ∧ ∃ a, uv = .slice a p.row.xs.length 0) ∨ ∃ b, p.blk = some b ∧ uv = .slice (some ⟨b, 0, none⟩) p.row.xs.length p.cap := by
  simp only [Rep] at hu2
  obtain ⟨q, hq, _, _, hv⟩ := hu2
  rw [hp] at hq; cases hq
  have := (hv (by rw [hpr])).2
  rw [hpx]; exact this
 have hRD : RepD p.owns w (.dv el' sz ys) uv := by
  have := ownOK_repD hpk (by rw [hpx]; exact hd) huv
  rw [hpr] at this; exact this
 refine ⟨F, (os.set id o').set m p', ⟨?_, fun t => hmono _ _ (hr.env t), hr.size, fun q oq hq => ?_, fun q q' oq oq' b hq hq' hb hb' => ?_, hr.old, hr.defers⟩, ⟨rfl, rfl, rfl, Nat.le_refl _, fun _ h => h, fun _ _ => rfl, fun b _ h1 h2 => ⟨rfl, h1, fun oq hoq hb => ?_⟩, fun q oq _ hq => hos q oq hq⟩⟩
 ·rw [List.map_set, List.map_set, hst]
  simp only [o', p', hor, hpr]
 ·rcases hget q oq hq with ⟨_, _, h⟩ | ⟨_, rfl⟩ | ⟨_, rfl⟩
  ·have h0 := hr.rows q oq h
   refine ⟨h0.pos, h0.lens, h0.none, fun b hb => ?_, h0.mo, h0.deep⟩
   obtain ⟨e1, cur, e2, e3, e4, e5, e6⟩ := h0.some b hb
   exact ⟨e1, cur, e2, e3, e4, e5, fun i' y hy j' c hc => by obtain ⟨u, f1, f2⟩ := e6 i' y hy j' c hc; exact ⟨u, f1, hmono _ _ f2⟩⟩
  ·refine ⟨hok.pos, fun y hy => ?_, (fun hn => by simp only [o'] at hn; rw [hbo] at hn; cases hn), fun b hb => ?_, fun b hb => ?_, ?_⟩
   ·rcases List.mem_or_eq_of_mem_set hy with hy | rfl
    ·exact hok.lens y (by rw [hxs]; exact hy)
    ·have h0 := hok.lens x (by rw [hxs]; exact List.mem_of_getElem? hx)
     refine ⟨by rw [List.length_set]; exact h0.1, fun c hcm => ?_⟩
     rcases List.mem_or_eq_of_mem_set hcm with h | rfl
     ·exact h0.2 c h
     ·rfl
   ·simp only [o'] at hb
    rw [hbo] at hb; cases hb
    refine ⟨hnF, cur, hcur, hsz, by simpa [o', hxs] using hle, hmax, fun i' y hy j' c hcy => ?_⟩
    simp only [o'] at hy ⊢
    by_cases hi : i' = i
    ·subst hi
     rw [List.getElem?_set_self hil, Option.some.injEq] at hy
     subst hy
     by_cases hj : j' = j
     ·subst hj
      rw [List.getElem?_set_self hjl, Option.some.injEq] at hcy
      subst hcy
      exact ⟨uv, hu1, (rep_of_repD hRD).1⟩
     ·rw [List.getElem?_set_ne (Ne.symm hj)] at hcy
      obtain ⟨u, f1, f2⟩ := hcells i' x (by rw [hxs]; exact hx) j' c hcy
      exact ⟨u, f1, hmono _ _ f2⟩
    ·rw [List.getElem?_set_ne (Ne.symm hi)] at hy
     obtain ⟨u, f1, f2⟩ := hcells i' y (by rw [hxs]; exact hy) j' c hcy
     exact ⟨u, f1, hmono _ _ f2⟩
   ·rcases hb with hb | hb
    ·exact hok.mo b hb
    ·exact ⟨hpk.nF hb, hpk.lt hb, fun e => hdis b (.inl e) hb⟩
   ·obtain ⟨D, d1, d2, d3⟩ := hok.deep
    refine ⟨fun i' j' b => if i' = i ∧ j' = j then p.owns b else D i' j' b, fun i' j' b hb => ?_, fun i1 j1 i2 j2 b h1 h2 => ?_, fun b hb cur' el2 l hcur' i' y j' e2 s2 zs hy hcy => ?_⟩
    ·simp only at hb
     split at hb
     ·exact .inr hb
     ·exact .inl (d1 i' j' b hb)
    ·simp only at h1 h2
     split at h1 <;> split at h2
     ·rename_i q1 q2; exact ⟨q1.1.trans q2.1.symm, q1.2.trans q2.2.symm⟩
     ·exact absurd h1 (hdis b (.inr (d1 _ _ _ h2)))
     ·exact absurd h2 (hdis b (.inr (d1 _ _ _ h1)))
     ·exact d2 _ _ _ _ _ h1 h2
    ·simp only [o'] at hb hy ⊢
     rw [hbo] at hb; cases hb
     rw [hcur] at hcur'; cases hcur'
     by_cases hij : i' = i ∧ j' = j
     ·obtain ⟨rfl, rfl⟩ := hij
      rw [List.getElem?_set_self hil, Option.some.injEq] at hy
      subst hy
      rw [List.getElem?_set_self hjl, Option.some.injEq] at hcy
      cases hcy
      exact ⟨uv, hu1, by simpa using hRD⟩
     ·have hold : ∃ y0, o.row.xs[i']? = some y0 ∧ y0[j']? = some (.dv e2 s2 zs) := by
       rw [hxs]
       by_cases hi : i' = i
       ·subst hi
        rw [List.getElem?_set_self hil, Option.some.injEq] at hy
        subst hy
        have hj : j' ≠ j := fun e => hij ⟨rfl, e⟩
        rw [List.getElem?_set_ne (Ne.symm hj)] at hcy
        exact ⟨x, hx, hcy⟩
       ·rw [List.getElem?_set_ne (Ne.symm hi)] at hy
        exact ⟨y, hy, hcy⟩
      obtain ⟨y0, hy0, hc0⟩ := hold
      obtain ⟨u, f1, f2⟩ := d3 bo hbo cur _ _ hcur i' y0 j' e2 s2 zs hy0 hc0
      exact ⟨u, f1, by simpa only [hij, if_false] using f2⟩
  ·exact ⟨hpk.pos, by simp [p'], by simp [p'], by simp [p'], fun b hb => hb.elim, DeepOK.flat (by simp [p'])⟩
 ·rcases hget q oq hq with ⟨q1, q2, h⟩ | ⟨rfl, rfl⟩ | ⟨_, rfl⟩ <;> rcases hget q' oq' hq' with ⟨q1', q2', h'⟩ | ⟨rfl, rfl⟩ | ⟨_, rfl⟩
  ·exact hr.inj q q' oq oq' b h h' hb hb'
  ·rcases howns b hb' with e | e
   ·exact hr.inj q _ oq o b h ho hb e
   ·exact absurd (hr.inj q m oq p b h hp hb e) q2
  ·exact absurd hb' (hpn b)
  ·rcases howns b hb with e | e
   ·exact hr.inj _ q' o oq' b ho h' e hb'
   ·exact absurd (hr.inj m q' p oq' b hp h' e hb').symm q2'
  ·rfl
  ·exact absurd hb' (hpn b)
  ·exact absurd hb (hpn b)
  ·exact absurd hb (hpn b)
  ·exact absurd hb (hpn b)
 ·obtain ⟨q, hq⟩ := List.mem_iff_getElem?.1 hoq
  rcases hget q oq hq with ⟨_, _, h⟩ | ⟨_, rfl⟩ | ⟨_, rfl⟩
  ·exact h2 oq (List.mem_of_getElem? h) hb
  ·rcases howns b hb with e | e
   ·exact h2 o (List.mem_of_getElem? ho) e
   ·exact h2 p (List.mem_of_getElem? hp) e
  ·exact hpn b hb
end Go.Abs



namespace Go.Abs
open Go
variable {P : Program} {F : Nat → Prop} {os : List Own} {s : St} {a : Act} {w : World} {k : Nat}
theorem own_of_repD {S : Nat → Prop} {el sz : Nat} {ys : List (List AV)} {u : Value} (hS : ∀ b, S b → ¬ F b ∧ b < w.heap.size) (h : RepD S w (.dv el sz ys) u) :
  ∃ p : Own, p.row = ⟨0, el, sz, ys⟩ ∧ (∀ b, p.owns b → S b) ∧ (∀ os, OwnOK F w os p) ∧ ((p.blk = none ∧ ∃ a, u = .slice a ys.length 0) ∨ ∃ b, p.blk = some b ∧ u = .slice (some ⟨b, 0, none⟩) ys.length p.cap) := by
 simp only [RepD] at h
 obtain ⟨hp, h⟩ := h
 rcases h with ⟨rfl, a, rfl⟩ | ⟨b, cap, cur, rfl, h2, h3, h4, h5, h6, h7, h8⟩
 ·refine ⟨⟨⟨0, el, sz, []⟩, none, 0, none'⟩, rfl, fun b hb => ?_, fun os => ⟨hp, by simp, by simp, by simp, fun b hb => hb.elim, DeepOK.flat (by simp)⟩, .inl ⟨rfl, a, rfl⟩⟩
  rcases hb with hb | hb
  ·cases hb
  ·exact hb.elim
 ·obtain ⟨D, d1, d2, d3⟩ := repDR_get h7 h8
  refine ⟨⟨⟨0, el, sz, ys⟩, some b, cap, fun c => S c ∧ c ≠ b⟩, rfl, fun c hc => ?_, fun os => ⟨hp, fun x hx => ⟨h7 x hx, fun c hc => ?_⟩, by simp, fun b' hb' => ?_, fun c hc => ⟨(hS c hc.1).1, (hS c hc.1).2, fun e => hc.2 (by simpa using e.symm)⟩, ⟨D, d1, d2, fun b' hb' cur' el2 l hcur' i x j e s zs hx hc => ?_⟩⟩, .inr ⟨b, rfl, rfl⟩⟩
  ·rcases hc with hc | hc
   ·cases hc; exact h4
   ·exact hc.1
  ·obtain ⟨i, hi⟩ := List.mem_iff_getElem?.1 hx
   obtain ⟨j, hj⟩ := List.mem_iff_getElem?.1 hc
   obtain ⟨u, _, g2⟩ := d3 i x hi j c hj
   exact (rep_of_repD (F := F) (os := os) g2).2.1
  ·simp only [Option.some.injEq] at hb'
   subst hb'
   refine ⟨(hS _ h4).1, cur, h5, h6, h2, h3, fun i x hx j c hc => ?_⟩
   obtain ⟨u, g1, g2⟩ := d3 i x hx j c hc
   exact ⟨u, by simpa using g1, (rep_of_repD g2).1⟩
  ·simp only [Option.some.injEq] at hb'
   subst hb'
   rw [h5] at hcur'; cases hcur'
   obtain ⟨u, g1, g2⟩ := d3 i x hx j _ hc
   exact ⟨u, by simpa using g1, g2⟩
theorem Wk.expelD {id m g size sz n i j nn : Nat} {el el' : TypeId} {xs ys : List (List AV)} {x : List AV} {e : Nat → AV} {st st' : List Row} (hrow : st[id]? = some ⟨g, el, size, xs⟩) (hx : xs[i]? = some x) (hc : x[j]? = some (.dv el' sz ys))
  (hm : st.length = m) (hn : n = ys.length) (hst : st.set id ⟨g, el, size, xs.set i (x.set j (.own m 0 n))⟩ ++ [⟨0, el', sz, ys⟩] = st') : Wk k ⟨nn, e, st⟩ ⟨nn, e, st'⟩ := fun F os a w hr => by
 subst hst; subst hn; subst hm
 obtain ⟨o, ho, hor⟩ := hr.row hrow
 have hok := hr.rows id o ho
 have hst : os.map Own.row = st := hr.st
 have hol : os.length = st.length := by rw [← hst]; simp
 have hxs : o.row.xs = xs := by rw [hor]
 have hil : i < xs.length := (List.getElem?_eq_some_iff.1 hx).1
 have hjl : j < x.length := (List.getElem?_eq_some_iff.1 hc).1
 have hidl := (List.getElem?_eq_some_iff.1 ho).1
 obtain ⟨bo, hbo⟩ : ∃ b, o.blk = some b := by
  cases hb : o.blk with
  | none => have := (hok.none hb).1; rw [hxs] at this; rw [this] at hil; simp at hil
  | some b => exact ⟨b, rfl⟩
 obtain ⟨hnF, cur, hcur, hsz, hle, hmax, hcells⟩ := hok.some bo hbo
 obtain ⟨D, d1, d2, d3⟩ := hok.deep
 obtain ⟨uv, hu1, hu2⟩ := d3 bo hbo cur _ _ hcur i x j el' sz ys (by rw [hxs]; exact hx) hc
 obtain ⟨p, hpr, hpo, hpk, hpv⟩ := own_of_repD (F := F) (fun b hb => ⟨(hok.mo b (d1 _ _ _ hb)).1, (hok.mo b (d1 _ _ _ hb)).2.1⟩) hu2
 let o' : Own := { o with row := { o.row with xs := xs.set i (x.set j (.own st.length 0 ys.length)) }, more := fun b => o.more b ∧ ¬ D i j b }
 have hget : ∀ (q : Nat) (oq : Own), (os.set id o' ++ [p])[q]? = some oq → (q ≠ id ∧ q < os.length ∧ os[q]? = some oq) ∨ (q = id ∧ oq = o') ∨ (q = os.length ∧ oq = p) := fun q oq hq => by
  rcases Nat.lt_trichotomy q os.length with h | h | h
  ·rw [List.getElem?_append_left (by simpa using h)] at hq
   by_cases e2 : q = id
   ·subst e2
    rw [List.getElem?_set_self hidl, Option.some.injEq] at hq
    exact .inr (.inl ⟨rfl, hq.symm⟩)
   ·rw [List.getElem?_set_ne (Ne.symm e2)] at hq
    exact .inl ⟨e2, h, hq⟩
  ·subst h
   rw [List.getElem?_append_right (by simp)] at hq
   simp at hq
   exact .inr (.inr ⟨rfl, hq.symm⟩)
  ·rw [List.getElem?_eq_none (by simp; omega)] at hq; cases hq
 have hpget : (os.set id o' ++ [p])[st.length]? = some p := by
  rw [List.getElem?_append_right (by simp; omega)]
  simp [hol]
 have hos : HosLe os (os.set id o' ++ [p]) := fun q oq hq => by
  have hql := (List.getElem?_eq_some_iff.1 hq).1
  rw [List.getElem?_append_left (by simpa using hql)]
  by_cases e2 : q = id
  ·subst e2
   rw [ho] at hq; cases hq
   exact ⟨o', List.getElem?_set_self hidl, Nat.le_refl _, rfl, fun _ => ⟨rfl, rfl, by simp [o', hxs]⟩⟩
  ·rw [List.getElem?_set_ne (Ne.symm e2)]
   exact ⟨oq, hq, Nat.le_refl _, rfl, fun _ => ⟨rfl, rfl, rfl⟩⟩
 have hmono : ∀ y v, Rep F w os y v → Rep F w (os.set id o' ++ [p]) y v := fun y v h => rep_mono (fun _ h => h) (fun _ _ => rfl) os _ hos y v h
 have ho'o : ∀ b, o'.owns b → o.owns b := fun b hb => by
  rcases hb with hb | hb
  ·exact .inl hb
  ·exact .inr hb.1
 have hpoo : ∀ b, p.owns b → o.owns b := fun b hb => .inr (d1 _ _ _ (hpo b hb))
 have hdis : ∀ b, o'.owns b → ¬ p.owns b := fun b h1 h2 => by
  have h3 := hpo b h2
  rcases h1 with h1 | h1
  ·exact (hok.mo b (d1 _ _ _ h3)).2.2 h1
  ·exact h1.2 h3
 have hnew : Rep F w (os.set id o' ++ [p]) (.own st.length 0 ys.length) uv := by
  simp only [Rep]
  refine ⟨p, hpget, Nat.zero_le _, ?_, fun _ => ⟨by rw [hpr]; exact Nat.le_refl _, hpv⟩⟩
  rcases hpv with ⟨_, a, rfl⟩ | ⟨b, _, rfl⟩ <;> exact ⟨_, _, _, rfl⟩
 refine ⟨F, os.set id o' ++ [p], ⟨?_, fun t => hmono _ _ (hr.env t), hr.size, fun q oq hq => ?_, fun q q' oq oq' b hq hq' hb hb' => ?_, hr.old, hr.defers⟩, ⟨rfl, rfl, rfl, Nat.le_refl _, fun _ h => h, fun _ _ => rfl, fun b _ h1 h2 => ⟨rfl, h1, fun oq hoq hb => ?_⟩, fun q oq _ hq => hos q oq hq⟩⟩
 ·rw [List.map_append, List.map_set, hst]
  simp only [o', hor, List.map_cons, List.map_nil, hpr]
 ·rcases hget q oq hq with ⟨_, _, h⟩ | ⟨_, rfl⟩ | ⟨_, rfl⟩
  ·have h0 := hr.rows q oq h
   refine ⟨h0.pos, h0.lens, h0.none, fun b hb => ?_, h0.mo, h0.deep⟩
   obtain ⟨e1, cur, e2, e3, e4, e5, e6⟩ := h0.some b hb
   exact ⟨e1, cur, e2, e3, e4, e5, fun i' y hy j' c hc => by obtain ⟨u, f1, f2⟩ := e6 i' y hy j' c hc; exact ⟨u, f1, hmono _ _ f2⟩⟩
  ·refine ⟨hok.pos, fun y hy => ?_, (fun hn => by simp only [o'] at hn; rw [hbo] at hn; cases hn), fun b hb => ?_, fun b hb => hok.mo b hb.1, ?_⟩
   ·rcases List.mem_or_eq_of_mem_set hy with hy | rfl
    ·exact hok.lens y (by rw [hxs]; exact hy)
    ·have h0 := hok.lens x (by rw [hxs]; exact List.mem_of_getElem? hx)
     refine ⟨by rw [List.length_set]; exact h0.1, fun c hcm => ?_⟩
     rcases List.mem_or_eq_of_mem_set hcm with h | rfl
     ·exact h0.2 c h
     ·rfl
   ·simp only [o'] at hb
    rw [hbo] at hb; cases hb
    refine ⟨hnF, cur, hcur, hsz, by simpa [o', hxs] using hle, hmax, fun i' y hy j' c hcy => ?_⟩
    simp only [o'] at hy ⊢
    by_cases hi : i' = i
    ·subst hi
     rw [List.getElem?_set_self hil, Option.some.injEq] at hy
     subst hy
     by_cases hj : j' = j
     ·subst hj
      rw [List.getElem?_set_self hjl, Option.some.injEq] at hcy
      subst hcy
      exact ⟨uv, hu1, hnew⟩
     ·rw [List.getElem?_set_ne (Ne.symm hj)] at hcy
      obtain ⟨u, f1, f2⟩ := hcells i' x (by rw [hxs]; exact hx) j' c hcy
      exact ⟨u, f1, hmono _ _ f2⟩
    ·rw [List.getElem?_set_ne (Ne.symm hi)] at hy
     obtain ⟨u, f1, f2⟩ := hcells i' y (by rw [hxs]; exact hy) j' c hcy
     exact ⟨u, f1, hmono _ _ f2⟩
   ·refine ⟨fun i' j' b => if i' = i ∧ j' = j then False else D i' j' b, fun i' j' b hb => ?_, fun i1 j1 i2 j2 b h1 h2 => ?_, fun b hb cur' el2 l hcur' i' y j' e2 s2 zs hy hcy => ?_⟩
    ·simp only at hb
     split at hb
     ·exact hb.elim
     ·rename_i hij
      exact ⟨d1 i' j' b hb, fun h => hij (d2 _ _ _ _ _ hb h)⟩
    ·simp only at h1 h2
     split at h1 <;> split at h2 <;> first | exact h1.elim | exact h2.elim | exact d2 _ _ _ _ _ h1 h2
    ·simp only [o'] at hb hy ⊢
     rw [hbo] at hb; cases hb
     rw [hcur] at hcur'; cases hcur'
     have hold : (¬ (i' = i ∧ j' = j)) ∧ ∃ y0, o.row.xs[i']? = some y0 ∧ y0[j']? = some (.dv e2 s2 zs) := by
      rw [hxs]
      by_cases hi : i' = i
      ·subst hi
       rw [List.getElem?_set_self hil, Option.some.injEq] at hy
       subst hy
       by_cases hj : j' = j
       ·subst hj
        rw [List.getElem?_set_self hjl, Option.some.injEq] at hcy
        cases hcy
       ·rw [List.getElem?_set_ne (Ne.symm hj)] at hcy
        exact ⟨fun h => hj h.2, x, hx, hcy⟩
      ·rw [List.getElem?_set_ne (Ne.symm hi)] at hy
       exact ⟨fun h => hi h.1, y, hy, hcy⟩
     obtain ⟨hij, y0, hy0, hc0⟩ := hold
     obtain ⟨u, f1, f2⟩ := d3 bo hbo cur _ _ hcur i' y0 j' e2 s2 zs hy0 hc0
     exact ⟨u, f1, by simpa only [hij, if_false] using f2⟩
  ·exact hpk _
 ·rcases hget q oq hq with ⟨q1, q2, h⟩ | ⟨rfl, rfl⟩ | ⟨rfl, rfl⟩ <;> rcases hget q' oq' hq' with ⟨q1', q2', h'⟩ | ⟨rfl, rfl⟩ | ⟨rfl, rfl⟩
  ·exact hr.inj q q' oq oq' b h h' hb hb'
  ·exact hr.inj q _ oq o b h ho hb (ho'o b hb')
  ·exact absurd (hr.inj q id oq o b h ho hb (hpoo b hb')) q1
  ·exact hr.inj _ q' o oq' b ho h' (ho'o b hb) hb'
  ·rfl
  ·exact absurd hb' (hdis b hb)
  ·exact absurd (hr.inj id q' o oq' b ho h' (hpoo b hb) hb').symm q1'
  ·exact absurd hb (hdis b hb')
  ·rfl
 ·obtain ⟨q, hq⟩ := List.mem_iff_getElem?.1 hoq
  rcases hget q oq hq with ⟨_, _, h⟩ | ⟨_, rfl⟩ | ⟨_, rfl⟩
  ·exact h2 oq (List.mem_of_getElem? h) hb
  ·exact h2 o (List.mem_of_getElem? ho) (ho'o b hb)
  ·exact h2 o (List.mem_of_getElem? ho) (hpoo b hb)
variable {α β : Type} {l : List α} {enc : α → List AV}
def hole (l : List α) (enc : α → List AV) (i : Int) (x : List AV) : List (List AV) := (l.map enc).set i.toNat x
theorem hole_full {i : Int} {u : α} {x : List AV} (h : x = enc u) : hole l enc i x = (Sh.put l i u).map enc := by subst h; exact map_put
theorem hole_get {i : Int} {u : α} {x : List AV} (h : Sh.get l i = some u) : (hole l enc i x)[i.toNat]? = some x := by
 have := (Sh.get_some h).2.2
 have h0 := (Sh.get_some h).1
 exact List.getElem?_set_self (by simp; omega)
theorem hole_set {i : Int} {x y : List AV} : (hole l enc i x).set i.toNat y = hole l enc i y := by unfold hole; rw [List.set_set]
theorem Wk.expel {id m g size sz nn j : Nat} {el el' : TypeId} {i : Int} {c : α} {ys : List β} {encY : β → List AV} {x x' : List AV} {e : Nat → AV} {st st' : List Row} (hrow : st[id]? = some ⟨g, el, size, l.map enc⟩) (hi : Sh.get l i = some c) (hx : enc c = x) (hc : x[j]? = some (.dv el' sz (ys.map encY)))
  (hm : st.length = m) (hx' : x.set j (.own m 0 ys.length) = x') (hst : st.set id ⟨g, el, size, hole l enc i x'⟩ ++ [⟨0, el', sz, ys.map encY⟩] = st') : Wk k ⟨nn, e, st⟩ ⟨nn, e, st'⟩ := by
 subst hst; subst hx'; subst hx
 exact Wk.expelD hrow (map_get hi) hc hm (n := ys.length) (by simp) rfl
theorem Wk.take {id m g gm size sz nn j n : Nat} {el el' : TypeId} {i : Int} {c : α} {ys : List β} {encY : β → List AV} {x x' : List AV} {e : Nat → AV} {st st' : List Row} (hrow : st[id]? = some ⟨g, el, size, hole l enc i x⟩) (hi : Sh.get l i = some c) (hc : x[j]? = some (.own m gm n))
  (hm : st[m]? = some ⟨gm, el', sz, ys.map encY⟩) (hn : n = ys.length) (hne : id ≠ m) (hkm : k ≤ m) (hd : ∀ y, (encY y).all deepC = true) (hx' : x.set j (.dv el' sz (ys.map encY)) = x') (hst : (st.set id ⟨g, el, size, hole l enc i x'⟩).set m ⟨gm + 1, el', sz, []⟩ = st') :
  Wk k ⟨nn, e, st⟩ ⟨nn, e, st'⟩ := by
 subst hst; subst hx'
 refine Wk.adoptD hrow (hole_get hi) hc hm (by simpa using hn) hne hkm (fun y hy c hc => ?_) (by rw [hole_set])
 obtain ⟨z, _, rfl⟩ := List.mem_map.1 hy
 exact List.all_eq_true.1 (hd z) c hc
theorem Wk.filled {id g size nn : Nat} {el : TypeId} {i : Int} {u : α} {x : List AV} {e : Nat → AV} {st st' : List Row} (hrow : st[id]? = some ⟨g, el, size, hole l enc i x⟩) (hx : x = enc u) (hst : st.set id ⟨g, el, size, (Sh.put l i u).map enc⟩ = st') : Wk k ⟨nn, e, st⟩ ⟨nn, e, st'⟩ := by
 rw [hole_full hx] at hrow
 have : st.set id ⟨g, el, size, (Sh.put l i u).map enc⟩ = st := by
  obtain ⟨h1, h2⟩ := List.getElem?_eq_some_iff.1 hrow
  rw [← h2]; exact List.set_getElem_self h1
 rw [this] at hst
 exact Wk.steq hst
section
variable {ops : Array Oper} {Q : Exit → St → Prop} {ds : List (Option Tmp)} {r : List Oper} {n : Nat} {e : Nat → AV} {st st' : List Row} {ty : TypeId} {ps : String} {ed : Array Edge} {t : Tmp} {v : AV} {gd : Option (Nat × Bool)} {T : TypeId} {x y : Operand} {ag : Bool} {sz id g size : Nat} {el : TypeId} {cs : List AV} {c : α} {i : Int}
theorem ao_sth (hg : GO ds gd e) (ht : tinfo P T = some (ag, sz)) (hx : St.ev ⟨n, e, st⟩ x = .ptr id g i.toNat 0) (hr : st[id]? = some ⟨g, el, size, l.map enc⟩) (hi : Sh.get l i = some c) (hv : St.ev ⟨n, e, st⟩ y = v) (hc : cellsV v = some cs) (hn : cs.length = sz) (hle : cs.length ≤ size)
  (hlen : (enc c).length = cs.length) (hst : st.set id ⟨g, el, size, hole l enc i cs⟩ = st') (hk : AO P k ops Q (ds ++ [none]) r ⟨n, e, st'⟩) : AO P k ops Q ds (⟨none, .store T x y, ty, ps, ed, gd⟩ :: r) ⟨n, e, st⟩ := by
 refine ao_str hg ht hx hr (map_get hi) hv hc hn (by omega) ?_ hk
 rw [← hst]
 have : splice (enc c) 0 cs = cs := by
  unfold splice
  rw [List.take_zero, List.nil_append, Nat.zero_add, List.drop_eq_nil_of_le (by omega), List.append_nil]
 rw [this]; rfl
end
end Go.Abs



namespace Go.Abs
open Go
variable {P : Program} {F : Nat → Prop} {os : List Own} {s : St} {a : Act} {w : World} {k : Nat}
theorem Rel.addRowD (hr : Rel F os s a w) {cur : Array Value} {e : TypeId} {size cap : Nat} {xs : List (List AV)} (hpos : 0 < size) (hlens : ∀ x ∈ xs, x.length = size ∧ ∀ c ∈ x, c.kept = true)
  (hsz : cur.size = cap * size) (hle : xs.length ≤ cap) (hmax : cap ≤ maxLen)
  (hcells : ∀ (i : Nat) x, xs[i]? = some x → ∀ (j : Nat) c, x[j]? = some c → ∃ u, cur[i * size + j]? = some u ∧ Rep F w os c u ∧ ∀ e s ys, c = .dv e s ys → RepD none' w c u) :
  let o : Own := ⟨⟨0, e, size, xs⟩, some w.heap.size, cap, none'⟩
  Rel F (os ++ [o]) { s with st := s.st ++ [o.row] } a (w.alloc (.cells cur e)) ∧ Ext F os w F (os ++ [o]) (w.alloc (.cells cur e)) k := by
 intro o
 have ht : Turns w (w.alloc (.cells cur e)) none := Turns.alloc _ _ _
 have hlt : ∀ (i : Nat) (oi : Own) g, os[i]? = some oi → oi.owns g → g < w.heap.size := fun i oi g hi hg => (hr.rows i oi hi).lt hg
 have hget : ∀ (i : Nat) (oi : Own), (os ++ [o])[i]? = some oi → os[i]? = some oi ∨ (i = os.length ∧ oi = o) := fun i oi hi => by
  rcases Nat.lt_trichotomy i os.length with h | h | h
  ·rw [List.getElem?_append_left h] at hi; exact .inl hi
  ·subst h; simp at hi; exact .inr ⟨rfl, hi.symm⟩
  ·rw [List.getElem?_append_right (by omega), List.getElem?_eq_none (by simp; omega)] at hi; cases hi
 have hold : ∀ x v, Rep F w os x v → Rep F (w.alloc (.cells cur e)) (os ++ [o]) x v := fun x v h =>
  rep_mono (fun _ h => h) (fun g hg => ht.old g (hr.old g hg) (by simp)) os _ (HosLe.append os [o]) x v h
 have hown : ∀ g, o.owns g → g = w.heap.size := fun g hg => by
  simp only [Own.owns, o, none', or_false, Option.some.injEq] at hg; exact hg.symm
 have := hr.onto (k := k) ht (by simp) (os' := os ++ [o]) (HosLe.append os [o]) (fun i oi hi => by
   rcases hget i oi hi with h | ⟨_, rfl⟩
   ·exact .inl ⟨h, by simp⟩
   ·refine .inr ⟨hpos, hlens, by simp [o], fun g hg => ?_, fun g hg => hg.elim, ⟨fun _ _ _ => False, fun _ _ _ h => h.elim, fun _ _ _ _ _ h => h.elim, fun b hb cur' el l hcur' i x j e' s' ys hx hc => ?_⟩⟩
    ·simp only [o, Option.some.injEq] at hg
     subst hg
     refine ⟨fun hF => absurd (hr.old _ hF) (Nat.lt_irrefl _), cur, heap_alloc_new w _, hsz, hle, hmax, fun i' x hx j c hc => ?_⟩
     obtain ⟨u, h1, h2, _⟩ := hcells i' x hx j c hc
     exact ⟨u, h1, hold _ _ h2⟩
    ·simp only [o, Option.some.injEq] at hb
     subst hb
     rw [heap_alloc_new w _] at hcur'
     cases hcur'
     obtain ⟨u, h1, _, h3⟩ := hcells i x hx j _ hc
     exact ⟨u, h1, repD_mono (fun _ h => h.elim) (fun _ h => h.elim) _ u (h3 _ _ _ rfl)⟩)
  (fun i j oi oj g hi hj hgi hgj => by
   rcases hget i oi hi with h | ⟨h, rfl⟩ <;> rcases hget j oj hj with h' | ⟨h', rfl⟩
   ·exact hr.inj i j oi oj g h h' hgi hgj
   ·have := hlt i oi g h hgi; have := hown g hgj; omega
   ·have := hlt j oj g h' hgj; have := hown g hgi; omega
   ·omega)
  (fun o' ho' g hg => by
   rcases List.mem_append.1 ho' with h | h
   ·exact .inr ⟨o', h, hg⟩
   ·simp only [List.mem_singleton] at h; subst h; exact .inl (by have := hown g hg; omega))
  (by simp)
 refine ⟨?_, this.2.1⟩
 have h1 := this.1
 rw [List.map_append, hr.st] at h1
 simpa using h1
def ZD : List AV → List AV → Prop
 | [], [] => True
 | x :: r, y :: r' => ((x = y ∧ x.leaf = true) ∨ (x = .sl [] ∧ ∃ el s, y = .dv el s [] ∧ 0 < s)) ∧ ZD r r'
 | _, _ => False
theorem ZD.len : ∀ {xs ys : List AV}, ZD xs ys → xs.length = ys.length
 | [], [], _ => rfl
 | x :: r, y :: r', h => by simp [ZD.len h.2]
theorem ZD.get : ∀ {xs ys : List AV}, ZD xs ys → ∀ (j : Nat) y, ys[j]? = some y → ∃ x, xs[j]? = some x ∧ ((x = y ∧ x.leaf = true) ∨ (x = .sl [] ∧ ∃ el s, y = .dv el s [] ∧ 0 < s))
 | [], [], _, j, y, h => by simp at h
 | x :: r, y :: r', h, j, z, hz => by
  cases j with
  | zero => simp only [List.getElem?_cons_zero, Option.some.injEq] at hz; subst hz; exact ⟨x, rfl, h.1⟩
  | succ j => exact ZD.get h.2 j z (by simpa using hz)
theorem ofLeafZ_sl {v : Value} (h : ofLeafZ v = .sl []) : v = .slice none 0 0 := by
 unfold ofLeafZ at h
 split at h
 ·rfl
 ·unfold ofLeaf at h
  split at h <;> cases h
theorem aMakeD_ok {t : TypeId} {ei : EInfo} {l c : AV} {ul uc : Value} {zd : List AV} {kl kc : IntKind} {n : Int} (hr : Rel F os s a w) (he : einfo P t = some ei) (hzd : ZD ei.zero zd) (h0 : 0 ≤ n) (hb : n * (ei.bytes : Int) ≤ 281474976710656) (hm : n ≤ 9223372036854775807) (el : l = .int kl n) (ec : c = .int kc n) (hl : Rep F w os l ul) (hc : Rep F w os c uc) :
  Effects P k F os s a w (Instr.makeSlice t ul uc) (fun v st => v = .own s.st.length 0 n.toNat ∧ st = s.st ++ [⟨0, ei.e, ei.size, List.replicate n.toNat zd⟩]) := by
 obtain ⟨inf, z, hu, hi, hz, hzs, hpos, hsz, hby, hzero, hzl⟩ := einfo_some he
 subst el; subst ec
 simp only [Rep] at hl hc
 subst hl; subst hc
 obtain ⟨N, rfl⟩ := Int.eq_ofNat_of_zero_le h0
 simp only [Int.toNat_natCast]
 have hrun := run_make (P := P) w t ei.e inf z hu hi hz kl kc N N (by omega) (Int.le_refl _) (by rw [← hby, Int.mul_comm]; omega) (by omega)
 simp only [Int.toNat_natCast] at hrun
 have hzl' : zd.length = ei.size := by rw [← hzd.len, hzero, hsz, ← hzs]; simp
 have := hr.addRowD (k := k) (cur := madeCells z.cells (N * inf.size)) (e := ei.e) (size := ei.size) (cap := N) (xs := List.replicate N zd) (by omega)
  (fun x hx => by
   rw [List.mem_replicate] at hx; rw [hx.2]
   refine ⟨hzl', fun c hc => ?_⟩
   obtain ⟨j, hj⟩ := List.mem_iff_getElem?.1 hc
   obtain ⟨x, _, h⟩ := hzd.get j c hj
   rcases h with ⟨rfl, h⟩ | ⟨_, el, s, rfl, _⟩
   ·exact AV.kept_leaf h
   ·rfl) (by rw [size_madeCells, hsz]) (by simp) (by simp [maxLen]; omega) (fun i x hx j c hc => by
   rw [List.getElem?_replicate] at hx
   split at hx <;> simp only [Option.some.injEq, reduceCtorEq] at hx
   subst hx
   rename_i hiN
   have hjl : j < ei.size := by rw [← hzl']; exact (List.getElem?_eq_some_iff.1 hc).1
   have hj2 : j < z.cells.size := by omega
   obtain ⟨x0, hx0, hcase⟩ := hzd.get j c hc
   rw [hzero] at hx0
   simp only [List.getElem?_map, Array.getElem?_toList, Array.getElem?_eq_getElem hj2, Option.map_some, Option.some.injEq] at hx0
   refine ⟨z.cells[j], ?_, ?_⟩
   ·have hlt : i * ei.size + j < N * inf.size := by
     have : (i + 1) * ei.size ≤ N * ei.size := Nat.mul_le_mul_right _ hiN
     rw [Nat.add_mul] at this; rw [← hsz]; omega
    have hmod : (i * ei.size + j) % z.cells.size = j := by rw [hzs, ← hsz, Nat.mul_comm, Nat.mul_add_mod]; exact Nat.mod_eq_of_lt hjl
    simp [madeCells, hlt, hmod, hj2]
   ·rcases hcase with ⟨rfl, hlf⟩ | ⟨rfl, el, s, rfl, hs⟩
    ·rw [← hx0]
     refine ⟨rep_ofLeafZ F w os _, fun e s ys e' => ?_⟩
     rw [hx0] at e'; rw [e'] at hlf; simp [AV.leaf] at hlf
    ·have := ofLeafZ_sl hx0
     rw [this]
     refine ⟨by simp only [Rep]; exact ⟨_, _, _, rfl⟩, fun e s' ys e' => ?_⟩
     simp only [RepD]
     exact ⟨hs, .inl ⟨trivial, none, rfl⟩⟩)
 refine ⟨_, _, _, _, _, ⟨rfl, rfl⟩, hrun, this.1, ?_, this.2⟩
 simp only [Rep]
 refine ⟨⟨⟨0, ei.e, ei.size, List.replicate N zd⟩, some w.heap.size, N, none'⟩, by rw [hr.len]; simp, by simp, ⟨_, _, _, rfl⟩, fun _ => ⟨by simp, .inr ⟨_, rfl, rfl⟩⟩⟩
theorem AO.sem {ops : Array Oper} {Q : Exit → St → Prop} {ds : List (Option Tmp)} {r : List Oper} {o : Oper} {s s' : St} (hgd : o.guard = none)
  (h : ∀ F os a w, Rel F os s a w → dstOK s.n o.dst = true → ∀ (next : Act → World → Prop) (Q' : Exit → Act → World → Prop), (∀ a' w', Step k s.n F os w (· = s') a' w' → next a' w') → o.wp P a w next Q')
  (hk : AO P k ops Q (ds ++ [o.dst]) r s') : AO P k ops Q ds (o :: r) s := by
 intro hl hds hdst F os a w hr Q' hQ
 have ho : ops[ds.length]? = some o := by have := hl 0; simpa using this.symm
 have hod : dstOK s.n o.dst = true := hdst o (by have := List.mem_of_getElem? (l := ops.toList) (i := ds.length) (by simpa using ho); exact this)
 have hl' : ∀ (j : Nat), r[j]? = ops[(ds ++ [o.dst]).length + j]? := fun j => by
  have := hl (j + 1)
  simp only [List.getElem?_cons_succ] at this
  rw [this]; congr 1; simp; omega
 have hds' : ∀ (j : Nat) d, (ds ++ [o.dst])[j]? = some d → (ops[j]?).map (·.dst) = some d := fun j d hj => by
  rcases Nat.lt_trichotomy j ds.length with h1 | h1 | h1
  ·rw [List.getElem?_append_left h1] at hj; exact hds j d hj
  ·subst h1; rw [new_get, Option.some.injEq] at hj; rw [ho]; simp [hj]
  ·rw [List.getElem?_eq_none (by simp; omega)] at hj; cases hj
 unfold wpList
 have hw : Region.wanted o (yielded ops a.tmps) = true := by unfold Region.wanted; rw [hgd]
 rw [if_pos hw]
 refine .inl (h F os a w hr hod _ _ ?_)
 rintro a' w' ⟨s2, F2, os2, hn2, rfl, hR2, hE2⟩
 exact hk hl' hds' (by rw [hn2]; exact hdst) F2 os2 a' w' hR2 Q' fun _ _ _ hp => hQ _ _ _ (hp.trans hE2)
section
variable {α : Type} {l : List α} {enc : α → List AV}
variable {ops : Array Oper} {Q : Exit → St → Prop} {ds : List (Option Tmp)} {r : List Oper} {n : Nat} {e : Nat → AV} {st st' : List Row} {ty : TypeId} {ps : String} {ed : Array Edge} {t : Tmp} {T : TypeId} {x y : Operand} {m bytes size : Nat} {el : TypeId} {zz : List AV} {u : α} {j : Int} {kk kk' : IntKind}
theorem ao_maked (he : einfo P T = some ⟨el, size, bytes, zz⟩) (hx : St.ev ⟨n, e, st⟩ x = .int kk j) (hy : St.ev ⟨n, e, st⟩ y = .int kk' j) (hz : ZD zz (enc u)) (hl : Sh.mk u j bytes = some l) (hm : st.length = m) (hst : st ++ [⟨0, el, size, l.map enc⟩] = st')
  (hk : AO P k ops Q (ds ++ [some t]) r ⟨n, upd e t (.own m 0 l.length), st'⟩) : AO P k ops Q ds (⟨some t, .makeSlice T x y, ty, ps, ed, none⟩ :: r) ⟨n, e, st⟩ := by
 subst hm; subst hst
 unfold Sh.mk at hl
 split at hl
 case isFalse => cases hl
 rename_i h
 simp only [Option.some.injEq] at hl
 subst hl
 refine AO.sem rfl (fun F os a w hr hd next Q' hn => ?_) hk
 obtain ⟨v, st', u', w', os', ⟨rfl, rfl⟩, h2, h3, h4, h5⟩ := aMakeD_ok (k := k) (ei := ⟨el, size, bytes, zz⟩) hr he hz h.1 h.2.1 h.2.2 hx hy (hr.ev x) (hr.ev y)
 unfold Oper.wp
 simp only [execOp, Sem.run_bind, h2, Result.andThen_ok, Sem.run_pure, Oper.upon]
 refine hn _ _ (putStep hd ?_ h3 h4 h5)
 simp [St.put, List.map_replicate]
end
end Go.Abs



namespace Go.Abs
open Go
variable {P : Program} {F : Nat → Prop} {os : List Own} {s : St} {a : Act} {w : World} {k : Nat}
variable {α β : Type} {l : List α} {enc : α → List AV}
end Go.Abs
namespace Go.Abs
open Go
section
variable {P : Program} {k : Nat} {α : Type} {l l' : List α} {enc : α → List AV} {c : α}
variable {ops : Array Oper} {Q : Exit → St → Prop} {ds : List (Option Tmp)} {r : List Oper} {n : Nat} {e : Nat → AV} {st st' : List Row} {ty : TypeId} {ps : String} {ed : Array Edge} {t : Tmp} {gd : Option (Nat × Bool)} {T : TypeId} {x y : Operand} {bytes size id g m q gq size' : Nat} {el el' : TypeId} {zz cs : List AV}
end
end Go.Abs



namespace Go.Abs
open Go
variable {P : Program} {F : Nat → Prop} {os : List Own} {s : St} {a : Act} {w : World} {k : Nat}
variable {α : Type} {l : List α} {enc enc' : α → List AV} {n id g m size : Nat} {e : Nat → AV} {st st' : List Row} {L : List (Nat × AV)} {el : TypeId} {xs : List (List AV)}
end Go.Abs



namespace Go.Abs
open Go
variable {P : Program} {F : Nat → Prop} {os : List Own} {s : St} {a : Act} {w : World} {k : Nat}
section
variable {P : Program} {ops : Array Oper} {Q : Exit → St → Prop} {n N f i : Nat} {listed listed' : Array Bool} {e : Nat → AV} {ty : TypeId} {p : String} {ed : Array Edge} {t : Tmp} {α : Type} {l l2 l' : List α} {enc : α → List AV} {x y : Operand} {g m size bytes : Nat} {el : TypeId} {zz : List AV} {T : TypeId} {rst : List Row} {k : Nat}
end
section
variable {P : Program} {ds : List (Option Tmp)} {r : List Oper} {KS : St → Prop} {n : Nat} {e : Nat → AV} {st : List Row} {ty : TypeId} {ps : String} {ed : Array Edge} {t : Tmp} {gd : Option (Nat × Bool)} {α : Type} {l l' : List α} {enc : α → List AV} {x : Operand} {size bytes : Nat} {el T : TypeId} {zz : List AV}
end
end Go.Abs



namespace Go.Abs
open Go
section
variable {P : Program} {k : Nat} {ops : Array Oper} {Q : Exit → St → Prop} {ds : List (Option Tmp)} {r : List Oper} {n : Nat} {e : Nat → AV} {st st' : List Row} {ty : TypeId} {p : String} {ed : Array Edge} {t : Tmp} {x y : Operand} {size bytes m : Nat} {el T Tn : TypeId} {zz : List AV} {α : Type} {enc : α → List AV} {u : α} {l' : List α} {kk : IntKind} {j : Int} {v : AV} {o : Oper}
end
section
variable {P : Program} {ds : List (Option Tmp)} {r : List Oper} {KS : St → Prop} {n : Nat} {e : Nat → AV} {st : List Row} {ty : TypeId} {ps : String} {ed : Array Edge} {t : Tmp} {gd : Option (Nat × Bool)} {α : Type} {l : List α} {enc : α → List AV} {u : α} {x y : Operand} {size bytes : Nat} {el T : TypeId} {zz : List AV} {kk kk' : IntKind} {j : Int}
end
section
variable {P : Program} {k : Nat} {ops : Array Oper} {Q : Exit → St → Prop} {ds : List (Option Tmp)} {r : List Oper} {n : Nat} {e : Nat → AV} {st st' : List Row} {ty : TypeId} {p : String} {ed : Array Edge} {t : Tmp} {x y : Operand} {size bytes m : Nat} {el T : TypeId} {zz : List AV} {kk kk' : IntKind} {c : Nat}
end
end Go.Abs



namespace RC
open Go Go.Abs
structure RRoutine where
 params : List Int
 lent : List Int
 result : Int
 body : Block
structure RNormal where
 decls : List RDecl
 routines : List RRoutine
end RC



namespace RC
open Go Go.Abs
theorem und_map {α : Type} {l : List α} {enc enc' : α → List AV} (h : ∀ x, undC (enc x) = enc' x) : undR (l.map enc) = l.map enc' := by
 rw [undR_eq, List.map_map]
 exact List.map_congr_left fun x _ => h x
theorem eI_und (n : Int) : undC (eI n) = eI n := rfl
end RC



namespace RC
open Go Go.Abs
end RC



namespace RC
open Go Go.Abs
end RC



namespace Go.Abs
open Go
variable {P : Program} {n : Nat} {e : Nat → AV} {st : List Row} {t : Tmp} {ty : TypeId} {ps : String} {ed : Array Edge} {x : Operand}
end Go.Abs



namespace Go.Abs
open Go
section
variable {P : Program} {k : Nat} {ops : Array Oper} {Q : Exit → St → Prop} {N f i : Nat} {listed listed' : Array Bool} {s s' : St} {o : Oper}
end
section
variable {P : Program} {n : Nat} {e : Nat → AV} {st : List Row} {t : Tmp} {ty : TypeId} {ps : String} {ed : Array Edge} {x : Operand}
end
section
variable {P : Program} {k : Nat} {α : Type} {l : List α} {enc : α → List AV}
variable {ops : Array Oper} {Q : Exit → St → Prop} {ds : List (Option Tmp)} {r : List Oper} {n : Nat} {e : Nat → AV} {st st' : List Row} {ty : TypeId} {ps : String} {ed : Array Edge} {v : AV} {gd : Option (Nat × Bool)} {T : TypeId} {x y : Operand} {ag : Bool} {sz id g size off : Nat} {el : TypeId} {cs cs' : List AV} {c : α} {i : Int}
end
end Go.Abs



namespace Go.Abs
open Go
theorem Wk.move {k n : Nat} {e : Nat → AV} {st st' : List Row} {id p j g m el size g2 el2 size2 : Nat} {xs : List (List AV)} {cs : List AV} (hrow : st[id]? = some ⟨g, el, size, xs⟩) (hp : st[p]? = some ⟨g2, el2, size2, [cs]⟩) (hpi : p ≠ id) (hc : cs[j]? = some (.own id g m))
  (hst : (st.set id ⟨g + 1, el, size, []⟩).set p ⟨g2, el2, size2, [cs.set j (.own st.length 0 m)]⟩ ++ [⟨0, el, size, xs⟩] = st') : Wk k ⟨n, e, st⟩ ⟨n, e, st'⟩ := fun F os a w hr => by
 subst hst
 obtain ⟨o, ho, hor⟩ := hr.row hrow
 obtain ⟨q, hq, hqr⟩ := hr.row hp
 have hok := hr.rows id o ho
 have hqk := hr.rows p q hq
 have hlen : os.length = st.length := by have := congrArg List.length hr.st; simpa using this
 have hil := (List.getElem?_eq_some_iff.1 ho).1
 have hpl := (List.getElem?_eq_some_iff.1 hq).1
 let o1 : Own := ⟨{ o.row with gen := o.row.gen + 1, xs := [] }, none, 0, none'⟩
 let q1 : Own := ⟨{ q.row with xs := [cs.set j (.own st.length 0 m)] }, q.blk, q.cap, q.more⟩
 let o2 : Own := ⟨{ o.row with gen := 0 }, o.blk, o.cap, o.more⟩
 have hget : ∀ (i : Nat) (oi : Own), (((os.set id o1).set p q1) ++ [o2])[i]? = some oi → (i ≠ id ∧ i ≠ p ∧ os[i]? = some oi) ∨ (i = id ∧ oi = o1) ∨ (i = p ∧ oi = q1) ∨ (i = os.length ∧ oi = o2) := fun i oi hi => by
  by_cases h1 : i < os.length
  ·rw [List.getElem?_append_left (by simpa using h1)] at hi
   by_cases h2 : i = p
   ·subst h2; rw [List.getElem?_set_self (by simpa using hpl)] at hi; exact .inr (.inr (.inl ⟨rfl, by simpa using hi.symm⟩))
   ·rw [List.getElem?_set_ne (Ne.symm h2)] at hi
    by_cases h3 : i = id
    ·subst h3; rw [List.getElem?_set_self hil] at hi; exact .inr (.inl ⟨rfl, by simpa using hi.symm⟩)
    ·rw [List.getElem?_set_ne (Ne.symm h3)] at hi; exact .inl ⟨h3, h2, hi⟩
  ·rw [List.getElem?_append_right (by simp; omega)] at hi
   simp only [List.length_set] at hi
   have : i - os.length < 1 := (List.getElem?_eq_some_iff.1 hi).1
   have h4 : i = os.length := by omega
   subst h4
   simp only [Nat.sub_self, List.getElem?_cons_zero, Option.some.injEq] at hi
   exact .inr (.inr (.inr ⟨rfl, hi.symm⟩))
 have hnew : (((os.set id o1).set p q1) ++ [o2])[st.length]? = some o2 := by rw [← hlen, List.getElem?_append_right (by simp)]; simp
 have hqx : q.row.xs = [cs] := by rw [hqr]
 have hos : HosLe os (((os.set id o1).set p q1) ++ [o2]) := fun i oi hi => by
  have hl := (List.getElem?_eq_some_iff.1 hi).1
  rw [List.getElem?_append_left (by simpa using hl)]
  by_cases h2 : i = p
  ·subst h2
   rw [hq] at hi; cases hi
   exact ⟨q1, by rw [List.getElem?_set_self (by simpa using hpl)], Nat.le_refl _, rfl, fun _ => ⟨rfl, rfl, by simp [q1, hqx]⟩⟩
  ·rw [List.getElem?_set_ne (Ne.symm h2)]
   by_cases h3 : i = id
   ·subst h3
    rw [ho] at hi; cases hi
    exact ⟨o1, by rw [List.getElem?_set_self hil], by simp [o1], rfl, fun e => by simp [o1] at e⟩
   ·rw [List.getElem?_set_ne (Ne.symm h3)]
    exact ⟨oi, hi, Nat.le_refl _, rfl, fun _ => ⟨rfl, rfl, rfl⟩⟩
 have hmono : ∀ x v, Rep F w os x v → Rep F w (((os.set id o1).set p q1) ++ [o2]) x v := fun x v h => rep_mono (fun _ h => h) (fun _ _ => rfl) os _ hos x v h
 have hog : o.row.gen = g := by rw [hor]
 have hown : ∀ (i : Nat) (oi : Own) b, (((os.set id o1).set p q1) ++ [o2])[i]? = some oi → oi.owns b → ∃ (i' : Nat) (oi' : Own), os[i']? = some oi' ∧ oi'.owns b ∧ ((i' = id ∧ i = os.length) ∨ (i' ≠ id ∧ i = i')) := fun i oi b hi hb => by
  rcases hget i oi hi with ⟨h1, h2, h3⟩ | ⟨rfl, rfl⟩ | ⟨rfl, rfl⟩ | ⟨rfl, rfl⟩
  ·exact ⟨i, oi, h3, hb, .inr ⟨h1, rfl⟩⟩
  ·rcases hb with hb | hb
   ·simp [o1] at hb
   ·exact hb.elim
  ·exact ⟨i, q, hq, hb, .inr ⟨hpi, rfl⟩⟩
  ·exact ⟨id, o, ho, hb, .inl ⟨rfl, rfl⟩⟩
 have h := hr.onto (k := k) (Turns.refl w none) (by simp) hos (fun i oi hi => by
   rcases hget i oi hi with ⟨h1, h2, h3⟩ | ⟨rfl, rfl⟩ | ⟨rfl, rfl⟩ | ⟨rfl, rfl⟩
   ·exact .inl ⟨h3, by simp⟩
   ·exact .inr ⟨hok.pos, by simp [o1], by simp [o1], by simp [o1], fun b hb => hb.elim, DeepOK.flat (by simp [o1])⟩
   ·refine .inr ⟨hqk.pos, fun x hx => ?_, fun e => ?_, fun b hb => ?_, hqk.mo, hqk.deep.keep rfl (fun _ h => h) rfl (fun _ _ => rfl) (fun i' x j' e' s' ys h1 h2 => ?_)⟩
    ·simp only [q1, List.mem_singleton] at hx
     subst hx
     have h5 := hqk.lens cs (by rw [hqx]; simp)
     refine ⟨by simpa using h5.1, fun c hcm => ?_⟩
     rcases List.mem_or_eq_of_mem_set hcm with h6 | rfl
     ·exact h5.2 c h6
     ·rfl
    ·have h5 := (hqk.none e).1
     rw [hqx] at h5; cases h5
    ·obtain ⟨e1, cur, e2, e3, e4, e5, e6⟩ := hqk.some b hb
     refine ⟨e1, cur, e2, e3, by simpa [q1, hqx] using e4, e5, fun i' x hx j' c hcj => ?_⟩
     have h6 : i' < 1 := by have := (List.getElem?_eq_some_iff.1 hx).1; simpa [q1] using this
     obtain rfl : i' = 0 := by omega
     simp only [q1, List.getElem?_cons_zero, Option.some.injEq] at hx
     subst hx
     by_cases h7 : j' = j
     ·subst h7
      rw [List.getElem?_set_self (List.getElem?_eq_some_iff.1 hc).1, Option.some.injEq] at hcj
      subst hcj
      obtain ⟨u, f1, f2⟩ := e6 0 cs (by rw [hqx]; rfl) j' _ hc
      refine ⟨u, f1, ?_⟩
      simp only [Rep] at f2 ⊢
      obtain ⟨o', ho', _, hsh, f3⟩ := f2
      rw [ho] at ho'; cases ho'
      obtain ⟨f4, f5⟩ := f3 hog
      exact ⟨o2, hnew, Nat.le_refl _, hsh, fun _ => ⟨f4, f5⟩⟩
     ·rw [List.getElem?_set_ne (Ne.symm h7)] at hcj
      obtain ⟨u, f1, f2⟩ := e6 0 cs (by rw [hqx]; rfl) j' c hcj
      exact ⟨u, f1, hmono _ _ f2⟩
    ·have h6 : i' < 1 := by have := (List.getElem?_eq_some_iff.1 h1).1; simpa [q1] using this
     obtain rfl : i' = 0 := by omega
     simp only [q1, List.getElem?_cons_zero, Option.some.injEq] at h1
     subst h1
     by_cases h7 : j' = j
     ·subst h7
      rw [List.getElem?_set_self (List.getElem?_eq_some_iff.1 hc).1, Option.some.injEq] at h2
      cases h2
     ·rw [List.getElem?_set_ne (Ne.symm h7)] at h2
      exact ⟨cs, by rw [hqx]; rfl, h2⟩
   ·refine .inr ⟨hok.pos, hok.lens, hok.none, fun b hb => ?_, hok.mo, hok.deep.keep rfl (fun _ h => h) rfl (fun _ _ => rfl) (fun i' x j' e' s' ys h1 h2 => ⟨x, h1, h2⟩)⟩
    obtain ⟨e1, cur, e2, e3, e4, e5, e6⟩ := hok.some b hb
    exact ⟨e1, cur, e2, e3, e4, e5, fun i' x hx j' c hcj => by obtain ⟨u, f1, f2⟩ := e6 i' x hx j' c hcj; exact ⟨u, f1, hmono _ _ f2⟩⟩)
  (fun i j' oi oj b hi hj hbi hbj => by
   obtain ⟨i', oi', e1, e2, e3⟩ := hown i oi b hi hbi
   obtain ⟨j'', oj', f1, f2, f3⟩ := hown j' oj b hj hbj
   have := hr.inj i' j'' oi' oj' b e1 f1 e2 f2
   subst this
   omega)
  (fun o' ho' b hb => by
   obtain ⟨i, hi⟩ := List.mem_iff_getElem?.1 ho'
   obtain ⟨i', oi', e1, e2, _⟩ := hown i o' b hi hb
   exact .inr ⟨oi', List.mem_of_getElem? e1, e2⟩)
  (by simp)
 refine ⟨F, _, ?_, h.2.1⟩
 have h1 := h.1
 have e1 : o1.row = ⟨g + 1, el, size, []⟩ := by simp only [o1, hor]
 have e2 : q1.row = ⟨g2, el2, size2, [cs.set j (.own st.length 0 m)]⟩ := by simp only [q1, hqr]
 have e3 : o2.row = ⟨0, el, size, xs⟩ := by simp only [o2, hor]
 rw [List.map_append, List.map_set, List.map_set, hr.st, List.map_cons, List.map_nil, e1, e2, e3] at h1
 exact h1
end Go.Abs



namespace RC
open Go Go.Abs
noncomputable def eStepD (x y z : Nat) (s : Step) : List AV :=
 Step.rec (motive_1 := fun _ => List AV) (motive_2 := fun _ => List (List AV)) (motive_3 := fun _ => List AV) (motive_4 := fun _ => List (List AV))
  (fun o n i a _ ks => [.int .i64 o, .int .i64 n, .int .i64 i, .dv x 1 (a.map eI), .dv y 2 ks])
  [] (fun _ _ b bs => b :: bs) (fun _ r ss => [.dv z 5 ss, .int .i64 r]) [] (fun _ _ s ss => s :: ss) s
noncomputable def eBlockD (x y z : Nat) (b : Block) : List AV := [.dv z 5 (b.steps.map (eStepD x y z)), .int .i64 b.result]
theorem eStepD_kids (x y z : Nat) (ks : List Block) :
  Step.rec_1 (motive_1 := fun _ => List AV) (motive_2 := fun _ => List (List AV)) (motive_3 := fun _ => List AV) (motive_4 := fun _ => List (List AV))
  (fun o n i a _ ks => [.int .i64 o, .int .i64 n, .int .i64 i, .dv x 1 (a.map eI), .dv y 2 ks])
  [] (fun _ _ b bs => b :: bs) (fun _ r ss => [.dv z 5 ss, .int .i64 r]) [] (fun _ _ s ss => s :: ss) ks = ks.map (eBlockD x y z) := by
 have key : ∀ ss : List Step, Step.rec_3 (motive_1 := fun _ => List AV) (motive_2 := fun _ => List (List AV)) (motive_3 := fun _ => List AV) (motive_4 := fun _ => List (List AV))
  (fun o n i a _ ks => [.int .i64 o, .int .i64 n, .int .i64 i, .dv x 1 (a.map eI), .dv y 2 ks])
  [] (fun _ _ b bs => b :: bs) (fun _ r ss => [.dv z 5 ss, .int .i64 r]) [] (fun _ _ s ss => s :: ss) ss = ss.map (eStepD x y z) := by
  intro ss
  induction ss with
  | nil => rfl
  | cons s ss ih => exact congrArg (eStepD x y z s :: ·) ih
 induction ks with
 | nil => rfl
 | cons b ks ih =>
  obtain ⟨ss, r⟩ := b
  exact (congrArg (· :: _) (congrArg (fun x => [AV.dv z 5 x, AV.int .i64 r]) (key ss))).trans (congrArg (eBlockD x y z ⟨ss, r⟩ :: ·) ih)
theorem eStepD_eq {x y z : Nat} (s : Step) : eStepD x y z s = [.int .i64 s.op, .int .i64 s.num, .int .i64 s.into, .dv x 1 (s.args.map eI), .dv y 2 (s.kids.map (eBlockD x y z))] := by
 obtain ⟨o, n, i, a, k⟩ := s
 exact congrArg (fun q => [AV.int .i64 o, .int .i64 n, .int .i64 i, .dv x 1 (a.map eI), .dv y 2 q]) (eStepD_kids x y z k)
theorem eStepD_pure {x y z : Nat} (s : Step) : (eStepD x y z s).all simple' = true := by rw [eStepD_eq]; rfl
theorem eStepD_deep {x y z : Nat} (s : Step) : (eStepD x y z s).all deepC = true := by rw [eStepD_eq]; rfl
theorem eStepD_len {x y z : Nat} (s : Step) : (eStepD x y z s).length = 5 := by rw [eStepD_eq]; rfl
mutual
theorem eStepD_und {x y z : Nat} : ∀ s : Step, undC (eStepD x y z s) = eStep s
 | .mk o n i a k => by
  rw [eStepD_eq, eStep_eq]
  simp only [undC, und, Step.op, Step.num, Step.into, Step.args, Step.kids, und_map eI_und, eBlockD_unds k]
theorem eBlockD_unds {x y z : Nat} : ∀ l : List (BlockOf Step), undR (l.map (eBlockD x y z)) = l.map eBlock
 | [] => rfl
 | b :: l => by simp only [List.map_cons, undR, eBlockD_und b, eBlockD_unds l]
theorem eBlockD_und {x y z : Nat} : ∀ b : BlockOf Step, undC (eBlockD x y z b) = eBlock b
 | ⟨ss, r⟩ => by
  show undC [.dv z 5 (ss.map (eStepD x y z)), .int .i64 r] = [.sl (ss.map eStep), .int .i64 r]
  simp only [undC, und, eStepD_unds ss]
theorem eStepD_unds {x y z : Nat} : ∀ l : List Step, undR (l.map (eStepD x y z)) = l.map eStep
 | [] => rfl
 | s :: l => by simp only [List.map_cons, undR, eStepD_und s, eStepD_unds l]
end
end RC


namespace RC
def slices_Sort_int_int (s0 : List Int) : Option (List Int) := if s0.length < 4611686018427387904 then some (s0.mergeSort fun x y => decide (x ≤ y)) else none
def slices_Compact_int_int (s0 : List Int) : Option (List Int) := some (Go.Lib.compact s0)
end RC


namespace RC
def laws_szIntS (p0 : (List Int)) (p1 : Int) : Option (Int) :=
 if (decide ((Sh.w (p1 - (Sh.len p0))) < 0)) = true then
  some (-1)
 else
  some (Sh.w (p1 - (Sh.len p0)))
def laws_toIntS_L1 (p0 : (List Int)) : Nat → Int → (List Int) → Option ((List Int))
 | 0, _, _ => none
 | n + 1, i6, l7 =>
  if (decide (i6 < (Sh.len p0))) = true then
   Option.bind (Sh.get p0 i6) fun c15 =>
   Option.bind (Sh.get l7 i6) fun c16 =>
   laws_toIntS_L1 p0 n (Sh.w (i6 + 1)) (Sh.put l7 i6 c15)
  else
   some l7
def laws_toIntS (N : Nat) (p0 : (List Int)) : Option ((List Int)) :=
 Option.bind (Sh.mk 0 (Sh.len p0) 8) fun l3 =>
 Option.bind (laws_toIntS_L1 p0 N 0 l3) fun l8 =>
 some l8
def spec_inRange (p0 : Int) (p1 : Int) (p2 : Int) : Option (Bool) :=
 Option.bind (
  if (decide (p1 ≤ p0)) = true then
   some (decide (p0 ≤ p2))
  else
   some false
 ) fun t3 =>
 some t3
def spec_allZero_L1 (p0 : (List Int)) : Nat → Int → Option ((Bool) ⊕ (Unit))
 | 0, _ => none
 | n + 1, i4 =>
  if (decide (i4 < (Sh.len p0))) = true then
   Option.bind (Sh.get p0 i4) fun c12 =>
   if (!decide (c12 = 0)) = true then
    some (Sum.inl false)
   else
    spec_allZero_L1 p0 n (Sh.w (i4 + 1))
  else
   some (Sum.inr ())
def laws_eqIntS_L1 (p0 : (List Int)) (p1 : (List Int)) : Nat → Int → Option ((Bool) ⊕ (Unit))
 | 0, _ => none
 | n + 1, i10 =>
  if (decide (i10 < (Sh.len p0))) = true then
   Option.bind (Sh.get p0 i10) fun c18 =>
   Option.bind (Sh.get p1 i10) fun c19 =>
   if (!decide (c18 = c19)) = true then
    some (Sum.inl false)
   else
    laws_eqIntS_L1 p0 p1 n (Sh.w (i10 + 1))
  else
   some (Sum.inr ())
def laws_eqIntS (N : Nat) (p0 : (List Int)) (p1 : (List Int)) : Option (Bool) :=
 if (!decide ((Sh.len p0) = (Sh.len p1))) = true then
  some false
 else
  Sh.cont (laws_eqIntS_L1 p0 p1 N 0) (id) fun () =>
  some true
end RC


namespace RC
def laws_szBlockS_L1 (p0 : (List Block)) (rec_laws_szBlock : Block → Int → Option (Int)) : Nat → Int → Int → Option ((Int) ⊕ (Int))
 | 0, _, _ => none
 | n + 1, left9, i10 =>
  if (decide (i10 < (Sh.len p0))) = true then
   Option.bind (Sh.get p0 i10) fun c19 =>
   Option.bind (rec_laws_szBlock c19 left9) fun q20 =>
   if (decide (q20 < 0)) = true then
    some (Sum.inl (-1))
   else
    laws_szBlockS_L1 p0 rec_laws_szBlock n q20 (Sh.w (i10 + 1))
  else
   some (Sum.inr left9)
def laws_szBlockS (N : Nat) (rec_laws_szBlock : Block → Int → Option (Int)) (p0 : (List Block)) (p1 : Int) : Option (Int) :=
 if (decide ((Sh.w (p1 - (Sh.len p0))) < 0)) = true then
  some (-1)
 else
  Sh.cont (laws_szBlockS_L1 p0 rec_laws_szBlock N (Sh.w (p1 - (Sh.len p0))) 0) (id) fun left11 =>
  some left11
def laws_szStep (N : Nat) (rec_laws_szBlock : Block → Int → Option (Int)) (p0 : Step) (p1 : Int) : Option (Int) :=
 Option.bind (laws_szIntS p0.args p1) fun q3 =>
 if (decide (q3 < 0)) = true then
  some (-1)
 else
  Option.bind (laws_szBlockS N rec_laws_szBlock p0.kids q3) fun q9 =>
  if (decide (q9 < 0)) = true then
   some (-1)
  else
   some q9
def laws_szStepS_L1 (N : Nat) (p0 : (List Step)) (rec_laws_szBlock : Block → Int → Option (Int)) : Nat → Int → Int → Option ((Int) ⊕ (Int))
 | 0, _, _ => none
 | n + 1, left9, i10 =>
  if (decide (i10 < (Sh.len p0))) = true then
   Option.bind (Sh.get p0 i10) fun c19 =>
   Option.bind (laws_szStep N rec_laws_szBlock c19 left9) fun q20 =>
   if (decide (q20 < 0)) = true then
    some (Sum.inl (-1))
   else
    laws_szStepS_L1 N p0 rec_laws_szBlock n q20 (Sh.w (i10 + 1))
  else
   some (Sum.inr left9)
def laws_szStepS (N : Nat) (rec_laws_szBlock : Block → Int → Option (Int)) (p0 : (List Step)) (p1 : Int) : Option (Int) :=
 if (decide ((Sh.w (p1 - (Sh.len p0))) < 0)) = true then
  some (-1)
 else
  Sh.cont (laws_szStepS_L1 N p0 rec_laws_szBlock N (Sh.w (p1 - (Sh.len p0))) 0) (id) fun left11 =>
  some left11
def laws_szBlock_B (N : Nat) (rec_laws_szBlock : Block → Int → Option (Int)) (p0 : Block) (p1 : Int) : Option (Int) :=
 Option.bind (laws_szStepS N rec_laws_szBlock p0.steps p1) fun q3 =>
 if (decide (q3 < 0)) = true then
  some (-1)
 else
  some q3
def laws_szBlock_F (N : Nat) : Nat → Block → Int → Option (Int)
 | 0, _, _ => none
 | n + 1, p0, p1 => laws_szBlock_B N (laws_szBlock_F N n) p0 p1
def laws_szBlock (N : Nat) (p0 : Block) (p1 : Int) : Option (Int) := laws_szBlock_F N N p0 p1
def laws_toBlockS_L1 (p0 : (List Block)) (rec_laws_toBlock : Block → Option (Block)) : Nat → Int → (List Block) → Option ((List Block))
 | 0, _, _ => none
 | n + 1, i6, l7 =>
  if (decide (i6 < (Sh.len p0))) = true then
   Option.bind (Sh.get p0 i6) fun c15 =>
   Option.bind (rec_laws_toBlock c15) fun q16 =>
   Option.bind (Sh.get l7 i6) fun c17 =>
   laws_toBlockS_L1 p0 rec_laws_toBlock n (Sh.w (i6 + 1)) (Sh.put l7 i6 q16)
  else
   some l7
def laws_toBlockS (N : Nat) (rec_laws_toBlock : Block → Option (Block)) (p0 : (List Block)) : Option ((List Block)) :=
 Option.bind (Sh.mk (Block.mk [] 0) (Sh.len p0) 32) fun l3 =>
 Option.bind (laws_toBlockS_L1 p0 rec_laws_toBlock N 0 l3) fun l8 =>
 some l8
def laws_toStep (N : Nat) (rec_laws_toBlock : Block → Option (Block)) (p0 : Step) : Option (Step) :=
 Option.bind (laws_toIntS N p0.args) fun q7 =>
 Option.bind (laws_toBlockS N rec_laws_toBlock p0.kids) fun q9 =>
 some (Step.mk p0.op p0.num p0.into q7 q9)
def laws_toStepS_L1 (N : Nat) (p0 : (List Step)) (rec_laws_toBlock : Block → Option (Block)) : Nat → Int → (List Step) → Option ((List Step))
 | 0, _, _ => none
 | n + 1, i6, l7 =>
  if (decide (i6 < (Sh.len p0))) = true then
   Option.bind (Sh.get p0 i6) fun c15 =>
   Option.bind (laws_toStep N rec_laws_toBlock c15) fun q16 =>
   Option.bind (Sh.get l7 i6) fun c17 =>
   laws_toStepS_L1 N p0 rec_laws_toBlock n (Sh.w (i6 + 1)) (Sh.put l7 i6 q16)
  else
   some l7
def laws_toStepS (N : Nat) (rec_laws_toBlock : Block → Option (Block)) (p0 : (List Step)) : Option ((List Step)) :=
 Option.bind (Sh.mk (Step.mk 0 0 0 [] []) (Sh.len p0) 72) fun l3 =>
 Option.bind (laws_toStepS_L1 N p0 rec_laws_toBlock N 0 l3) fun l8 =>
 some l8
def laws_toBlock_B (N : Nat) (rec_laws_toBlock : Block → Option (Block)) (p0 : Block) : Option (Block) :=
 Option.bind (laws_toStepS N rec_laws_toBlock p0.steps) fun q4 =>
 some (Block.mk q4 p0.result)
def laws_toBlock_F (N : Nat) : Nat → Block → Option (Block)
 | 0, _ => none
 | n + 1, p0 => laws_toBlock_B N (laws_toBlock_F N n) p0
def laws_toBlock (N : Nat) (p0 : Block) : Option (Block) := laws_toBlock_F N N p0
def spec_stepsLeft_B_L2 (i5 : Int) (p0 : Block) (rec_spec_stepsLeft : Block → Int → Option (Int)) : Nat → Int → Int → Option ((Int) ⊕ (Int))
 | 0, _, _ => none
 | n + 1, left19, k20 =>
  Option.bind (Sh.get p0.steps i5) fun c25 =>
  if (decide (k20 < (Sh.len c25.kids))) = true then
   Option.bind (Sh.get c25.kids k20) fun c29 =>
   Option.bind (rec_spec_stepsLeft c29 left19) fun q30 =>
   if (decide (q30 < 0)) = true then
    some (Sum.inl (-1))
   else
    spec_stepsLeft_B_L2 i5 p0 rec_spec_stepsLeft n q30 (Sh.w (k20 + 1))
  else
   some (Sum.inr left19)
def spec_stepsLeft_B_L1 (N : Nat) (p0 : Block) (rec_spec_stepsLeft : Block → Int → Option (Int)) : Nat → Int → Int → Option ((Int) ⊕ (Int))
 | 0, _, _ => none
 | n + 1, left4, i5 =>
  if (decide (i5 < (Sh.len p0.steps))) = true then
   if (decide (left4 < 1)) = true then
    some (Sum.inl (-1))
   else
    Sh.cont (spec_stepsLeft_B_L2 i5 p0 rec_spec_stepsLeft N (Sh.w (left4 - 1)) 0) (fun x => Sum.inl x) fun left21 =>
    spec_stepsLeft_B_L1 N p0 rec_spec_stepsLeft n left21 (Sh.w (i5 + 1))
  else
   some (Sum.inr left4)
def spec_stepsLeft_B (N : Nat) (rec_spec_stepsLeft : Block → Int → Option (Int)) (p0 : Block) (p1 : Int) : Option (Int) :=
 Sh.cont (spec_stepsLeft_B_L1 N p0 rec_spec_stepsLeft N p1 0) (id) fun left6 =>
 some left6
def spec_stepsLeft_F (N : Nat) : Nat → Block → Int → Option (Int)
 | 0, _, _ => none
 | n + 1, p0, p1 => spec_stepsLeft_B N (spec_stepsLeft_F N n) p0 p1
def spec_stepsLeft (N : Nat) (p0 : Block) (p1 : Int) : Option (Int) := spec_stepsLeft_F N N p0 p1
def spec_stepsOf (N : Nat) (p0 : Block) : Option (Int) :=
 Option.bind (spec_stepsLeft N p0 600) fun q3 =>
 if (decide (q3 < 0)) = true then
  some (-1)
 else
  some (Sh.w (600 - q3))
def spec_isCounting (p0 : Int) : Option (Bool) :=
 Option.bind (spec_inRange p0 14 17) fun q3 =>
 some q3
def impl_countSteps_B_L2 (c14 : Step) (rec_impl_countSteps : Int → Block → Option (Bool × Int)) : Nat → Int → Int → Option ((Bool × Int) ⊕ (Int))
 | 0, _, _ => none
 | n + 1, t21, f22 =>
  if (decide (t21 < (Sh.len c14.kids))) = true then
   Option.bind (Sh.get c14.kids t21) fun c30 =>
   Option.bind (rec_impl_countSteps f22 c30) fun q32 =>
   if (!q32.1) = true then
    some (Sum.inl (false, q32.2))
   else
    impl_countSteps_B_L2 c14 rec_impl_countSteps n (Sh.w (t21 + 1)) q32.2
  else
   some (Sum.inr f22)
def impl_countSteps_B_L1 (N : Nat) (p0 : Block) (rec_impl_countSteps : Int → Block → Option (Bool × Int)) : Nat → Int → Int → Option ((Bool × Int) ⊕ (Int))
 | 0, _, _ => none
 | n + 1, t4, f5 =>
  if (decide (t4 < (Sh.len p0.steps))) = true then
   Option.bind (Sh.get p0.steps t4) fun c14 =>
   if (decide (600 < (Sh.w (f5 + 1)))) = true then
    some (Sum.inl (false, Sh.w (f5 + 1)))
   else
    Sh.cont (impl_countSteps_B_L2 c14 rec_impl_countSteps N 0 (Sh.w (f5 + 1))) (fun x => Sum.inl x) fun f23 =>
    impl_countSteps_B_L1 N p0 rec_impl_countSteps n (Sh.w (t4 + 1)) f23
  else
   some (Sum.inr f5)
def impl_countSteps_B (N : Nat) (rec_impl_countSteps : Int → Block → Option (Bool × Int)) (s0_0 : Int) (p0 : Block) : Option (Bool × Int) :=
 Sh.cont (impl_countSteps_B_L1 N p0 rec_impl_countSteps N 0 s0_0) (id) fun f6 =>
 some (true, f6)
def impl_countSteps_F (N : Nat) : Nat → Int → Block → Option (Bool × Int)
 | 0, _, _ => none
 | n + 1, s0_0, p0 => impl_countSteps_B N (impl_countSteps_F N n) s0_0 p0
def impl_countSteps (N : Nat) (s0_0 : Int) (p0 : Block) : Option (Bool × Int) := impl_countSteps_F N N s0_0 p0
def impl_StepsOf (N : Nat) (p0 : Block) : Option (Int) :=
 Option.bind (impl_countSteps N 0 p0) fun q5 =>
 if (!q5.1) = true then
  some (-1)
 else
  some q5.2
def impl_isCounting (p0 : Int) : Option (Bool) :=
 Option.bind (
  if (decide (14 ≤ p0)) = true then
   some (decide (p0 ≤ 17))
  else
   some false
 ) fun t3 =>
 some t3
def laws_eqBlockS_L1 (p0 : (List Block)) (p1 : (List Block)) (rec_laws_eqBlock : Block → Block → Option (Bool)) : Nat → Int → Option ((Bool) ⊕ (Unit))
 | 0, _ => none
 | n + 1, i10 =>
  if (decide (i10 < (Sh.len p0))) = true then
   Option.bind (Sh.get p0 i10) fun c18 =>
   Option.bind (Sh.get p1 i10) fun c19 =>
   Option.bind (rec_laws_eqBlock c18 c19) fun q20 =>
   if (!q20) = true then
    some (Sum.inl false)
   else
    laws_eqBlockS_L1 p0 p1 rec_laws_eqBlock n (Sh.w (i10 + 1))
  else
   some (Sum.inr ())
def laws_eqBlockS (N : Nat) (rec_laws_eqBlock : Block → Block → Option (Bool)) (p0 : (List Block)) (p1 : (List Block)) : Option (Bool) :=
 if (!decide ((Sh.len p0) = (Sh.len p1))) = true then
  some false
 else
  Sh.cont (laws_eqBlockS_L1 p0 p1 rec_laws_eqBlock N 0) (id) fun () =>
  some true
def laws_eqStep (N : Nat) (rec_laws_eqBlock : Block → Block → Option (Bool)) (p0 : Step) (p1 : Step) : Option (Bool) :=
 if (!decide (p0.op = p1.op)) = true then
  some false
 else
 if (!decide (p0.num = p1.num)) = true then
  some false
 else
 if (!decide (p0.into = p1.into)) = true then
  some false
 else
  Option.bind (laws_eqIntS N p0.args p1.args) fun q22 =>
  if (!q22) = true then
   some false
  else
   Option.bind (laws_eqBlockS N rec_laws_eqBlock p0.kids p1.kids) fun q29 =>
   if (!q29) = true then
    some false
   else
    some true
def laws_eqStepS_L1 (N : Nat) (p0 : (List Step)) (p1 : (List Step)) (rec_laws_eqBlock : Block → Block → Option (Bool)) : Nat → Int → Option ((Bool) ⊕ (Unit))
 | 0, _ => none
 | n + 1, i10 =>
  if (decide (i10 < (Sh.len p0))) = true then
   Option.bind (Sh.get p0 i10) fun c18 =>
   Option.bind (Sh.get p1 i10) fun c19 =>
   Option.bind (laws_eqStep N rec_laws_eqBlock c18 c19) fun q20 =>
   if (!q20) = true then
    some (Sum.inl false)
   else
    laws_eqStepS_L1 N p0 p1 rec_laws_eqBlock n (Sh.w (i10 + 1))
  else
   some (Sum.inr ())
def laws_eqStepS (N : Nat) (rec_laws_eqBlock : Block → Block → Option (Bool)) (p0 : (List Step)) (p1 : (List Step)) : Option (Bool) :=
 if (!decide ((Sh.len p0) = (Sh.len p1))) = true then
  some false
 else
  Sh.cont (laws_eqStepS_L1 N p0 p1 rec_laws_eqBlock N 0) (id) fun () =>
  some true
def laws_eqBlock_B (N : Nat) (rec_laws_eqBlock : Block → Block → Option (Bool)) (p0 : Block) (p1 : Block) : Option (Bool) :=
 Option.bind (laws_eqStepS N rec_laws_eqBlock p0.steps p1.steps) fun q4 =>
 if (!q4) = true then
  some false
 else
 if (!decide (p0.result = p1.result)) = true then
  some false
 else
  some true
def laws_eqBlock_F (N : Nat) : Nat → Block → Block → Option (Bool)
 | 0, _, _ => none
 | n + 1, p0, p1 => laws_eqBlock_B N (laws_eqBlock_F N n) p0 p1
def laws_eqBlock (N : Nat) (p0 : Block) (p1 : Block) : Option (Bool) := laws_eqBlock_F N N p0 p1
end RC


namespace RC
end RC


namespace RC
end RC


namespace RC
end RC


namespace RC
end RC


namespace RC
def laws_toBlockS_2_L1 (p0 : (List Block)) (rec_laws_toBlock_2 : Block → Option (Block)) : Nat → Int → (List Block) → Option ((List Block))
 | 0, _, _ => none
 | n + 1, i6, l7 =>
  if (decide (i6 < (Sh.len p0))) = true then
   Option.bind (Sh.get p0 i6) fun c15 =>
   Option.bind (rec_laws_toBlock_2 c15) fun q16 =>
   Option.bind (Sh.get l7 i6) fun c17 =>
   laws_toBlockS_2_L1 p0 rec_laws_toBlock_2 n (Sh.w (i6 + 1)) (Sh.put l7 i6 q16)
  else
   some l7
def laws_toBlockS_2 (N : Nat) (rec_laws_toBlock_2 : Block → Option (Block)) (p0 : (List Block)) : Option ((List Block)) :=
 Option.bind (Sh.mk (Block.mk [] 0) (Sh.len p0) 32) fun l3 =>
 Option.bind (laws_toBlockS_2_L1 p0 rec_laws_toBlock_2 N 0 l3) fun l8 =>
 some l8
def laws_toStep_2 (N : Nat) (rec_laws_toBlock_2 : Block → Option (Block)) (p0 : Step) : Option (Step) :=
 Option.bind (laws_toIntS N p0.args) fun q7 =>
 Option.bind (laws_toBlockS_2 N rec_laws_toBlock_2 p0.kids) fun q9 =>
 some (Step.mk p0.op p0.num p0.into q7 q9)
def laws_toStepS_2_L1 (N : Nat) (p0 : (List Step)) (rec_laws_toBlock_2 : Block → Option (Block)) : Nat → Int → (List Step) → Option ((List Step))
 | 0, _, _ => none
 | n + 1, i6, l7 =>
  if (decide (i6 < (Sh.len p0))) = true then
   Option.bind (Sh.get p0 i6) fun c15 =>
   Option.bind (laws_toStep_2 N rec_laws_toBlock_2 c15) fun q16 =>
   Option.bind (Sh.get l7 i6) fun c17 =>
   laws_toStepS_2_L1 N p0 rec_laws_toBlock_2 n (Sh.w (i6 + 1)) (Sh.put l7 i6 q16)
  else
   some l7
def laws_toStepS_2 (N : Nat) (rec_laws_toBlock_2 : Block → Option (Block)) (p0 : (List Step)) : Option ((List Step)) :=
 Option.bind (Sh.mk (Step.mk 0 0 0 [] []) (Sh.len p0) 72) fun l3 =>
 Option.bind (laws_toStepS_2_L1 N p0 rec_laws_toBlock_2 N 0 l3) fun l8 =>
 some l8
def laws_toBlock_2_B (N : Nat) (rec_laws_toBlock_2 : Block → Option (Block)) (p0 : Block) : Option (Block) :=
 Option.bind (laws_toStepS_2 N rec_laws_toBlock_2 p0.steps) fun q4 =>
 some (Block.mk q4 p0.result)
def laws_toBlock_2_F (N : Nat) : Nat → Block → Option (Block)
 | 0, _ => none
 | n + 1, p0 => laws_toBlock_2_B N (laws_toBlock_2_F N n) p0
def laws_toBlock_2 (N : Nat) (p0 : Block) : Option (Block) := laws_toBlock_2_F N N p0
def laws_markIntS_L1  : Nat → Int → Int → (List Int) → Option (Int × (List Int))
 | 0, _, _, _ => none
 | n + 1, k4, i5, l6 =>
  if (decide (i5 < (Sh.len l6))) = true then
   Option.bind (Sh.get l6 i5) fun c16 =>
   laws_markIntS_L1  n (Sh.w (k4 + 1)) (Sh.w (i5 + 1)) (Sh.put l6 i5 k4)
  else
   some (k4, l6)
def laws_markIntS (N : Nat) (s0 : (List Int)) (p1 : Int) : Option (Int × (List Int)) :=
 Option.bind (laws_markIntS_L1  N p1 0 s0) fun (k7, l8) =>
 some (k7, l8)
def laws_markBlockS_L1 (rec_laws_markStepS : (List Step) → Int → Option (Int × (List Step))) : Nat → Int → Int → (List Block) → Option (Int × (List Block))
 | 0, _, _, _ => none
 | n + 1, k4, i5, l6 =>
  if (decide (i5 < (Sh.len l6))) = true then
   Option.bind (Sh.get l6 i5) fun c16 =>
   Option.bind (rec_laws_markStepS c16.steps k4) fun q17 =>
   Option.bind (Sh.get (Sh.put l6 i5 (Block.mk q17.2 c16.result)) i5) fun c20 =>
   laws_markBlockS_L1 rec_laws_markStepS n (Sh.w (q17.1 + 1)) (Sh.w (i5 + 1)) (Sh.put (Sh.put l6 i5 (Block.mk q17.2 c16.result)) i5 (Block.mk c20.steps q17.1))
  else
   some (k4, l6)
def laws_markBlockS (N : Nat) (rec_laws_markStepS : (List Step) → Int → Option (Int × (List Step))) (s0 : (List Block)) (p1 : Int) : Option (Int × (List Block)) :=
 Option.bind (laws_markBlockS_L1 rec_laws_markStepS N p1 0 s0) fun (k7, l8) =>
 some (k7, l8)
def laws_markStepS_B_L1 (N : Nat) (rec_laws_markStepS : (List Step) → Int → Option (Int × (List Step))) : Nat → Int → Int → (List Step) → Option (Int × (List Step))
 | 0, _, _, _ => none
 | n + 1, k4, i5, l6 =>
  if (decide (i5 < (Sh.len l6))) = true then
   Option.bind (Sh.get l6 i5) fun c16 =>
   Option.bind (Sh.get (Sh.put l6 i5 (Step.mk k4 c16.num c16.into c16.args c16.kids)) i5) fun c19 =>
   Option.bind (Sh.get (Sh.put (Sh.put l6 i5 (Step.mk k4 c16.num c16.into c16.args c16.kids)) i5 (Step.mk c19.op (Sh.w (k4 + 1)) c19.into c19.args c19.kids)) i5) fun c22 =>
   Option.bind (Sh.get (Sh.put (Sh.put (Sh.put l6 i5 (Step.mk k4 c16.num c16.into c16.args c16.kids)) i5 (Step.mk c19.op (Sh.w (k4 + 1)) c19.into c19.args c19.kids)) i5 (Step.mk c22.op c22.num (Sh.w ((Sh.w (k4 + 1)) + 1)) c22.args c22.kids)) i5) fun c25 =>
   Option.bind (laws_markIntS N c25.args (Sh.w ((Sh.w ((Sh.w (k4 + 1)) + 1)) + 1))) fun q26 =>
   Option.bind (Sh.get (Sh.put (Sh.put (Sh.put (Sh.put l6 i5 (Step.mk k4 c16.num c16.into c16.args c16.kids)) i5 (Step.mk c19.op (Sh.w (k4 + 1)) c19.into c19.args c19.kids)) i5 (Step.mk c22.op c22.num (Sh.w ((Sh.w (k4 + 1)) + 1)) c22.args c22.kids)) i5 (Step.mk c25.op c25.num c25.into q26.2 c25.kids)) i5) fun c28 =>
   Option.bind (laws_markBlockS N rec_laws_markStepS c28.kids q26.1) fun q29 =>
   laws_markStepS_B_L1 N rec_laws_markStepS n q29.1 (Sh.w (i5 + 1)) (Sh.put (Sh.put (Sh.put (Sh.put (Sh.put l6 i5 (Step.mk k4 c16.num c16.into c16.args c16.kids)) i5 (Step.mk c19.op (Sh.w (k4 + 1)) c19.into c19.args c19.kids)) i5 (Step.mk c22.op c22.num (Sh.w ((Sh.w (k4 + 1)) + 1)) c22.args c22.kids)) i5 (Step.mk c25.op c25.num c25.into q26.2 c25.kids)) i5 (Step.mk c28.op c28.num c28.into c28.args q29.2))
  else
   some (k4, l6)
def laws_markStepS_B (N : Nat) (rec_laws_markStepS : (List Step) → Int → Option (Int × (List Step))) (s0 : (List Step)) (p1 : Int) : Option (Int × (List Step)) :=
 Option.bind (laws_markStepS_B_L1 N rec_laws_markStepS N p1 0 s0) fun (k7, l8) =>
 some (k7, l8)
def laws_markStepS_F (N : Nat) : Nat → (List Step) → Int → Option (Int × (List Step))
 | 0, _, _ => none
 | n + 1, s0, p1 => laws_markStepS_B N (laws_markStepS_F N n) s0 p1
def laws_markStepS (N : Nat) (s0 : (List Step)) (p1 : Int) : Option (Int × (List Step)) := laws_markStepS_F N N s0 p1
def laws_heldIntS_L1 (p0 : (List Int)) : Nat → Int → Int → Option ((Int) ⊕ (Int))
 | 0, _, _ => none
 | n + 1, k4, i5 =>
  if (decide (i5 < (Sh.len p0))) = true then
   Option.bind (Sh.get p0 i5) fun c15 =>
   if (!decide (c15 = k4)) = true then
    some (Sum.inl (-1))
   else
    laws_heldIntS_L1 p0 n (Sh.w (k4 + 1)) (Sh.w (i5 + 1))
  else
   some (Sum.inr k4)
def laws_heldIntS (N : Nat) (p0 : (List Int)) (p1 : Int) : Option (Int) :=
 Sh.cont (laws_heldIntS_L1 p0 N p1 0) (id) fun k6 =>
 some k6
end RC


namespace RC
def spec_insert_L1 (p0 : (List Int)) (p1 : Int) : Nat → Bool → Int → (List Int) → Option (Bool × (List Int))
 | 0, _, _, _ => none
 | n + 1, done6, i7, l8 =>
  if (decide (i7 < (Sh.len p0))) = true then
   Option.bind (
    Option.bind (
     if (!done6) = true then
      Option.bind (Sh.get p0 i7) fun c43 =>
      some (decide (p1 ≤ c43))
     else
      some false
    ) fun t32 =>
    if t32 = true then
     Option.bind (
      Option.bind (Sh.get p0 i7) fun c39 =>
      if (decide (p1 < c39)) = true then
       Option.bind (Sh.app l8 [p1] 8) fun l41 =>
       some l41
      else
       some l8
     ) fun l36 =>
     some (true, l36)
    else
     some (done6, l8)
   ) fun (done26, l27) =>
   Option.bind (Sh.get p0 i7) fun c29 =>
   Option.bind (Sh.app l27 [c29] 8) fun l30 =>
   spec_insert_L1 p0 p1 n done26 (Sh.w (i7 + 1)) l30
  else
   some (done6, l8)
def spec_insert (N : Nat) (p0 : (List Int)) (p1 : Int) : Option ((List Int)) :=
 Option.bind (spec_insert_L1 p0 p1 N false 0 []) fun (done9, l10) =>
 Option.bind (
  if (!done9) = true then
   Option.bind (Sh.app l10 [p1] 8) fun l19 =>
   some l19
  else
   some l10
 ) fun l13 =>
 some l13
def spec_addStepUses_L2 (p0 : Step) (p1 : Int) (rec_spec_addUses : Block → Int → Int → (List Int) → Option ((List Int))) : Nat → (List Int) → Int → Option ((List Int))
 | 0, _, _ => none
 | n + 1, list15, i16 =>
  if (decide (i16 < (Sh.len p0.kids))) = true then
   Option.bind (Sh.get p0.kids i16) fun c24 =>
   Option.bind (rec_spec_addUses c24 p1 0 list15) fun q25 =>
   spec_addStepUses_L2 p0 p1 rec_spec_addUses n q25 (Sh.w (i16 + 1))
  else
   some list15
def spec_addStepUses_L1 (N : Nat) (p0 : Step) (p1 : Int) : Nat → (List Int) → Int → Option ((List Int))
 | 0, _, _ => none
 | n + 1, list9, i10 =>
  if (decide (i10 < (Sh.len p0.args))) = true then
   Option.bind (
    Option.bind (
     Option.bind (Sh.get p0.args i10) fun c38 =>
     if (decide (0 ≤ c38)) = true then
      some (decide (c38 < p1))
     else
      some false
    ) fun t33 =>
    if t33 = true then
     Option.bind (Sh.get p0.args i10) fun c36 =>
     Option.bind (spec_insert N list9 c36) fun q37 =>
     some q37
    else
     some list9
   ) fun list30 =>
   spec_addStepUses_L1 N p0 p1 n list30 (Sh.w (i10 + 1))
  else
   some list9
def spec_addStepUses (N : Nat) (rec_spec_addUses : Block → Int → Int → (List Int) → Option ((List Int))) (p0 : Step) (p1 : Int) (p2 : (List Int)) : Option ((List Int)) :=
 Option.bind (spec_isCounting p0.op) fun q4 =>
 if q4 = true then
  some p2
 else
  Option.bind (spec_addStepUses_L1 N p0 p1 N p2 0) fun list11 =>
  Option.bind (spec_addStepUses_L2 p0 p1 rec_spec_addUses N list11 0) fun list17 =>
  some list17
def spec_addUses_B_L1 (N : Nat) (p0 : Block) (p1 : Int) (rec_spec_addUses : Block → Int → Int → (List Int) → Option ((List Int))) : Nat → (List Int) → Int → Option ((List Int))
 | 0, _, _ => none
 | n + 1, list4, i5 =>
  if (decide (i5 < (Sh.len p0.steps))) = true then
   Option.bind (Sh.get p0.steps i5) fun c22 =>
   Option.bind (spec_addStepUses N rec_spec_addUses c22 p1 list4) fun q23 =>
   spec_addUses_B_L1 N p0 p1 rec_spec_addUses n q23 (Sh.w (i5 + 1))
  else
   some list4
def spec_addUses_B (N : Nat) (rec_spec_addUses : Block → Int → Int → (List Int) → Option ((List Int))) (p0 : Block) (p1 : Int) (p2 : Int) (p3 : (List Int)) : Option ((List Int)) :=
 Option.bind (spec_addUses_B_L1 N p0 p1 rec_spec_addUses N p3 p2) fun list6 =>
 Option.bind (
  Option.bind (
   if (decide (0 ≤ p0.result)) = true then
    some (decide (p0.result < p1))
   else
    some false
  ) fun t13 =>
  if t13 = true then
   Option.bind (spec_insert N list6 p0.result) fun q16 =>
   some q16
  else
   some list6
 ) fun list9 =>
 some list9
def spec_addUses_F (N : Nat) : Nat → Block → Int → Int → (List Int) → Option ((List Int))
 | 0, _, _, _, _ => none
 | n + 1, p0, p1, p2, p3 => spec_addUses_B N (spec_addUses_F N n) p0 p1 p2 p3
def spec_addUses (N : Nat) (p0 : Block) (p1 : Int) (p2 : Int) (p3 : (List Int)) : Option ((List Int)) := spec_addUses_F N N p0 p1 p2 p3
def impl_setOf_1 (s1 : (List Int)) (p0 : Int) : Option ((List Int)) :=
 Option.bind (Sh.app s1 [p0] 8) fun l1 =>
 some l1
def impl_visitStep_3_L2 (p0 : Step) (rec_impl_visitUses_3 : (List Int) → Block → Int → Option ((List Int))) : Nat → Int → (List Int) → Option ((List Int))
 | 0, _, _ => none
 | n + 1, t14, l15 =>
  if (decide (t14 < (Sh.len p0.kids))) = true then
   Option.bind (Sh.get p0.kids t14) fun c23 =>
   Option.bind (rec_impl_visitUses_3 l15 c23 0) fun q24 =>
   impl_visitStep_3_L2 p0 rec_impl_visitUses_3 n (Sh.w (t14 + 1)) q24
  else
   some l15
def impl_visitStep_3_L1 (p0 : Step) : Nat → Int → (List Int) → Option ((List Int))
 | 0, _, _ => none
 | n + 1, t8, l9 =>
  if (decide (t8 < (Sh.len p0.args))) = true then
   Option.bind (Sh.get p0.args t8) fun c30 =>
   Option.bind (impl_setOf_1 l9 c30) fun q31 =>
   impl_visitStep_3_L1 p0 n (Sh.w (t8 + 1)) q31
  else
   some l9
def impl_visitStep_3 (N : Nat) (rec_impl_visitUses_3 : (List Int) → Block → Int → Option ((List Int))) (s1 : (List Int)) (p0 : Step) : Option ((List Int)) :=
 Option.bind (impl_isCounting p0.op) fun q4 =>
 if q4 = true then
  some s1
 else
  Option.bind (impl_visitStep_3_L1 p0 N 0 s1) fun l10 =>
  Option.bind (impl_visitStep_3_L2 p0 rec_impl_visitUses_3 N 0 l10) fun l16 =>
  some l16
def impl_visitUses_3_B_L1 (N : Nat) (l4 : (List Step)) (rec_impl_visitUses_3 : (List Int) → Block → Int → Option ((List Int))) : Nat → Int → (List Int) → Option ((List Int))
 | 0, _, _ => none
 | n + 1, t5, l6 =>
  if (decide (t5 < (Sh.len l4))) = true then
   Option.bind (Sh.get l4 t5) fun c15 =>
   Option.bind (impl_visitStep_3 N rec_impl_visitUses_3 l6 c15) fun q16 =>
   impl_visitUses_3_B_L1 N l4 rec_impl_visitUses_3 n (Sh.w (t5 + 1)) q16
  else
   some l6
def impl_visitUses_3_B (N : Nat) (rec_impl_visitUses_3 : (List Int) → Block → Int → Option ((List Int))) (s1 : (List Int)) (p0 : Block) (p1 : Int) : Option ((List Int)) :=
 Option.bind (Sh.sl p0.steps p1 (Sh.len p0.steps)) fun l4 =>
 Option.bind (impl_visitUses_3_B_L1 N l4 rec_impl_visitUses_3 N 0 s1) fun l7 =>
 Option.bind (impl_setOf_1 l7 p0.result) fun q9 =>
 some q9
def impl_visitUses_3_F (N : Nat) : Nat → (List Int) → Block → Int → Option ((List Int))
 | 0, _, _, _ => none
 | n + 1, s1, p0, p1 => impl_visitUses_3_B N (impl_visitUses_3_F N n) s1 p0 p1
def impl_visitUses_3 (N : Nat) (s1 : (List Int)) (p0 : Block) (p1 : Int) : Option ((List Int)) := impl_visitUses_3_F N N s1 p0 p1
def impl_setOf (N : Nat) (p0 : Block) (p1 : Int) : Option ((List Int)) :=
 Option.bind (impl_visitUses_3 N ([] : List Int) p0 p1) fun q4 =>
 Option.bind (slices_Sort_int_int q4) fun q6 =>
 Option.bind (slices_Compact_int_int q6) fun q9 =>
 some q9
def impl_varSet_below_1 (s0_0 : Int) (p0 : Int) : Option (Bool) :=
 Option.bind (
  if (decide (0 ≤ p0)) = true then
   some (decide (p0 < s0_0))
  else
   some false
 ) fun t3 =>
 some t3
def impl_varSet_where_L1 (s0_0 : Int) (p0 : (List Int)) : Nat → Int → (List Int) → Option ((List Int))
 | 0, _, _ => none
 | n + 1, t5, l6 =>
  if (decide (t5 < (Sh.len p0))) = true then
   Option.bind (
    Option.bind (Sh.get p0 t5) fun c17 =>
    Option.bind (impl_varSet_below_1 s0_0 c17) fun q19 =>
    if q19 = true then
     Option.bind (Sh.app l6 [c17] 8) fun l21 =>
     some l21
    else
     some l6
   ) fun l14 =>
   impl_varSet_where_L1 s0_0 p0 n (Sh.w (t5 + 1)) l14
  else
   some l6
def impl_varSet_where (N : Nat) (s0_0 : Int) (p0 : (List Int)) : Option ((List Int)) :=
 Option.bind (impl_varSet_where_L1 s0_0 p0 N 0 []) fun l7 =>
 some l7
def impl_varSet_below (N : Nat) (p0 : (List Int)) (p1 : Int) : Option ((List Int)) :=
 Option.bind (impl_varSet_where N p1 p0) fun q3 =>
 some q3
def laws_markBlock (N : Nat) (s0 : (List Step)) (p0_1 : Int) (p1 : Int) : Option (Int × (List Step)) :=
 Option.bind (laws_markStepS N s0 p1) fun q3 =>
 some (q3.1, q3.2)
end RC


namespace RC
def spec_usedIn (N : Nat) (p0 : Block) (p1 : Int) : Option ((List Int)) :=
 Option.bind (spec_addUses N p0 p1 0 ([] : List Int)) fun q3 =>
 some q3
def spec_UsedIn (N : Nat) (p0 : Block) (p1 : Int) : Option ((List Int)) :=
 Option.bind (spec_stepsOf N p0) fun q4 =>
 if (decide (q4 < 0)) = true then
  some []
 else
  Option.bind (spec_usedIn N p0 p1) fun q8 =>
  some q8
def impl_UsedIn (N : Nat) (p0 : Block) (p1 : Int) : Option ((List Int)) :=
 Option.bind (impl_StepsOf N p0) fun q4 =>
 if (decide (q4 < 0)) = true then
  some []
 else
  Option.bind (impl_setOf N p0 0) fun q8 =>
  Option.bind (impl_varSet_below N q8 p1) fun q9 =>
  some q9
def laws_FnExactUsedIn (N : Nat) (p0 : Block) (p1 : Int) : Option (Bool) :=
 Option.bind (laws_szBlock N p0 1048576) fun q4 =>
 if (decide (q4 < 0)) = true then
  some true
 else
  Option.bind (laws_toBlock N p0) fun q10 =>
  Option.bind (spec_UsedIn N q10 p1) fun q11 =>
  Option.bind (laws_toBlock_2 N p0) fun q13 =>
  Option.bind (impl_UsedIn N q13 p1) fun q15 =>
  Option.bind (laws_eqIntS N q15 q11) fun q18 =>
  if (!q18) = true then
   some false
  else
   Option.bind (laws_toBlock N p0) fun q25 =>
   Option.bind (laws_eqBlock N q13 q25) fun q26 =>
   if (!q26) = true then
    some false
   else
    Option.bind (laws_markBlock N q13.steps q13.result 1) fun q33 =>
    Option.bind (
     if (decide (q33.1 < 0)) = true then
      some true
     else
      Option.bind (laws_eqIntS N q15 q11) fun q83 =>
      some (!q83)
    ) fun t37 =>
    if t37 = true then
     some false
    else
     Option.bind (laws_markIntS N q15 1) fun q43 =>
     Option.bind (laws_heldIntS N q43.2 1) fun q47 =>
     if (decide (q47 < 0)) = true then
      some false
     else
     if (!decide (q47 = q43.1)) = true then
      some false
     else
      Option.bind (laws_toBlock N p0) fun q59 =>
      Option.bind (impl_UsedIn N q59 p1) fun q60 =>
      Option.bind (laws_eqIntS N q60 q11) fun q63 =>
      if (!q63) = true then
       some false
      else
       Option.bind (laws_heldIntS N q43.2 1) fun q70 =>
       if (decide (q70 < 0)) = true then
        some false
       else
       if (!decide (q70 = q43.1)) = true then
        some false
       else
        some true
end RC

