import Derived.Test.YtobjlimoekffaaaAbsO

namespace Go.Abs
open Go
def AQ (P : Program) (s : St) (op : Op) (v : AV) : Prop := ∀ K : AV → Prop, K v → aquiet P s op K
def EL (st : List Row) (v : AV) (ys : List (List AV)) : Prop := ∀ K : List (List AV) → Prop, K ys → aElems st v K
section
variable {P : Program} {s : St} {x y z c : Operand} {v : AV} {t t' : TypeId} {kk : IntKind} {a b : Int} {p q : Bool}
theorem aq_mv (h : s.ev x = v) : AQ P s (.move x) v := fun K hk => by show K (s.ev x); rw [h]; exact hk
theorem aq_as (h : s.ev x = v) : AQ P s (.assign x) v := fun K hk => by show K (s.ev x); rw [h]; exact hk
theorem aPick_t {x y : AV} {K : AV → Prop} (h : K x) : aPick (.bool true) x y K := by
 cases x <;> cases y <;> first | exact h | exact ⟨fun _ => h, fun h => by cases h⟩
theorem aPick_f {x y : AV} {K : AV → Prop} (h : K y) : aPick (.bool false) x y K := by
 cases x <;> cases y <;> first | exact h | exact ⟨fun h => (by cases h), fun _ => h⟩
theorem aq_pkt (hc : s.ev c = .bool p) (hp : p = true) (hx : s.ev x = v) : AQ P s (.pick c x y) v := fun K hk => by
 show aPick (s.ev c) (s.ev x) (s.ev y) K
 rw [hc, hp, hx]; exact aPick_t hk
theorem aq_pkf (hc : s.ev c = .bool p) (hp : p = false) (hy : s.ev y = v) : AQ P s (.pick c x y) v := fun K hk => by
 show aPick (s.ev c) (s.ev x) (s.ev y) K
 rw [hc, hp, hy]; exact aPick_f hk
variable (hx : s.ev x = .int kk a) (hy : s.ev y = .int kk b)
include hx hy
theorem aq_int {op : BinOp} (h : ∀ K : AV → Prop, K v → aInt op kk a b K) : AQ P s (.binOp op t x y t') v := fun K hk => by
 show aBin P t op (s.ev x) (s.ev y) K
 rw [hx, hy]; exact ⟨rfl, h K hk⟩
theorem aq_addk : AQ P s (.binOp .add t x y t') (.int kk (Sh.wk kk (a + b))) := aq_int hx hy fun _ hk => hk
theorem aq_subk : AQ P s (.binOp .sub t x y t') (.int kk (Sh.wk kk (a - b))) := aq_int hx hy fun _ hk => hk
theorem aq_mulk : AQ P s (.binOp .mul t x y t') (.int kk (Sh.wk kk (a * b))) := aq_int hx hy fun _ hk => hk
theorem aq_lt : AQ P s (.binOp .lss t x y t') (.bool (decide (a < b))) := aq_int hx hy fun _ hk => hk
theorem aq_le : AQ P s (.binOp .leq t x y t') (.bool (decide (a ≤ b))) := aq_int hx hy fun _ hk => hk
theorem aq_gt : AQ P s (.binOp .gtr t x y t') (.bool (decide (b < a))) := aq_int hx hy fun _ hk => hk
theorem aq_ge : AQ P s (.binOp .geq t x y t') (.bool (decide (b ≤ a))) := aq_int hx hy fun _ hk => hk
theorem aq_eq : AQ P s (.binOp .eql t x y t') (.bool (decide (a = b))) := aq_int hx hy fun _ hk => hk
theorem aq_ne : AQ P s (.binOp .neq t x y t') (.bool (!decide (a = b))) := aq_int hx hy fun _ hk => hk
end
section
variable {P : Program} {s : St} {x y z c : Operand} {v : AV} {t t' : TypeId} {kk : IntKind} {a b : Int} {p q : Bool}
variable (hx : s.ev x = i64 a) (hy : s.ev y = i64 b)
include hx hy
theorem aq_add : AQ P s (.binOp .add t x y t') (i64 (Sh.w (a + b))) := aq_int hx hy fun _ hk => hk
theorem aq_sub : AQ P s (.binOp .sub t x y t') (i64 (Sh.w (a - b))) := aq_int hx hy fun _ hk => hk
theorem aq_mul : AQ P s (.binOp .mul t x y t') (i64 (Sh.w (a * b))) := aq_int hx hy fun _ hk => hk
end
section
variable {P : Program} {s : St} {x y z c : Operand} {v : AV} {t t' : TypeId} {kk kk' : IntKind} {a b : Int} {p q ag : Bool} {id g i off off' f size sz bytes m j : Nat} {cs vs : List AV} {xs : List (List AV)} {el : TypeId}
theorem aq_beq (ht : isBoolT P t = true) (hx : s.ev x = .bool p) (hy : s.ev y = .bool q) : AQ P s (.binOp .eql t x y t') (.bool (p == q)) := fun K hk => by
 show aBin P t .eql (s.ev x) (s.ev y) K
 rw [hx, hy]; exact ⟨ht, hk⟩
theorem aq_bne (ht : isBoolT P t = true) (hx : s.ev x = .bool p) (hy : s.ev y = .bool q) : AQ P s (.binOp .neq t x y t') (.bool (p != q)) := fun K hk => by
 show aBin P t .neq (s.ev x) (s.ev y) K
 rw [hx, hy]; exact ⟨ht, hk⟩
theorem aq_not (hx : s.ev x = .bool p) : AQ P s (.unOp .not t x) (.bool (!p)) := fun K hk => by
 show aUn .not (s.ev x) K
 rw [hx]; exact hk
theorem aq_neg (hx : s.ev x = i64 a) : AQ P s (.unOp .neg t x) (i64 (Sh.w (-a))) := fun K hk => by
 show aUn .neg (s.ev x) K
 rw [hx]; exact hk
def cinfo (P : Program) (src dst : TypeId) : Option IntKind :=
 match P.underlying src, P.underlying dst with
 | some _, some (.int k) => some k
 | _, _ => none
theorem aq_ex (hx : s.ev x = .tup vs) (hv : vs[i]? = some v) : AQ P s (.extract x i) v := fun K hk => by
 show aExtract (s.ev x) i K
 rw [hx]; exact optK_intro v hv hk
theorem aq_max (hx : s.ev x = .int kk a) (hy : s.ev y = .int kk b) {ts : Array TypeId} : AQ P s (.call ⟨.builtin .max, #[x, y], ts⟩) (.int kk (if b > a then b else a)) := fun K hk => by
 show aMax (s.ev x) (s.ev y) K
 rw [hx, hy]; exact hk
theorem aq_fn {fn : FuncId} {caps : Array Operand} (hc : caps.toList.map s.ev = cs) : AQ P s (.makeFunc (.func fn) #[] caps) (.fn fn cs) := fun K hk => by
 subst hc; exact ⟨rfl, hk⟩
theorem aq_ldi (ht : tinfo P t = some (false, sz)) (hx : s.ev x = .iptr cs off) (hv : cs[off]? = some v) : AQ P s (.load t x) v := fun K hk => by
 show aLoad P s.st t (s.ev x) K
 rw [hx]; exact optK_intro _ ht (optK_intro v hv hk)
theorem aq_ldia (ht : tinfo P t = some (true, sz)) (hx : s.ev x = .iptr cs off) (hl : off + sz ≤ cs.length) (hv : (cs.drop off).take sz = vs) : AQ P s (.load t x) (.agg vs) := fun K hk => by
 show aLoad P s.st t (s.ev x) K
 rw [hx]; subst hv; exact optK_intro _ ht ⟨hl, hk⟩
theorem aq_ldp (ht : tinfo P t = some (false, sz)) (hx : s.ev x = .ptr id g i off) (hr : s.st[id]? = some ⟨g, el, size, xs⟩) (hi : xs[i]? = some cs) (hv : cs[off]? = some v) : AQ P s (.load t x) v := fun K hk => by
 show aLoad P s.st t (s.ev x) K
 rw [hx]; exact optK_intro _ ht (optK_intro _ hr ⟨rfl, optK_intro cs hi (optK_intro v hv hk)⟩)
theorem aq_ldpa (ht : tinfo P t = some (true, sz)) (hx : s.ev x = .ptr id g i off) (hr : s.st[id]? = some ⟨g, el, size, xs⟩) (hi : xs[i]? = some cs) (hl : off + sz ≤ cs.length) (hv : (cs.drop off).take sz = vs) : AQ P s (.load t x) (.agg vs) := fun K hk => by
 show aLoad P s.st t (s.ev x) K
 rw [hx]; subst hv; exact optK_intro _ ht (optK_intro _ hr ⟨rfl, optK_intro cs hi ⟨hl, hk⟩⟩)
theorem aq_fai (hf : finfo P t f = some j) (hx : s.ev x = .iptr cs off) (ho : off + j = off') : AQ P s (.fieldAddr t x f) (.iptr cs off') := fun K hk => by
 show aFieldAddr P t (s.ev x) f s.st K
 rw [hx]; subst ho; exact optK_intro _ hf hk
theorem aq_fap (hf : finfo P t f = some j) (hx : s.ev x = .ptr id g i off) (hr : s.st[id]? = some ⟨g, el, size, xs⟩) (hl : off + j ≤ size) (ho : off + j = off') : AQ P s (.fieldAddr t x f) (.ptr id g i off') := fun K hk => by
 show aFieldAddr P t (s.ev x) f s.st K
 rw [hx]; subst ho; exact optK_intro _ hf (optK_intro _ hr ⟨rfl, hl, hk⟩)
def vinfo (P : Program) (t : TypeId) (f : Nat) : Option (Nat × Bool × Nat) :=
 match P.underlying t with
 | some (.struct fs) => match fs[f]? with
  | some g => match tinfo P g.type with
   | some ti => some (g.offset, ti)
   | none => none
  | none => none
 | _ => none
theorem aField_of {f : Nat} {o : Nat} {ti : Bool × Nat} {K : AV → Prop} (h : vinfo P t f = some (o, ti)) (hk : aPart ti.1 ti.2 cs o K) : aField P t (.agg cs) f K := by
 unfold vinfo at h
 unfold aField
 split at h
 ·rename_i fs hu
  split at h
  ·rename_i gg hg
   split at h
   ·rename_i ti' ht
    simp only [Option.some.injEq, Prod.mk.injEq] at h
    obtain ⟨rfl, rfl⟩ := h
    rw [hu]
    exact optK_intro _ hg (optK_intro _ ht hk)
   ·cases h
  ·cases h
 ·cases h
theorem aq_fd (hf : vinfo P t f = some (off, false, sz)) (hx : s.ev x = .agg cs) (hv : cs[off]? = some v) : AQ P s (.field t x f) v := fun K hk => by
 show aField P t (s.ev x) f K
 rw [hx]; exact aField_of hf (optK_intro v hv hk)
theorem aq_fda (hf : vinfo P t f = some (off, true, sz)) (hx : s.ev x = .agg cs) (hl : off + sz ≤ cs.length) (hv : (cs.drop off).take sz = vs) : AQ P s (.field t x f) (.agg vs) := fun K hk => by
 show aField P t (s.ev x) f K
 rw [hx]; subst hv; exact aField_of hf ⟨hl, hk⟩
variable {α : Type} {l l' : List α} {enc : α → List AV} {n : Int} {zz : List AV} {u : α}
theorem map_get (h : Sh.get l n = some u) : (l.map enc)[n.toNat]? = some (enc u) := by
 rw [List.getElem?_map, (Sh.get_some h).2.1]; rfl
theorem aq_ixs (he : einfo P t = some ⟨el, size, bytes, zz⟩) (hx : s.ev x = .sl (l.map enc)) (hy : s.ev y = .int kk n) (hg : Sh.get l n = some u) (hs : (enc u).length = size) : AQ P s (.indexAddr t x y) (.iptr (enc u) 0) := fun K hk => by
 show aIndexAddr P s.st t (s.ev x) (s.ev y) K
 rw [hx, hy]; exact optK_intro _ he ⟨(Sh.get_some hg).1, optK_intro _ (map_get hg) ⟨hs, hk⟩⟩
theorem aq_ixo (he : einfo P t = some ⟨el, size, bytes, zz⟩) (hx : s.ev x = .own id g m) (hy : s.ev y = .int kk n) (hr : s.st[id]? = some ⟨g, el, size, l.map enc⟩) (hm : m = l.length) (hg : Sh.get l n = some u) :
  AQ P s (.indexAddr t x y) (.ptr id g n.toNat 0) := fun K hk => by
 show aIndexAddr P s.st t (s.ev x) (s.ev y) K
 rw [hx, hy]; subst hm; exact optK_intro _ he ⟨(Sh.get_some hg).1, (Sh.get_some hg).2.2, optK_intro _ hr ⟨rfl, rfl, by simpa using hk⟩⟩
theorem aq_lens (hs : isSliceT P t = true) (hx : s.ev x = .sl (l.map enc)) : AQ P s (.call ⟨.builtin .len, #[x], #[t]⟩) (i64 (Sh.len l)) := fun K hk => by
 refine ⟨hs, ?_⟩
 rw [hx]; simp only [aLen, List.length_map]; exact hk
theorem aq_leno (hs : isSliceT P t = true) (hx : s.ev x = .own id g m) (hr : s.st[id]? = some ⟨g, el, size, l.map enc⟩) (hm : m = l.length) : AQ P s (.call ⟨.builtin .len, #[x], #[t]⟩) (i64 (Sh.len l)) := fun K hk => by
 refine ⟨hs, ?_⟩
 subst hm
 rw [hx]; exact optK_intro _ hr ⟨rfl, hk⟩
theorem aq_nck (hx : s.ev x = .ptr id g i off) (hr : s.st[id]? = some ⟨g, el, size, xs⟩) : AQ P s (.nilCheck x) (.ptr id g i off) := fun K hk => by
 show aNil s.st (s.ev x) K
 rw [hx]; exact optK_intro _ hr ⟨rfl, hk⟩
theorem aq_nci (hx : s.ev x = .iptr cs off) : AQ P s (.nilCheck x) (.iptr cs off) := fun K hk => by
 show aNil s.st (s.ev x) K
 rw [hx]; exact hk
theorem aq_bd {parts : Array (Nat × Operand)} {fs : List (Nat × Nat)} {pv : List (Nat × AV)} (ha : allInfo P t = true) (hf : finfos P t = some fs) (hz : zinfo P t = some zz) (hp : (parts.toList.map fun p => (p.1, s.ev p.2)) = pv) (hc : afill (fs[·]?) zz pv = some cs) :
  AQ P s (.build t parts) (.agg cs) := fun K hk => by
 show aBuild P t (parts.toList.map fun p => (p.1, s.ev p.2)) K
 rw [hp]; exact ⟨ha, optK_intro _ hf (optK_intro _ hz (optK_intro _ hc hk))⟩
variable {st : List Row} {ys : List (List AV)}
theorem el_s : EL st (.sl ys) ys := fun _ hk => hk
theorem el_o (hr : st[id]? = some ⟨g, el, size, l.map enc⟩) (hm : m = l.length) (hlf : ∀ x, (enc x).all AV.leaf = true := by exact fun _ => rfl) : EL st (.own id g m) (l.map enc) := fun K hk => by
 subst hm
 refine optK_intro _ hr ⟨rfl, fun y hy c hc => ?_, ?_⟩
 ·obtain ⟨x, _, rfl⟩ := List.mem_map.1 hy
  exact List.all_eq_true.1 (hlf x) c hc
 rw [← List.length_map (f := enc) (as := l), List.take_length]; exact ⟨rfl, hk⟩
end
section
variable {P : Program} {k : Nat} {ops : Array Oper} {Q : Exit → St → Prop} {ds : List (Option Tmp)} {r : List Oper} {n : Nat} {e : Nat → AV} {st st' : List Row} {op : Op} {ty : TypeId} {ps : String} {ed : Array Edge} {d : Option Tmp} {t : Tmp} {v v' : AV}
variable {jj : Nat} {want b : Bool} {tg : Tmp} {gd : Option (Nat × Bool)}
def GO (ds : List (Option Tmp)) (gd : Option (Nat × Bool)) (e : Nat → AV) : Prop :=
 match gd with
 | none => True
 | some (jj, want) => ∃ tg, ds[jj]? = some (some tg) ∧ e tg = .bool want
theorem go0 : GO ds none e := trivial
theorem go1 (hj : ds[jj]? = some (some tg)) (ht : e tg = .bool b) (hb : b = want) : GO ds (some (jj, want)) e := ⟨tg, hj, by rw [ht, hb]⟩
theorem GO.guard {A B : Prop} (hg : GO ds gd e) (h : A) : aguard ds ⟨d, op, ty, ps, ed, gd⟩ ⟨n, e, st⟩ A B := by
 unfold GO at hg
 unfold aguard
 cases gd with
 | none => exact h
 | some q =>
  obtain ⟨jj, want⟩ := q
  obtain ⟨tg, hj, ht⟩ := hg
  simp only [hj, ht, aGd]
  exact ⟨fun _ => h, fun hh => absurd rfl hh⟩
theorem ao_q (hg : GO ds gd e) (hl : isLoud op = false) (hq : AQ P ⟨n, e, st⟩ op v) (hk : AO P k ops Q (ds ++ [some t]) r ⟨n, upd e t v, st⟩) : AO P k ops Q ds (⟨some t, op, ty, ps, ed, gd⟩ :: r) ⟨n, e, st⟩ := by
 refine AO.step (hg.guard ?_)
 unfold astep
 simp only [hl, Bool.false_eq_true, if_false]
 exact hq _ hk
theorem ao_a (hg : GO ds gd e) (h : astep P k ⟨d, op, ty, ps, ed, gd⟩ ⟨n, e, st⟩ (AO P k ops Q (ds ++ [d]) r)) : AO P k ops Q ds (⟨d, op, ty, ps, ed, gd⟩ :: r) ⟨n, e, st⟩ :=
 AO.step (hg.guard h)
theorem ao_skip (hj : ds[jj]? = some (some tg)) (ht : e tg = .bool b) (hb : b = !want) (h : AO P k ops Q (ds ++ [some t]) r ⟨n, upd e t .un, st⟩) : AO P k ops Q ds (⟨some t, op, ty, ps, ed, some (jj, want)⟩ :: r) ⟨n, e, st⟩ := by
 refine AO.step ?_
 subst hb
 simp only [aguard, hj, ht, aGd]
 exact ⟨fun h => (by cases want <;> cases h), fun _ => h⟩
theorem ao_none (hj : ds[jj]? = some (some tg)) (ht : e tg = .un) (h : AO P k ops Q (ds ++ [some t]) r ⟨n, upd e t .un, st⟩) : AO P k ops Q ds (⟨some t, op, ty, ps, ed, some (jj, want)⟩ :: r) ⟨n, e, st⟩ := by
 refine AO.step ?_
 simp only [aguard, hj, ht, aGd]
 exact h
variable {KS : St → Prop}
theorem d_q (hg : GO ds gd e) (hl : isLoud op = false) (hq : AQ P ⟨n, e, st⟩ op v) (hk : dops P (ds ++ [some t]) r KS ⟨n, upd e t v, st⟩) : dops P ds (⟨some t, op, ty, ps, ed, gd⟩ :: r) KS ⟨n, e, st⟩ := by
 refine hg.guard ?_
 unfold dstep
 simp only [hl, Bool.false_eq_true, if_false]
 exact hq _ hk
theorem d_l (hg : GO ds gd e) (hl : isLoud op = true) (hq : ∀ s0 : St, s0.st = st → (∀ x ∈ op.operands, s0.ev x = St.ev ⟨n, e, st⟩ x) → dstOK s0.n (some t) = true → Yl P ⟨some t, op, ty, ps, ed, gd⟩ s0 v) (hk : dops P (ds ++ [some t]) r KS ⟨n, upd e t v, st⟩) : dops P ds (⟨some t, op, ty, ps, ed, gd⟩ :: r) KS ⟨n, e, st⟩ := by
 refine hg.guard ?_
 unfold dstep
 simp only [hl, if_true]
 exact ⟨v, hq, hk⟩
theorem d_skip (hj : ds[jj]? = some (some tg)) (ht : e tg = .bool b) (hb : b = !want) (h : dops P (ds ++ [some t]) r KS ⟨n, upd e t .un, st⟩) : dops P ds (⟨some t, op, ty, ps, ed, some (jj, want)⟩ :: r) KS ⟨n, e, st⟩ := by
 subst hb
 simp only [dops, aguard, hj, ht, aGd]
 exact ⟨fun h => (by cases want <;> cases h), fun _ => h⟩
theorem d_none (hj : ds[jj]? = some (some tg)) (ht : e tg = .un) (h : dops P (ds ++ [some t]) r KS ⟨n, upd e t .un, st⟩) : dops P ds (⟨some t, op, ty, ps, ed, some (jj, want)⟩ :: r) KS ⟨n, e, st⟩ := by
 simp only [dops, aguard, hj, ht, aGd]
 exact h
theorem d_done {s : St} (h : KS s) : dops P ds [] KS s := h
theorem ev_args {ars : Array Operand} {f : FuncId} {ts : Array TypeId} {s0 s1 : St} (h : ∀ x ∈ (Op.call ⟨.value (.func f), ars, ts⟩).operands, s0.ev x = s1.ev x) : ars.toList.map s0.ev = ars.toList.map s1.ev :=
 List.map_congr_left fun x hx => h x (by simp [Op.operands, Call.operands]; right; simpa using hx)
theorem d_call {f : FuncId} {ars : Array Operand} {ts : Array TypeId} {args : List AV} (hg : GO ds gd e) (hb : hasBody P f = true) (hc : ACalls P f args [] fun r st => r = v ∧ st = []) (ha : ars.toList.map (St.ev ⟨n, e, st⟩) ++ [] = args) (hf : args.all flat = true) (hv : flat v = true)
  (hk : dops P (ds ++ [some t]) r KS ⟨n, upd e t v, st⟩) : dops P ds (⟨some t, .call ⟨.value (.func f), ars, ts⟩, ty, ps, ed, gd⟩ :: r) KS ⟨n, e, st⟩ := by
 refine d_l hg rfl (fun s0 e1 e2 hd k F os a w hr next Q hn => ?_) hk
 refine aloud_ok (k := k) (K := (· = s0.put (some t) v)) hr hd ?_ hn
 show hasBody P f = true ∧ callThen P k s0 f (ars.toList.map s0.ev ++ []) (some t) _
 rw [ev_args e2, ha]
 exact ⟨hb, callThen_quiet hc hf hv rfl⟩
variable {α : Type} {l l' l2 : List α} {enc : α → List AV} {kk kk' : IntKind} {j : Int} {el T : TypeId} {size bytes sz id g i m off : Nat} {zz cs us : List AV} {x y : Operand} {xs : List (List AV)} {ag : Bool} {u u' : α}
theorem ao_alloc (hg : GO ds gd e) (hz : zinfo P T = some zz) (hm : st.length = m) (hst : st ++ [⟨0, T, zz.length, [zz]⟩] = st') (hk : AO P k ops Q (ds ++ [some t]) r ⟨n, upd e t (.ptr m 0 0 0), st'⟩) : AO P k ops Q ds (⟨some t, .alloc T, ty, ps, ed, gd⟩ :: r) ⟨n, e, st⟩ := by
 subst hm; subst hst
 exact ao_a hg (optK_intro _ hz hk)
theorem ao_box (hg : GO ds gd e) (hx : St.ev ⟨n, e, st⟩ x = v) (hc : cellsV v = some cs) (hne : cs.isEmpty = false) (hm : st.length = m) (hst : st ++ [⟨0, T, cs.length, [cs]⟩] = st') (hk : AO P k ops Q (ds ++ [some t]) r ⟨n, upd e t (.ptr m 0 0 0), st'⟩) : AO P k ops Q ds (⟨some t, .box T x, ty, ps, ed, gd⟩ :: r) ⟨n, e, st⟩ := by
 subst hm; subst hst; subst hx
 exact ao_a hg (optK_intro _ hc ⟨(by intro h; rw [h] at hne; cases hne), hk⟩)
theorem ao_str (hg : GO ds gd e) (ht : tinfo P T = some (ag, sz)) (hx : St.ev ⟨n, e, st⟩ x = .ptr id g i off) (hr : st[id]? = some ⟨g, el, size, xs⟩) (hi : xs[i]? = some zz) (hv : St.ev ⟨n, e, st⟩ y = v) (hc : cellsV v = some cs) (hn : cs.length = sz) (hle : off + cs.length ≤ size)
  (hst : st.set id ⟨g, el, size, xs.set i (splice zz off cs)⟩ = st') (hk : AO P k ops Q (ds ++ [none]) r ⟨n, e, st'⟩) : AO P k ops Q ds (⟨none, .store T x y, ty, ps, ed, gd⟩ :: r) ⟨n, e, st⟩ := by
 subst hst; subst hv
 refine ao_a hg ?_
 rw [st_store, hx]; exact optK_intro _ ht (optK_intro _ hr ⟨rfl, optK_intro _ hi (optK_intro _ hc ⟨hn, hle, hk⟩)⟩)
theorem map_put {j : Int} : (l.map enc).set j.toNat (enc u) = (Sh.put l j u).map enc := by simp [Sh.put, List.map_set]
theorem ao_stl (hg : GO ds gd e) (ht : tinfo P T = some (ag, sz)) (hx : St.ev ⟨n, e, st⟩ x = .ptr id g j.toNat off) (hr : st[id]? = some ⟨g, el, size, l.map enc⟩) (hi : Sh.get l j = some u) (hv : St.ev ⟨n, e, st⟩ y = v) (hc : cellsV v = some cs) (hn : cs.length = sz) (hle : off + cs.length ≤ size)
  (hsp : splice (enc u) off cs = enc u') (hst : st.set id ⟨g, el, size, (Sh.put l j u').map enc⟩ = st') (hk : AO P k ops Q (ds ++ [none]) r ⟨n, e, st'⟩) : AO P k ops Q ds (⟨none, .store T x y, ty, ps, ed, gd⟩ :: r) ⟨n, e, st⟩ :=
 ao_str hg ht hx hr (map_get hi) hv hc hn hle (by rw [hsp, map_put]; exact hst) hk
theorem ao_make (hg : GO ds gd e) (he : einfo P T = some ⟨el, size, bytes, zz⟩) (hx : St.ev ⟨n, e, st⟩ x = .int kk j) (hy : St.ev ⟨n, e, st⟩ y = .int kk' j) (hz : enc u = zz) (hl : Sh.mk u j bytes = some l) (hm : st.length = m) (hst : st ++ [⟨0, el, size, l.map enc⟩] = st')
  (hk : AO P k ops Q (ds ++ [some t]) r ⟨n, upd e t (.own m 0 l.length), st'⟩) : AO P k ops Q ds (⟨some t, .makeSlice T x y, ty, ps, ed, gd⟩ :: r) ⟨n, e, st⟩ := by
 subst hm; subst hst; subst hz
 refine ao_a hg ?_
 rw [st_makeSlice]
 unfold Sh.mk at hl
 split at hl
 ·rename_i h
  simp only [Option.some.injEq] at hl
  subst hl
  rw [hx, hy]
  simp only [List.map_replicate, List.length_replicate] at hk
  exact optK_intro _ he ⟨rfl, h.1, h.2.1, h.2.2, hk⟩
 ·cases hl
theorem ao_bs {len : Nat} {parts : Array (Nat × Operand)} {pv : List (Nat × AV)} (hg : GO ds gd e) (he : einfo P T = some ⟨el, size, bytes, zz⟩) (hle : len * size ≤ 16777216) (hp : (parts.toList.map fun p => (p.1, St.ev ⟨n, e, st⟩ p.2)) = pv)
  (hc : afill (fun i => some (i * size, size)) ((List.replicate len zz).flatten) pv = some cs) (hck : chunk size len cs = l.map enc) (hln : len = l.length) (hm : st.length = m) (hst : st ++ [⟨0, el, size, l.map enc⟩] = st') (hk : AO P k ops Q (ds ++ [some t]) r ⟨n, upd e t (.own m 0 l.length), st'⟩) :
  AO P k ops Q ds (⟨some t, .buildSlice T len parts, ty, ps, ed, gd⟩ :: r) ⟨n, e, st⟩ := by
 subst hm; subst hst; subst hln
 refine ao_a hg ?_
 rw [st_buildSlice, hp]; exact optK_intro _ he ⟨hle, optK_intro _ hc (by rw [hck]; exact hk)⟩
theorem ao_apo {ys : AV} (hg : GO ds gd e) (he : einfo P T = some ⟨el, size, bytes, zz⟩) (hx : St.ev ⟨n, e, st⟩ x = .own id g m) (hr : st[id]? = some ⟨g, el, size, l.map enc⟩) (hm : m = l.length) (hy : St.ev ⟨n, e, st⟩ y = ys) (hel : EL st ys (l2.map enc)) (hs : ∀ a, (enc a).length = size) (ha : Sh.app l l2 bytes = some l')
  (hst : st.set id ⟨g + 1, el, size, l'.map enc⟩ = st') (hk : AO P k ops Q (ds ++ [some t]) r ⟨n, upd e t (.own id (g + 1) l'.length), st'⟩) : AO P k ops Q ds (⟨some t, .call ⟨.builtin .append, #[x, y], #[T, T]⟩, ty, ps, ed, gd⟩ :: r) ⟨n, e, st⟩ := by
 subst hst; subst hy; subst hm
 refine ao_a hg ?_
 rw [st_append]
 refine ⟨rfl, ?_⟩
 rw [hx]
 unfold Sh.app at ha
 split at ha
 ·rename_i h
  simp only [Option.some.injEq] at ha
  subst ha
  refine optK_intro _ he (hel _ ⟨fun z hz => ?_, optK_intro _ hr ⟨rfl, (List.length_map _).symm, rfl, rfl, by simpa using h.1, by simpa using h.2, ?_⟩⟩)
  ·obtain ⟨q, _, rfl⟩ := List.mem_map.1 hz; exact hs q
  ·have e1 : (l.map enc).take l.length = l.map enc := by rw [← List.length_map (f := enc) (as := l), List.take_length]
   have e2 : l.length + (l2.map enc).length = (l ++ l2).length := by simp
   simp only [e1, e2, ← List.map_append]
   exact hk
 ·cases ha
theorem ao_sls {lo hi : Option Operand} {i j : Int} (hg : GO ds gd e) (he : einfo P T = some ⟨el, size, bytes, zz⟩) (hx : St.ev ⟨n, e, st⟩ x = .sl (l.map enc)) (h1 : bnd (lo.map (St.ev ⟨n, e, st⟩)) 0 = some i) (h2 : bnd (hi.map (St.ev ⟨n, e, st⟩)) l.length = some j) (hs : ∀ a, (enc a).length = size) (hl : Sh.sl l i j = some l')
  (hk : AO P k ops Q (ds ++ [some t]) r ⟨n, upd e t (.sl (l'.map enc)), st⟩) : AO P k ops Q ds (⟨some t, .slice T x lo hi none, ty, ps, ed, gd⟩ :: r) ⟨n, e, st⟩ := by
 refine ao_a hg ?_
 rw [st_slice]
 simp only [Option.map_none]
 rw [hx]
 unfold Sh.sl at hl
 split at hl
 ·rename_i h
  simp only [Option.some.injEq] at hl
  subst hl
  refine optK_intro _ he (optK_intro _ h1 (optK_intro _ (by rw [List.length_map]; exact h2) ⟨h.1, h.2.1, by simpa using h.2.2, fun z hz => ?_, ?_⟩))
  ·obtain ⟨q, _, rfl⟩ := List.mem_map.1 hz; exact hs q
  ·rw [List.map_drop, List.map_take] at hk
   exact hk
 ·cases hl
def PRows : List Row → Prop
 | [] => True
 | row :: r => pureRow' row.xs ∧ PRows r
theorem PRows.get : ∀ {l : List Row}, PRows l → ∀ row ∈ l, pureRow' row.xs
 | row :: r, h, row', hm => by
  rcases List.mem_cons.1 hm with rfl | hm
  ·exact h.1
  ·exact PRows.get h.2 row' hm
variable {f : FuncId} {ars : Array Operand} {ts : Array TypeId} {args : List AV} {rows : List Row} {s : St}
theorem ao_call (hg : GO ds gd e) (hb : hasBody P f = true) (hc : ACalls P f args [] fun r st => r = v ∧ st = rows) (ha : ars.toList.map (St.ev ⟨n, e, st⟩) ++ [] = args) (hf : args.all flat = true) (hp : PRows rows) (hv : shift st.length v = v') (hst : st ++ rows = st')
  (hk : AO P k ops Q (ds ++ [d]) r (St.put ⟨n, e, st'⟩ d v')) : AO P k ops Q ds (⟨d, .call ⟨.value (.func f), ars, ts⟩, ty, ps, ed, gd⟩ :: r) ⟨n, e, st⟩ := by
 subst hv; subst hst; subst ha
 refine ao_a hg ?_
 rw [st_call_func]
 refine ⟨hb, callThen_pure hc hf ?_⟩
 rintro r st' ⟨rfl, rfl⟩
 exact ⟨hp.get, hk⟩
theorem bo_o {g : Nat} {enc' : α → List AV} (hr : st[id]? = some ⟨g, el, size, l.map enc⟩) (hu : ∀ x, undC (enc x) = enc' x) : bor0 st (.own id g l.length) = .sl (l.map enc') := by
 simp only [bor0, hr, if_true]
 rw [← List.length_map (f := enc) (as := l), Nat.sub_self, List.drop_zero, undR_eq, List.map_map]
 congr 1
 exact List.map_congr_left fun x _ => hu x
theorem undC_simple {cs : List AV} (h : cs.all simple = true) : undC cs = cs := by
 rw [undC_eq]
 exact (List.map_congr_left (g := id) fun c hc => und_simple (List.all_eq_true.1 h c hc)).trans (List.map_id _)
inductive BC (st : List Row) : List AV → List AV → Prop
 | nil : BC st [] []
 | own {α : Type} {l : List α} {enc : α → List AV} {id g size m : Nat} {el : TypeId} {as bs : List AV} (hr : st[id]? = some ⟨g, el, size, l.map enc⟩) (hm : m = l.length) (hp : ∀ x, (enc x).all simple = true) (h : BC st as bs) : BC st (.own id g m :: as) (.sl (l.map enc) :: bs)
 | ownD {α : Type} {l : List α} {enc enc' : α → List AV} {id g size m : Nat} {el : TypeId} {as bs : List AV} (hr : st[id]? = some ⟨g, el, size, l.map enc⟩) (hm : m = l.length) (hp : ∀ x, (enc x).all simple' = true) (hu : ∀ x, undC (enc x) = enc' x) (h : BC st as bs) : BC st (.own id g m :: as) (.sl (l.map enc') :: bs)
 | val {v : AV} {as bs : List AV} (hv : simple v = true) (h : BC st as bs) : BC st (v :: as) (v :: bs)
inductive BA (st : List Row) : List AV → List AV → Prop
 | nil : BA st [] []
 | own {α : Type} {l : List α} {enc : α → List AV} {id g size m : Nat} {el : TypeId} {as bs : List AV} (hr : st[id]? = some ⟨g, el, size, l.map enc⟩) (hm : m = l.length) (hp : ∀ x, (enc x).all simple = true) (h : BA st as bs) : BA st (.own id g m :: as) (.sl (l.map enc) :: bs)
 | ownD {α : Type} {l : List α} {enc enc' : α → List AV} {id g size m : Nat} {el : TypeId} {as bs : List AV} (hr : st[id]? = some ⟨g, el, size, l.map enc⟩) (hm : m = l.length) (hp : ∀ x, (enc x).all simple' = true) (hu : ∀ x, undC (enc x) = enc' x) (h : BA st as bs) : BA st (.own id g m :: as) (.sl (l.map enc') :: bs)
 | agg {cs ds : List AV} {as bs : List AV} (hc : BC st cs ds) (h : BA st as bs) : BA st (.agg cs :: as) (.agg ds :: bs)
 | val {v : AV} {as bs : List AV} (hv : flat v = true) (h : BA st as bs) : BA st (v :: as) (v :: bs)
theorem bor0_simple {v : AV} (h : simple v = true) : bor0 st v = v := by cases v <;> simp_all [simple, bor0]
theorem BC.spec {as bs : List AV} (h : BC st as bs) : as.map (bor0 st) = bs ∧ bs.all simple = true ∧ ∀ id g n, AV.own id g n ∈ as → ∀ row, st[id]? = some row → pureRow' row.xs := by
 induction h with
 | nil => exact ⟨rfl, rfl, by simp⟩
 | own hr hm hp h ih =>
  obtain ⟨h1, h2, h3⟩ := ih
  subst hm
  refine ⟨by rw [List.map_cons, bo_o hr (fun x => undC_simple (hp x)), h1], by simp [simple, h2], fun id' g' n' hx row hrow => ?_⟩
  rcases List.mem_cons.1 hx with hx | hx
  ·cases hx; rw [hr] at hrow; cases hrow; exact (pure_map hp).any
  ·exact h3 id' g' n' hx row hrow
 | ownD hr hm hp hu h ih =>
  obtain ⟨h1, h2, h3⟩ := ih
  subst hm
  refine ⟨by rw [List.map_cons, bo_o hr hu, h1], by simp [simple, h2], fun id' g' n' hx row hrow => ?_⟩
  rcases List.mem_cons.1 hx with hx | hx
  ·cases hx; rw [hr] at hrow; cases hrow; exact pure_mapD hp
  ·exact h3 id' g' n' hx row hrow
 | @val v as bs hv h ih =>
  obtain ⟨h1, h2, h3⟩ := ih
  refine ⟨by rw [List.map_cons, bor0_simple hv, h1], by simp [hv, h2], fun id' g' n' hx row hrow => ?_⟩
  rcases List.mem_cons.1 hx with hx | hx
  ·subst hx; simp [simple] at hv
  ·exact h3 id' g' n' hx row hrow
theorem BA.spec {as bs : List AV} (h : BA st as bs) : as.map (borrow1 st) = bs ∧ bs.all flat = true ∧ ∀ id g n, lentIn as id g n → ∀ row, st[id]? = some row → pureRow' row.xs := by
 induction h with
 | nil => exact ⟨rfl, rfl, by rintro id g n (h | ⟨_, h, _⟩) <;> simp at h⟩
 | own hr hm hp h ih =>
  obtain ⟨h1, h2, h3⟩ := ih
  subst hm
  refine ⟨by rw [List.map_cons, h1]; congr 1; exact bo_o hr (fun x => undC_simple (hp x)), by simp [flat, h2], fun id' g' n' hx row hrow => ?_⟩
  rcases hx with hx | ⟨cs, hx, hin⟩
  ·rcases List.mem_cons.1 hx with hx | hx
   ·cases hx; rw [hr] at hrow; cases hrow; exact (pure_map hp).any
   ·exact h3 id' g' n' (.inl hx) row hrow
  ·rcases List.mem_cons.1 hx with hx | hx
   ·cases hx
   ·exact h3 id' g' n' (.inr ⟨cs, hx, hin⟩) row hrow
 | ownD hr hm hp hu h ih =>
  obtain ⟨h1, h2, h3⟩ := ih
  subst hm
  refine ⟨by rw [List.map_cons, h1]; congr 1; exact bo_o hr hu, by simp [flat, h2], fun id' g' n' hx row hrow => ?_⟩
  rcases hx with hx | ⟨cs, hx, hin⟩
  ·rcases List.mem_cons.1 hx with hx | hx
   ·cases hx; rw [hr] at hrow; cases hrow; exact pure_mapD hp
   ·exact h3 id' g' n' (.inl hx) row hrow
  ·rcases List.mem_cons.1 hx with hx | hx
   ·cases hx
   ·exact h3 id' g' n' (.inr ⟨cs, hx, hin⟩) row hrow
 | agg hc h ih =>
  obtain ⟨h1, h2, h3⟩ := ih
  obtain ⟨g1, g2, g3⟩ := hc.spec
  refine ⟨by rw [List.map_cons, h1]; simp only [borrow1, g1], by simp only [List.all_cons, h2, Bool.and_true]; simpa [flat] using g2, fun id' g' n' hx row hrow => ?_⟩
  rcases hx with hx | ⟨cs, hx, hin⟩
  ·rcases List.mem_cons.1 hx with hx | hx
   ·cases hx
   ·exact h3 id' g' n' (.inl hx) row hrow
  ·rcases List.mem_cons.1 hx with hx | hx
   ·cases hx; exact g3 id' g' n' hin row hrow
   ·exact h3 id' g' n' (.inr ⟨cs, hx, hin⟩) row hrow
 | @val v as bs hv h ih =>
  obtain ⟨h1, h2, h3⟩ := ih
  have e1 : borrow1 st v = v := by
   cases v <;> simp [flat] at hv <;> try rfl
   rename_i cs
   simp only [borrow1]
   congr 1
   exact (List.map_congr_left (g := id) fun c hc => bor0_simple (hv c hc)).trans (List.map_id _)
  refine ⟨by rw [List.map_cons, e1, h1], by simp [hv, h2], fun id' g' n' hx row hrow => ?_⟩
  rcases hx with hx | ⟨cs, hx, hin⟩
  ·rcases List.mem_cons.1 hx with hx | hx
   ·subst hx; simp [flat] at hv
   ·exact h3 id' g' n' (.inl hx) row hrow
  ·rcases List.mem_cons.1 hx with hx | hx
   ·subst hx
    have := List.all_eq_true.1 (show cs.all simple = true from hv) _ hin
    simp [simple] at this
   ·exact h3 id' g' n' (.inr ⟨cs, hx, hin⟩) row hrow
def SRows : List Row → Prop
 | [] => True
 | row :: r => (pureRow' row.xs ∧ ∀ x ∈ row.xs, ∀ c ∈ x, scal1 c = true) ∧ SRows r
theorem SRows.get : ∀ {l : List Row}, SRows l → ∀ row ∈ l, pureRow' row.xs ∧ ∀ x ∈ row.xs, ∀ c ∈ x, scal1 c = true
 | row :: r, h, row', hm => by
  rcases List.mem_cons.1 hm with rfl | hm
  ·exact h.1
  ·exact SRows.get h.2 row' hm
theorem srowD {g : Nat} (h : ∀ x, (enc x).all (fun c => simple' c && scal1 c) = true) (hr : SRows rows) : SRows (⟨g, el, size, l.map enc⟩ :: rows) := by
 refine ⟨⟨fun x hx c hc => ?_, fun x hx c hc => ?_⟩, hr⟩ <;>
 ·obtain ⟨y, _, rfl⟩ := List.mem_map.1 hx
  have := List.all_eq_true.1 (h y) c hc
  simp only [Bool.and_eq_true] at this
  first | exact this.1 | exact this.2
theorem srow {g : Nat} (h : ∀ x, (enc x).all (fun c => simple c && scal1 c) = true) (hr : SRows rows) : SRows (⟨g, el, size, l.map enc⟩ :: rows) :=
 srowD (fun x => List.all_eq_true.2 fun c hc => by
  have := List.all_eq_true.1 (h x) c hc
  simp only [Bool.and_eq_true] at this ⊢
  exact ⟨simple_simple' this.1, this.2⟩) hr
theorem ao_callb {as : List AV} (hg : GO ds gd e) (hb : hasBody P f = true) (hc : ACalls P f args [] fun r st => r = v ∧ st = rows) (ha : ars.toList.map (St.ev ⟨n, e, st⟩) ++ [] = as) (hba : BA st as args) (hsc : scal v = true) (hp : SRows rows) (hv : shift st.length v = v') (hst : st ++ rows = st')
  (hk : AO P k ops Q (ds ++ [d]) r (St.put ⟨n, e, st'⟩ d v')) : AO P k ops Q ds (⟨d, .call ⟨.value (.func f), ars, ts⟩, ty, ps, ed, gd⟩ :: r) ⟨n, e, st⟩ := by
 subst hv; subst hst; subst ha
 obtain ⟨h1, h2, h3⟩ := hba.spec
 refine ao_a hg ?_
 rw [st_call_func]
 refine ⟨hb, callThen_borrow (R := fun r st => r = v ∧ st = rows) ?_ ?_ h3 ?_⟩
 ·show ACalls P f (List.map (borrow1 st) _) [] _
  rw [h1]; exact hc
 ·show (List.map (borrow1 st) _).all flat = true
  rw [h1]; exact h2
 ·rintro r st' ⟨rfl, rfl⟩
  exact ⟨⟨hsc, fun row hrow => (hp.get row hrow).2⟩, fun row hrow => (hp.get row hrow).1, hk⟩
theorem d_callb {as : List AV} {KS : St → Prop} {t : Tmp} (hg : GO ds gd e) (hb : hasBody P f = true) (hc : ACalls P f args [] fun r st => r = v ∧ st = []) (ha : ars.toList.map (St.ev ⟨n, e, st⟩) ++ [] = as) (hba : BA st as args) (hsc : scal v = true) (hv : shift st.length v = v')
  (hk : dops P (ds ++ [some t]) r KS ⟨n, upd e t v', st⟩) : dops P ds (⟨some t, .call ⟨.value (.func f), ars, ts⟩, ty, ps, ed, gd⟩ :: r) KS ⟨n, e, st⟩ := by
 subst hv; subst ha
 obtain ⟨h1, h2, h3⟩ := hba.spec
 refine d_l hg rfl (fun s0 e1 e2 hd k F os a w hr next Q hn => ?_) hk
 refine aloud_ok (k := k) (K := (· = s0.put (some t) (shift st.length v))) hr hd ?_ hn
 show hasBody P f = true ∧ callThen P k s0 f (ars.toList.map s0.ev ++ []) (some t) _
 rw [ev_args e2]
 refine ⟨hb, ?_⟩
 subst e1
 refine callThen_borrow (R := fun r st' => r = v ∧ st' = []) ?_ ?_ h3 ?_
 ·show ACalls P f (List.map (borrow1 s0.st) _) [] _
  rw [h1]; exact hc
 ·show (List.map (borrow1 s0.st) _).all flat = true
  rw [h1]; exact h2
 ·rintro r st' ⟨rfl, rfl⟩
  refine ⟨⟨hsc, by simp⟩, by simp, ?_⟩
  rw [List.append_nil]
end
section
variable {P : Program} {k : Nat} {Q : Exit → St → Prop} {s s' : St} {x y c : Code}
theorem AW.cond' {o : Operand} {b : Bool} (ho : s.ev o = .bool b) (h1 : b = true → AW P k x Q s) (h2 : b = false → AW P k y Q s) : AW P k (.cond o x y) Q s :=
 AW.cond fun K1 K2 e1 e2 => by rw [ho]; exact ⟨fun h => e1 (h1 h), fun h => e2 (h2 h)⟩
theorem AW.loopF {σ : Type} (I : Nat → σ → Prop) (canon : σ → St) (n0 : Nat) (v0 : σ) (h0 : I n0 v0) (hw : Wk k s (canon v0)) (hz : ∀ v, ¬ I 0 v)
  (round : ∀ n v, I (n + 1) v → AW P k c (athen (fun s' => ∃ v', I n v' ∧ Wk k s' (canon v')) Q) (canon v)) : AW P k (.loop c) Q s := by
 refine AW.weaken hw ?_
 have key : ∀ n v, I n v → ∀ F os a w, Rel F os (canon v) a w → ∀ (b : Frame) (kk : List Item) (cs : List Frame),
   ∃ e a' w', Post k Q F os w e a' w' ∧ Arrives P (lone (b.at a (.code c :: .inLoop c :: kk)) cs w) b kk cs e a' w' := by
  intro n
  induction n with
  | zero => intro v hI; exact absurd hI (hz v)
  | succ n ih =>
   intro v hI F os a w hr b kk cs
   obtain ⟨e, a₁, w₁, ⟨s1, F1, os1, hq, hR1, hE1⟩, harr⟩ := round n v hI F os a w hr b (.inLoop c :: kk) cs
   cases e with
   | normal =>
    obtain ⟨v2, hI2, hw2⟩ := hq
    obtain ⟨F2, os2, hR2, hE2⟩ := hw2 F1 os1 a₁ w₁ hR1
    obtain ⟨e₂, a₂, w₂, hq₂, harr₂⟩ := ih v2 hI2 F2 os2 a₁ w₁ hR2 b kk cs
    exact ⟨e₂, a₂, w₂, hq₂.trans (hE1.trans hE2), .of_steps (Steps.trans harr (.one step_inLoop)) harr₂⟩
   | exit id => exact ⟨_, a₁, w₁, ⟨s1, F1, os1, hq, hR1, hE1⟩, .pass (x := .inLoop c) rfl (fun _ _ => .inl (by simp)) harr⟩
   | goto l => exact ⟨_, a₁, w₁, ⟨s1, F1, os1, hq, hR1, hE1⟩, .pass (x := .inLoop c) rfl (fun _ _ => .inl (by simp)) harr⟩
   | ret => exact ⟨_, a₁, w₁, ⟨s1, F1, os1, hq, hR1, hE1⟩, .pass (x := .inLoop c) rfl (fun _ _ => .inl (by simp)) harr⟩
   | panic ch => exact ⟨_, a₁, w₁, ⟨s1, F1, os1, hq, hR1, hE1⟩, .pass (x := .inLoop c) rfl (fun _ _ => .inl (by simp)) harr⟩
   | outgrown => exact ⟨_, a₁, w₁, ⟨s1, F1, os1, hq, hR1, hE1⟩, .pass (x := .inLoop c) rfl (fun _ _ => .inl (by simp)) harr⟩
 intro F os a w hr b kk cs
 obtain ⟨e, a', w', hq, harr⟩ := key n0 v0 h0 F os a w hr b kk cs
 exact ⟨e, a', w', hq, .of_steps (.one step_loop) harr⟩
end
end Go.Abs

